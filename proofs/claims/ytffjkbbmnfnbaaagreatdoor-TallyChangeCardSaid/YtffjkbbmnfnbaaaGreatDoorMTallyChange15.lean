/- Part 15 of this claim: several texts one behind the other: EvXf, EvXg. What each shows stands in its theorems; conditions: sizes of texts and lists, as the functions' definitions say. -/
import Derived.Test.YtffjkbbmnfnbaaaGreatDoorMTallyChange14
section
namespace Go.Proofs.YtffjkbbmnfnbaaaGreatDoor.Q
open Go.Proofs.YtffjkbbmnfnbaaaGreatDoor.QB.D
open Go Go.RowKit Go.Lib Go.Proofs.YtffjkbbmnfnbaaaGreatDoorW.PrintWords Go.Ev Gw
set_option linter.unusedVariables false
set_option maxRecDepth 100000
def awA : Nd := ⟨⟨#[97]⟩, ⟨#[118, 49, 46, 57, 46, 48]⟩⟩
def awB : Nd := ⟨⟨#[97]⟩, ⟨#[118, 49, 46, 49, 48, 46, 48]⟩⟩
theorem awA_may : mayN awA = true := by decide +kernel
theorem awB_may : mayN awB = true := by decide +kernel
theorem awAB : ordN awA awB < 0 := by decide +kernel
theorem awA_b : Brief awA := by decide +kernel
theorem awB_b : Brief awB := by decide +kernel
theorem awS2 : IsSet [awA, awB] := by
 refine ⟨fun x hx => ?_, fun x hx => ?_, ?_⟩
 ·simp only [List.mem_cons, List.not_mem_nil, or_false] at hx
  rcases hx with rfl | rfl
  ·exact mayN_good awA_b.tiny awA_may
  ·exact mayN_good awB_b.tiny awB_may
 ·simp only [List.mem_cons, List.not_mem_nil, or_false] at hx
  rcases hx with rfl | rfl
  ·exact awA_may
  ·exact awB_may
 ·exact List.pairwise_cons.2 ⟨fun x hx => by rw [List.mem_singleton] at hx; subst hx; exact awAB, List.pairwise_singleton _ _⟩
theorem awS1 : IsSet [awA] := ⟨fun x hx => awS2.good x (by rw [List.mem_singleton] at hx; subst hx; simp), fun x hx => awS2.may x (by rw [List.mem_singleton] at hx; subst hx; simp), List.pairwise_singleton _ _⟩
theorem awSet : setN [awB, awA] = [awA, awB] := by
 refine (setN_set (fun x hx => ?_) fun x hx => ?_).ext awS2 fun x => ?_
 ·exact (awS2.good x (by simp only [List.mem_cons, List.not_mem_nil, or_false] at hx ⊢; exact hx.symm)).1 |> fun h => ⟨h, (awS2.good x (by simp only [List.mem_cons, List.not_mem_nil, or_false] at hx ⊢; exact hx.symm)).2.1⟩
 ·exact awS2.may x (by simp only [List.mem_cons, List.not_mem_nil, or_false] at hx ⊢; exact hx.symm)
 ·rw [mem_setN]
  simp only [List.mem_cons, List.not_mem_nil, or_false]
  exact or_comm
theorem awBrief2 : ∀ x ∈ [awA, awB], Brief x := fun x hx => by
 simp only [List.mem_cons, List.not_mem_nil, or_false] at hx
 rcases hx with rfl | rfl
 ·exact awA_b
 ·exact awB_b
theorem aw_ne : awA ≠ awB := fun e => by
 have := awAB
 rw [e] at this
 exact absurd this (by decide +kernel)
theorem awake16_pc : PC 19 [] (.s (.bool true)) := by
 have f2 : FewRs (rowsN [awA, awB]) := fewRs_rows awS2 (by decide) awBrief2
 have f1 : FewRs (rowsN [awA]) := fewRs_rows awS1 (by decide) (fun x hx => by rw [List.mem_singleton] at hx; subst hx; exact awA_b)
 have wO := ofc (m := [awB, awA]) (by decide) (fun x hx => awBrief2 x (by simp only [List.mem_cons, List.not_mem_nil, or_false] at hx ⊢; exact hx.symm)) (by rw [awSet]; decide)
 rw [awSet, show [awB, awA].all mayN = true by rw [List.all_cons, List.all_cons, awA_may, awB_may]; rfl] at wO
 simp only [if_true] at wO
 have wB2 := bestc (p := ⟨#[97]⟩) f2 (by decide)
 rw [(best_ref (rows_good awS2) (by decide +kernel)).1, show b16 ⟨#[97]⟩ (rowsN [awA, awB]) = (⟨#[118, 49, 46, 49, 48, 46, 48]⟩, true) by decide +kernel] at wB2
 have wD := dropc (n := awB) f2 awB_b
 rw [drop_in (rows_good awS2) awB_may (by rw [allN_rows]; simp) awS1 (fun x => by
  rw [allN_rows]
  simp only [List.mem_cons, List.not_mem_nil, or_false]
  constructor
  ·rintro rfl; exact ⟨Or.inl rfl, aw_ne⟩
  ·rintro ⟨h | h, h2⟩
   ·exact h
   ·exact absurd h h2)] at wD
 simp only [] at wD
 have wB1 := bestc (p := ⟨#[97]⟩) f1 (by decide)
 rw [(best_ref (rows_good awS1) (by decide +kernel)).1, show b16 ⟨#[97]⟩ (rowsN [awA]) = (⟨#[118, 49, 46, 57, 46, 48]⟩, true) by decide +kernel] at wB1
 have wB0 := bestc (p := ⟨#[98]⟩) f1 (by decide)
 rw [(best_ref (rows_good awS1) (by decide +kernel)).1, show b16 ⟨#[98]⟩ (rowsN [awA]) = (⟨#[]⟩, false) by decide +kernel] at wB0
 simp only [if_true, if_false, Bool.false_eq_true] at wB2 wB1 wB0
 generalize (rowsN [awA, awB]).map evRw = L2 at *
 generalize (rowsN [awA]).map evRw = L1 at *
 refine pc_of tt_ok tt_follows Tryz.func19 rfl (by kernel_rfl) (by kernel_rfl) (Nat.le_of_ble_eq_true rfl) rfl ?_
 conv => whnf
 refine ⟨_, wO, ?_⟩
 conv => whnf
 refine ⟨_, wB2, ?_⟩
 conv => whnf
 refine ⟨_, wD, ?_⟩
 conv => whnf
 refine ⟨_, wB1, ?_⟩
 conv => whnf
 refine ⟨_, wB0, ?_⟩
 conv => whnf
 refine ⟨fun _ => ?_, (fun h => by cases h)⟩
 conv => whnf
 refine ⟨fun _ => ?_, (fun h => by simp at h)⟩
 conv => whnf
 refine ⟨fun _ => ?_, (fun h => by cases h)⟩
 conv => whnf
 refine ⟨fun _ => ?_, (fun h => by cases h)⟩
 conv => whnf
 refine ⟨fun _ => ?_, (fun h => by simp at h)⟩
 conv => whnf
 refine ⟨fun _ => ?_, (fun h => by cases h)⟩
 conv => whnf
 rfl
theorem tallyChange_pc (l0 : List RW) (n0 : Nd) : PC 4 [.sl 0 2 (l0.map evRw), evN n0] (.s (.bool true)) := by
 have fl := fewR_few l0
 have fa := fewR_all l0
 have nb := oneN_brief n0
 have w1 := few16_pc l0
 have w2 := one5_pc n0
 generalize fewR l0 = l at fl fa w1
 generalize oneN n0 = n at nb w2
 have wA := addc fl nb
 have wD := dropc fl nb
 have wC := checkc fl
 have wM := may16c fl
 have wN := ref5May_pc n nb
 have wT := tsamec l fl
 have wS := same16c l fl
 rw [eqR_self] at wT wS
 by_cases hb : GRs l ∧ mayN n = true
 ·obtain ⟨hg, hm⟩ := hb
  rw [mayB_t hg] at wM
  rw [chk_good hg] at wC
  rw [hm] at wN
  have hs := hg.set fl.tiny
  have wAl := all16c fl
  have wH := has5_pc (allN l) n fl.all
  have gn := mayN_good nb.tiny hm
  by_cases hin : n ∈ allN l
  ·rw [any_in.2 hin] at wH
   rw [add_in hg hm hin] at wA
   have hs2 := minus5_set hs [n]
   rw [drop_in hg hm hin hs2 (minus5_eq _ n)] at wD
   simp only [] at wA wD
   have ln : (minus5 (allN l) [n]).length ≤ (allN l).length := List.length_filter_le _ _
   have fD : FewRs (rowsN (minus5 (allN l) [n])) := fewRs_rows hs2 (by omega) (fun x hx => fl.brief x (List.mem_filter.1 hx).1)
   have wMi := minus5_pc (allN l) [n] fl.all (Nat.le_of_ble_eq_true rfl)
   have wO := of16c (s := minus5 (allN l) [n]) (by omega)
   have wSD := same16c (rowsN (minus5 (allN l) [n])) fD
   rw [eqR_self] at wSD
   refine pc_of tt_ok tt_follows Tryz.func4 rfl (by kernel_rfl) (by kernel_rfl) (Nat.le_of_ble_eq_true rfl) rfl ?_
   conv => whnf
   refine ⟨_, w1, ?_⟩
   conv => whnf
   refine ⟨_, w2, ?_⟩
   conv => whnf
   refine ⟨by kernel_rfl, ?_⟩
   conv => whnf
   refine ⟨_, wA, ?_⟩
   conv => whnf
   refine ⟨_, wD, ?_⟩
   conv => whnf
   refine ⟨_, wC, ?_⟩
   conv => whnf
   refine ⟨_, wM, ?_⟩
   conv => whnf
   refine ⟨(fun h => by cases h), fun _ => ?_⟩
   conv => whnf
   refine ⟨_, wT, ?_⟩
   conv => whnf
   refine ⟨_, wS, ?_⟩
   conv => whnf
   refine ⟨(fun h => by cases h), fun _ => ?_⟩
   conv => whnf
   refine ⟨_, wM, ?_⟩
   conv => whnf
   refine ⟨(fun h => by cases h), fun _ => ?_⟩
   conv => whnf
   refine ⟨_, wN, ?_⟩
   conv => whnf
   refine ⟨(fun h => by cases h), fun _ => ?_⟩
   conv => whnf
   refine ⟨_, wAl, ?_⟩
   conv => whnf
   refine ⟨_, wH, ?_⟩
   conv => whnf
   refine ⟨fun _ => ?_, (fun h => by cases h)⟩
   conv => whnf
   refine ⟨_, wS, ?_⟩
   conv => whnf
   refine ⟨fun _ => ?_, (fun h => by cases h)⟩
   conv => whnf
   refine ⟨fun _ => ?_, (fun h => by cases h)⟩
   conv => whnf
   refine ⟨_, wMi, ?_⟩
   conv => whnf
   refine ⟨_, wO, ?_⟩
   conv => whnf
   refine ⟨_, wSD, ?_⟩
   conv => whnf
   refine ⟨fun _ => ?_, (fun h => by cases h)⟩
   conv => whnf
   refine ⟨fun _ => ?_, (fun h => by cases h)⟩
   conv => whnf
   refine ⟨_, awake16_pc, ?_⟩
   (conv => whnf) <;> try rfl
  ·rw [any_out.2 hin] at wH
   have hs2 := rwithN_set hs gn hm
   have m2 := mem_rwithN hs.good gn
   rw [add_out hg hm hin hs2 m2] at wA
   rw [drop_out hg hm hin] at wD
   simp only [] at wA wD
   have ln := rwithN_len hs.good gn
   have fA : FewRs (rowsN (rwithN (allN l) n)) := fewRs_rows hs2 (by omega) (fun x hx => ((m2 x).1 hx).elim (fl.brief x) (fun e => by rw [e]; exact nb))
   have wW := rwith_pc (allN l) n (by omega) (fun x hx => ⟨fl.brief x hx, hs.may x hx⟩) ⟨nb, hm⟩
   have wO := of16c (s := rwithN (allN l) n) (by omega)
   have wSA := same16c (rowsN (rwithN (allN l) n)) fA
   rw [eqR_self] at wSA
   have wTA := tsamec l fA
   have wSB := same16c l fA
   generalize eqB eqR (rowsN (rwithN (allN l) n)) l = q at wTA wSB
   refine pc_of tt_ok tt_follows Tryz.func4 rfl (by kernel_rfl) (by kernel_rfl) (Nat.le_of_ble_eq_true rfl) rfl ?_
   conv => whnf
   refine ⟨_, w1, ?_⟩
   conv => whnf
   refine ⟨_, w2, ?_⟩
   conv => whnf
   refine ⟨by kernel_rfl, ?_⟩
   conv => whnf
   refine ⟨_, wA, ?_⟩
   conv => whnf
   refine ⟨_, wD, ?_⟩
   conv => whnf
   refine ⟨_, wC, ?_⟩
   conv => whnf
   refine ⟨_, wM, ?_⟩
   conv => whnf
   refine ⟨(fun h => by cases h), fun _ => ?_⟩
   conv => whnf
   refine ⟨_, wTA, ?_⟩
   conv => whnf
   refine ⟨_, wSB, ?_⟩
   conv => whnf
   refine ⟨(fun h => by cases q <;> cases h), fun _ => ?_⟩
   conv => whnf
   refine ⟨_, wM, ?_⟩
   conv => whnf
   refine ⟨(fun h => by cases h), fun _ => ?_⟩
   conv => whnf
   refine ⟨_, wN, ?_⟩
   conv => whnf
   refine ⟨(fun h => by cases h), fun _ => ?_⟩
   conv => whnf
   refine ⟨_, wAl, ?_⟩
   conv => whnf
   refine ⟨_, wH, ?_⟩
   conv => whnf
   refine ⟨(fun h => by cases h), fun _ => ?_⟩
   conv => whnf
   refine ⟨_, wW, ?_⟩
   conv => whnf
   refine ⟨_, wO, ?_⟩
   conv => whnf
   refine ⟨_, wSA, ?_⟩
   conv => whnf
   refine ⟨fun _ => ?_, (fun h => by cases h)⟩
   conv => whnf
   refine ⟨fun _ => ?_, (fun h => by cases h)⟩
   conv => whnf
   refine ⟨_, wS, ?_⟩
   conv => whnf
   refine ⟨fun _ => ?_, (fun h => by cases h)⟩
   conv => whnf
   refine ⟨fun _ => ?_, (fun h => by cases h)⟩
   conv => whnf
   refine ⟨_, awake16_pc, ?_⟩
   (conv => whnf) <;> try rfl
 ·rw [add_bad hb] at wA
  rw [drop_bad hb] at wD
  simp only [] at wA wD
  obtain ⟨c, hc⟩ : ∃ c, chkT l = c := ⟨_, rfl⟩
  obtain ⟨b, hbb⟩ : ∃ b, mayB l = b := ⟨_, rfl⟩
  have hcb : (c == 0) = b := by
   by_cases hg : GRs l
   ·rw [← hc, ← hbb, chk_good hg, mayB_t hg]; rfl
   ·rw [← hc, ← hbb, chk_f hg, mayB_f hg]; rfl
  have hno : b = true → mayN n = false := fun h => by
   cases hm : mayN n
   ·rfl
   ·exfalso
    refine hb ⟨?_, hm⟩
    rw [h] at hbb
    by_cases hg : GRs l
    ·exact hg
    ·rw [mayB_f hg] at hbb; cases hbb
  rw [hc] at wC
  rw [hbb] at wM
  refine pc_of tt_ok tt_follows Tryz.func4 rfl (by kernel_rfl) (by kernel_rfl) (Nat.le_of_ble_eq_true rfl) rfl ?_
  conv => whnf
  refine ⟨_, w1, ?_⟩
  conv => whnf
  refine ⟨_, w2, ?_⟩
  conv => whnf
  refine ⟨by kernel_rfl, ?_⟩
  conv => whnf
  refine ⟨_, wA, ?_⟩
  conv => whnf
  refine ⟨_, wD, ?_⟩
  conv => whnf
  refine ⟨_, wC, ?_⟩
  conv => whnf
  refine ⟨_, wM, ?_⟩
  conv => whnf
  refine ⟨(fun h => by rw [hcb] at h; cases b <;> cases h), fun _ => ?_⟩
  conv => whnf
  refine ⟨_, wT, ?_⟩
  conv => whnf
  refine ⟨_, wS, ?_⟩
  conv => whnf
  refine ⟨(fun h => by cases h), fun _ => ?_⟩
  conv => whnf
  refine ⟨_, wM, ?_⟩
  conv => whnf
  constructor
  ·intro h
   obtain rfl : b = false := by cases b <;> first | rfl | cases h
   conv => whnf
   refine ⟨_, wS, ?_⟩
   conv => whnf
   refine ⟨fun _ => ?_, (fun h => by cases h)⟩
   conv => whnf
   refine ⟨fun _ => ?_, (fun h => by cases h)⟩
   conv => whnf
   refine ⟨_, wS, ?_⟩
   conv => whnf
   refine ⟨fun _ => ?_, (fun h => by cases h)⟩
   conv => whnf
   refine ⟨fun _ => ?_, (fun h => by cases h)⟩
   conv => whnf
   refine ⟨_, awake16_pc, ?_⟩
   (conv => whnf) <;> try rfl
  ·intro h
   obtain rfl : b = true := by cases b <;> first | rfl | cases h
   conv => whnf
   rw [hno rfl] at wN
   refine ⟨_, wN, ?_⟩
   conv => whnf
   refine ⟨fun _ => ?_, (fun h => by cases h)⟩
   conv => whnf
   refine ⟨_, wS, ?_⟩
   conv => whnf
   refine ⟨fun _ => ?_, (fun h => by cases h)⟩
   conv => whnf
   refine ⟨fun _ => ?_, (fun h => by cases h)⟩
   conv => whnf
   refine ⟨_, wS, ?_⟩
   conv => whnf
   refine ⟨fun _ => ?_, (fun h => by cases h)⟩
   conv => whnf
   refine ⟨fun _ => ?_, (fun h => by cases h)⟩
   conv => whnf
   refine ⟨_, awake16_pc, ?_⟩
   (conv => whnf) <;> try rfl
end Go.Proofs.YtffjkbbmnfnbaaaGreatDoor.Q
end
