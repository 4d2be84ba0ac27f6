/- Part 15 of this claim: several texts one behind the other: EvXf, EvXi. What each shows stands in its theorems; conditions: sizes of texts and lists, as the functions' definitions say. -/
import Derived.Test.YtffjkbbmnfnbaaaGreatDoorMTallyCounts14
section
namespace Go.Proofs.YtffjkbbmnfnbaaaGreatDoor.Q
open Go.Proofs.YtffjkbbmnfnbaaaGreatDoor.QB.D
open Go Go.RowKit Go.Lib Go.Proofs.YtffjkbbmnfnbaaaGreatDoorW.PrintWords Go.Ev Gw
set_option linter.unusedVariables false
set_option maxRecDepth 100000
def awA : Nd := ⟨⟨#[97]⟩, ⟨#[118, 49, 46, 57, 46, 48]⟩⟩
def awB : Nd := ⟨⟨#[97]⟩, ⟨#[118, 49, 46, 49, 48, 46, 48]⟩⟩
theorem awA_may : mayN awA = true := by decide +kernel
theorem awB_may : mayN awB = true := by decide +kernel
theorem awAB : ordN awA awB < 0 := by decide +kernel
theorem awA_b : Brief awA := by decide +kernel
theorem awB_b : Brief awB := by decide +kernel
theorem awS2 : IsSet [awA, awB] := by
 refine ⟨fun x hx => ?_, fun x hx => ?_, ?_⟩
 ·simp only [List.mem_cons, List.not_mem_nil, or_false] at hx
  rcases hx with rfl | rfl
  ·exact mayN_good awA_b.tiny awA_may
  ·exact mayN_good awB_b.tiny awB_may
 ·simp only [List.mem_cons, List.not_mem_nil, or_false] at hx
  rcases hx with rfl | rfl
  ·exact awA_may
  ·exact awB_may
 ·exact List.pairwise_cons.2 ⟨fun x hx => by rw [List.mem_singleton] at hx; subst hx; exact awAB, List.pairwise_singleton _ _⟩
theorem awS1 : IsSet [awA] := ⟨fun x hx => awS2.good x (by rw [List.mem_singleton] at hx; subst hx; simp), fun x hx => awS2.may x (by rw [List.mem_singleton] at hx; subst hx; simp), List.pairwise_singleton _ _⟩
theorem awSet : setN [awB, awA] = [awA, awB] := by
 refine (setN_set (fun x hx => ?_) fun x hx => ?_).ext awS2 fun x => ?_
 ·exact (awS2.good x (by simp only [List.mem_cons, List.not_mem_nil, or_false] at hx ⊢; exact hx.symm)).1 |> fun h => ⟨h, (awS2.good x (by simp only [List.mem_cons, List.not_mem_nil, or_false] at hx ⊢; exact hx.symm)).2.1⟩
 ·exact awS2.may x (by simp only [List.mem_cons, List.not_mem_nil, or_false] at hx ⊢; exact hx.symm)
 ·rw [mem_setN]
  simp only [List.mem_cons, List.not_mem_nil, or_false]
  exact or_comm
theorem awBrief2 : ∀ x ∈ [awA, awB], Brief x := fun x hx => by
 simp only [List.mem_cons, List.not_mem_nil, or_false] at hx
 rcases hx with rfl | rfl
 ·exact awA_b
 ·exact awB_b
theorem aw_ne : awA ≠ awB := fun e => by
 have := awAB
 rw [e] at this
 exact absurd this (by decide +kernel)
theorem awake16_pc : PC 19 [] (.s (.bool true)) := by
 have f2 : FewRs (rowsN [awA, awB]) := fewRs_rows awS2 (by decide) awBrief2
 have f1 : FewRs (rowsN [awA]) := fewRs_rows awS1 (by decide) (fun x hx => by rw [List.mem_singleton] at hx; subst hx; exact awA_b)
 have wO := ofc (m := [awB, awA]) (by decide) (fun x hx => awBrief2 x (by simp only [List.mem_cons, List.not_mem_nil, or_false] at hx ⊢; exact hx.symm)) (by rw [awSet]; decide)
 rw [awSet, show [awB, awA].all mayN = true by rw [List.all_cons, List.all_cons, awA_may, awB_may]; rfl] at wO
 simp only [if_true] at wO
 have wB2 := bestc (p := ⟨#[97]⟩) f2 (by decide)
 rw [(best_ref (rows_good awS2) (by decide +kernel)).1, show b16 ⟨#[97]⟩ (rowsN [awA, awB]) = (⟨#[118, 49, 46, 49, 48, 46, 48]⟩, true) by decide +kernel] at wB2
 have wD := dropc (n := awB) f2 awB_b
 rw [drop_in (rows_good awS2) awB_may (by rw [allN_rows]; simp) awS1 (fun x => by
  rw [allN_rows]
  simp only [List.mem_cons, List.not_mem_nil, or_false]
  constructor
  ·rintro rfl; exact ⟨Or.inl rfl, aw_ne⟩
  ·rintro ⟨h | h, h2⟩
   ·exact h
   ·exact absurd h h2)] at wD
 simp only [] at wD
 have wB1 := bestc (p := ⟨#[97]⟩) f1 (by decide)
 rw [(best_ref (rows_good awS1) (by decide +kernel)).1, show b16 ⟨#[97]⟩ (rowsN [awA]) = (⟨#[118, 49, 46, 57, 46, 48]⟩, true) by decide +kernel] at wB1
 have wB0 := bestc (p := ⟨#[98]⟩) f1 (by decide)
 rw [(best_ref (rows_good awS1) (by decide +kernel)).1, show b16 ⟨#[98]⟩ (rowsN [awA]) = (⟨#[]⟩, false) by decide +kernel] at wB0
 simp only [if_true, if_false, Bool.false_eq_true] at wB2 wB1 wB0
 generalize (rowsN [awA, awB]).map evRw = L2 at *
 generalize (rowsN [awA]).map evRw = L1 at *
 refine pc_of tt_ok tt_follows Tryz.func19 rfl (by kernel_rfl) (by kernel_rfl) (Nat.le_of_ble_eq_true rfl) rfl ?_
 conv => whnf
 refine ⟨_, wO, ?_⟩
 conv => whnf
 refine ⟨_, wB2, ?_⟩
 conv => whnf
 refine ⟨_, wD, ?_⟩
 conv => whnf
 refine ⟨_, wB1, ?_⟩
 conv => whnf
 refine ⟨_, wB0, ?_⟩
 conv => whnf
 refine ⟨fun _ => ?_, (fun h => by cases h)⟩
 conv => whnf
 refine ⟨fun _ => ?_, (fun h => by simp at h)⟩
 conv => whnf
 refine ⟨fun _ => ?_, (fun h => by cases h)⟩
 conv => whnf
 refine ⟨fun _ => ?_, (fun h => by cases h)⟩
 conv => whnf
 refine ⟨fun _ => ?_, (fun h => by simp at h)⟩
 conv => whnf
 refine ⟨fun _ => ?_, (fun h => by cases h)⟩
 conv => whnf
 rfl
structure AddR (l : List RW) (n : Nd) (a : List RW) (g : Int) : Prop where
 few : FewRs a
 good : GRs a
 len : (allN a).length ≤ 200
 mem : g ≠ 1 → mayN n = true ∧ ∀ x, x ∈ allN a ↔ x ∈ allN l ∨ x = n
 cases : (g = 0 ∧ n ∉ allN l ∧ (allN a).length = (allN l).length + 1) ∨ (g = 3 ∧ n ∈ allN l ∧ a = l) ∨ (g = 1 ∧ a = l ∧ mayN n = false)
theorem addR {l : List RW} {n : Nd} (fl : FewRs l) (fa : (allN l).length ≤ 150) (nb : Brief n) (hg : GRs l) : ∃ a g, addV l n = (a, g) ∧ AddR l n a g := by
 cases hm : mayN n
 ·exact ⟨l, 1, add_bad (fun h => by rw [hm] at h; exact absurd h.2 (by decide)), fl, hg, by omega, fun h => absurd rfl h, Or.inr (Or.inr ⟨rfl, rfl, hm⟩)⟩
 ·have hs := hg.set fl.tiny
  have gn := mayN_good nb.tiny hm
  by_cases hin : n ∈ allN l
  ·exact ⟨l, 3, add_in hg hm hin, fl, hg, by omega, fun _ => ⟨hm, fun x => ⟨Or.inl, fun h => h.elim id (fun e => by rw [e]; exact hin)⟩⟩, Or.inr (Or.inl ⟨rfl, hin, rfl⟩)⟩
  ·have h2 := rwithN_set hs gn hm
   have m2 := mem_rwithN hs.good gn
   have ll : (rwithN (allN l) n).length = (allN l).length + 1 := by
    have l1 := rwithN_len hs.good gn
    have l2 := sub_len (l := n :: allN l) (m := rwithN (allN l) n) (List.nodup_cons.2 ⟨hin, hs.nodup⟩) fun x hx => (m2 x).2 ((List.mem_cons.1 hx).symm)
    rw [List.length_cons] at l2
    omega
   refine ⟨rowsN (rwithN (allN l) n), 0, add_out hg hm hin h2 m2, fewRs_rows h2 (by omega) (fun x hx => ((m2 x).1 hx).elim (fl.brief x) (fun e => by rw [e]; exact nb)), rows_good h2, by rw [allN_rows]; omega, fun _ => ⟨hm, fun x => by rw [allN_rows]; exact m2 x⟩, Or.inl ⟨rfl, hin, by rw [allN_rows]; exact ll⟩⟩
theorem allN_step (l : List RW) (i : Nat) (h : i < l.length) : (allN (l.take (i + 1))).length = (allN (l.take i)).length + l[i].v.length := by
 rw [allN_take l i h, List.length_append]
 unfold nodesR
 rw [List.length_map]
theorem tallyCounts_pc (l0 : List RW) (n0 : Nd) : PC 7 [.sl 0 2 (l0.map evRw), evN n0] (.s (.bool true)) := by
 have fl := fewR_few l0
 have fa := fewR_all l0
 have nb := oneN_brief n0
 have w1 := few16_pc l0
 have w2 := one5_pc n0
 generalize fewR l0 = l at fl fa w1
 generalize oneN n0 = n at nb w2
 have hlm : (l.map evRw).length = l.length := List.length_map ..
 have wL := allc fl
 by_cases hg : GRs l
 ·rw [chk_good hg, if_pos rfl] at wL
  have hs := hg.set fl.tiny
  have hset : setN (allN l) = allN l := (setN_set fl.tiny.nodes hs.may).ext hs (mem_setN _)
  have wO := ofc (m := allN l) fl.all fl.brief (by rw [hset]; exact fl.all)
  rw [hset, List.all_eq_true.2 hs.may, hg.back] at wO
  simp only [if_true] at wO
  obtain ⟨a, g, ha, R⟩ := addR fl (by omega) nb hg
  have wA := addc fl nb
  rw [ha] at wA
  simp only [] at wA
  have wT := allc R.few
  rw [chk_good R.good, if_pos rfl] at wT
  have wS := tsamec l fl
  rw [eqR_self] at wS
  have wC := check5_pc (allN l) fl.all fl.brief
  rw [ok5_good hs.ok5] at wC
  have wH1 := has5_pc (allN a) n R.few.all
  have wH2 := has5_pc (allN l) n fl.all
  have e1 : ((allN l).map evN).length = (allN l).length := List.length_map ..
  have e2 : ((allN a).map evN).length = (allN a).length := List.length_map ..
  refine pc_of tt_ok tt_follows Tryz.func7 rfl (by kernel_rfl) (by kernel_rfl) (Nat.le_of_ble_eq_true rfl) rfl ?_
  conv => whnf
  refine ⟨_, w1, ?_⟩
  conv => whnf
  refine ⟨_, w2, ?_⟩
  conv => whnf
  refine ⟨by kernel_rfl, ?_⟩
  conv => whnf
  refine ⟨_, wL, ?_⟩
  conv => whnf
  refine ⟨(fun h => by cases h), fun _ => ?_⟩
  conv => whnf
  refine ⟨_, wO, ?_⟩
  conv => whnf
  refine ⟨Nat, fun i => i ≤ l.length, fun i => [(27, .s (.int .i64 (allN (l.take i)).length)), (30, .s (.int .i64 i))], [0, 9, 10, 12, 15, 21, 24, 50, 65], fun i => l.length - i, 0, Nat.zero_le _, ?_, fun i hi => ?_⟩
  ·refine ⟨⟨rfl, trivial, rfl, trivial, trivial⟩, ?_⟩
   repeat' (first | exact trivial | refine ⟨?_, ?_⟩ | (((conv => lhs; whnf) <;> (try (conv => rhs; whnf))) <;> exact rfl))
   ·(conv => whnf)
    exact Nat.le_refl _
   ·(conv => whnf)
    exact Nat.le_refl _
  conv => whnf
  constructor
  ·intro h
   have hil := ltm h
   have hst := allN_step l i hil
   have hb1 := allN_le l i
   have hb2 := allN_le l (i + 1)
   have hw : IntKind.i64.wrap (((allN (l.take i)).length : Int) + ((l[i].v.map evS).length : Int)) = ((allN (l.take (i + 1))).length : Int) := by rw [List.length_map, IntKind.wrap_i64]; omega
   conv => whnf
   refine ⟨_, idx_map evRw l i hil, ?_⟩
   conv => whnf
   refine ⟨i + 1, hil, less1 hil, ⟨⟨congrArg (fun q : Int => PV.s (.int .i64 q)) hw, trivial, incI hil (by have := fl.n; omega), trivial, trivial⟩, ?_⟩⟩
   repeat' (first | exact trivial | refine ⟨?_, ?_⟩ | (((conv => lhs; whnf) <;> (try (conv => rhs; whnf))) <;> exact rfl))
   ·(conv => whnf)
    exact Nat.le_refl _
   ·(conv => whnf)
    exact Nat.le_refl _
  ·intro h
   have hil := gem h hi
   subst hil
   have hfull : l.take l.length = l := List.take_length
   conv => whnf
   refine ⟨_, wA, ?_⟩
   conv => whnf
   refine ⟨_, wT, ?_⟩
   conv => whnf
   refine ⟨(fun h => by cases h), fun _ => ?_⟩
   conv => whnf
   refine ⟨(fun h => by cases h), fun _ => ?_⟩
   conv => whnf
   refine ⟨(fun h => ?_), fun _ => ?_⟩
   ·rw [e1, hfull] at h
    simp at h
   conv => whnf
   refine ⟨_, wS, ?_⟩
   conv => whnf
   refine ⟨(fun h => by cases h), fun _ => ?_⟩
   conv => whnf
   refine ⟨_, wC, ?_⟩
   conv => whnf
   refine ⟨(fun h => by cases h), fun _ => ?_⟩
   conv => whnf
   rcases R.cases with ⟨rfl, h1, h2⟩ | ⟨rfl, h1, rfl⟩ | ⟨rfl, rfl, h1⟩
   ·have h3 : n ∈ allN a := ((R.mem (by decide)).2 n).2 (Or.inr rfl)
    rw [any_in.2 h3] at wH1
    rw [any_out.2 h1] at wH2
    have hw : IntKind.i64.wrap ((((allN l).map evN).length : Int) + 1) = ((((allN a).map evN).length : Nat) : Int) := by rw [e1, e2, h2, IntKind.wrap_i64]; omega
    refine ⟨(fun h => by cases h), fun _ => ?_⟩
    conv => whnf
    refine ⟨fun _ => ?_, fun h => ?_⟩
    ·conv => whnf
     refine ⟨_, wH1, ?_⟩
     conv => whnf
     refine ⟨fun _ => ?_, (fun h => by cases h)⟩
     conv => whnf
     refine ⟨_, wH2, ?_⟩
     conv => whnf
     refine ⟨fun _ => ?_, (fun h => by cases h)⟩
     conv => whnf
     refine ⟨fun _ => ?_, (fun h => by cases h)⟩
     conv => whnf
     refine ⟨_, awake16_pc, ?_⟩
     (conv => whnf) <;> try rfl
    ·rw [hw] at h
     simp at h
   ·rw [any_in.2 h1] at wH2
    refine ⟨fun _ => ?_, (fun h => by cases h)⟩
    conv => whnf
    refine ⟨(fun h => by cases h), fun _ => ?_⟩
    conv => whnf
    refine ⟨_, wH2, ?_⟩
    conv => whnf
    refine ⟨fun _ => ?_, (fun h => by cases h)⟩
    conv => whnf
    refine ⟨_, awake16_pc, ?_⟩
    (conv => whnf) <;> try rfl
   ·refine ⟨fun _ => ?_, (fun h => by cases h)⟩
    conv => whnf
    refine ⟨fun _ => ?_, (fun h => by cases h)⟩
    conv => whnf
    refine ⟨_, awake16_pc, ?_⟩
    (conv => whnf) <;> try rfl
 ·rw [chk_f hg, if_neg (by decide)] at wL
  refine pc_of tt_ok tt_follows Tryz.func7 rfl (by kernel_rfl) (by kernel_rfl) (Nat.le_of_ble_eq_true rfl) rfl ?_
  conv => whnf
  refine ⟨_, w1, ?_⟩
  conv => whnf
  refine ⟨_, w2, ?_⟩
  conv => whnf
  refine ⟨by kernel_rfl, ?_⟩
  conv => whnf
  refine ⟨_, wL, ?_⟩
  conv => whnf
  refine ⟨fun _ => ?_, (fun h => by cases h)⟩
  conv => whnf
  refine ⟨_, awake16_pc, ?_⟩
  (conv => whnf) <;> try rfl
end Go.Proofs.YtffjkbbmnfnbaaaGreatDoor.Q
end
