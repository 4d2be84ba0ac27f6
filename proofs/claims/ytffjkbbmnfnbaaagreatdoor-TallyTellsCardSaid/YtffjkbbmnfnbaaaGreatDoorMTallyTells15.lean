/- Part 15 of this claim: several texts one behind the other: EvXf, EvXk. What each shows stands in its theorems; conditions: sizes of texts and lists, as the functions' definitions say. -/
import Derived.Test.YtffjkbbmnfnbaaaGreatDoorMTallyTells14
section
namespace Go.Proofs.YtffjkbbmnfnbaaaGreatDoor.Q
open Go.Proofs.YtffjkbbmnfnbaaaGreatDoor.QB.D
open Go Go.RowKit Go.Lib Go.Proofs.YtffjkbbmnfnbaaaGreatDoorW.PrintWords Go.Ev Gw
set_option linter.unusedVariables false
set_option maxRecDepth 100000
def awA : Nd := ⟨⟨#[97]⟩, ⟨#[118, 49, 46, 57, 46, 48]⟩⟩
def awB : Nd := ⟨⟨#[97]⟩, ⟨#[118, 49, 46, 49, 48, 46, 48]⟩⟩
theorem awA_may : mayN awA = true := by decide +kernel
theorem awB_may : mayN awB = true := by decide +kernel
theorem awAB : ordN awA awB < 0 := by decide +kernel
theorem awA_b : Brief awA := by decide +kernel
theorem awB_b : Brief awB := by decide +kernel
theorem awS2 : IsSet [awA, awB] := by
 refine ⟨fun x hx => ?_, fun x hx => ?_, ?_⟩
 ·simp only [List.mem_cons, List.not_mem_nil, or_false] at hx
  rcases hx with rfl | rfl
  ·exact mayN_good awA_b.tiny awA_may
  ·exact mayN_good awB_b.tiny awB_may
 ·simp only [List.mem_cons, List.not_mem_nil, or_false] at hx
  rcases hx with rfl | rfl
  ·exact awA_may
  ·exact awB_may
 ·exact List.pairwise_cons.2 ⟨fun x hx => by rw [List.mem_singleton] at hx; subst hx; exact awAB, List.pairwise_singleton _ _⟩
theorem awS1 : IsSet [awA] := ⟨fun x hx => awS2.good x (by rw [List.mem_singleton] at hx; subst hx; simp), fun x hx => awS2.may x (by rw [List.mem_singleton] at hx; subst hx; simp), List.pairwise_singleton _ _⟩
theorem awSet : setN [awB, awA] = [awA, awB] := by
 refine (setN_set (fun x hx => ?_) fun x hx => ?_).ext awS2 fun x => ?_
 ·exact (awS2.good x (by simp only [List.mem_cons, List.not_mem_nil, or_false] at hx ⊢; exact hx.symm)).1 |> fun h => ⟨h, (awS2.good x (by simp only [List.mem_cons, List.not_mem_nil, or_false] at hx ⊢; exact hx.symm)).2.1⟩
 ·exact awS2.may x (by simp only [List.mem_cons, List.not_mem_nil, or_false] at hx ⊢; exact hx.symm)
 ·rw [mem_setN]
  simp only [List.mem_cons, List.not_mem_nil, or_false]
  exact or_comm
theorem awBrief2 : ∀ x ∈ [awA, awB], Brief x := fun x hx => by
 simp only [List.mem_cons, List.not_mem_nil, or_false] at hx
 rcases hx with rfl | rfl
 ·exact awA_b
 ·exact awB_b
theorem aw_ne : awA ≠ awB := fun e => by
 have := awAB
 rw [e] at this
 exact absurd this (by decide +kernel)
theorem awake16_pc : PC 19 [] (.s (.bool true)) := by
 have f2 : FewRs (rowsN [awA, awB]) := fewRs_rows awS2 (by decide) awBrief2
 have f1 : FewRs (rowsN [awA]) := fewRs_rows awS1 (by decide) (fun x hx => by rw [List.mem_singleton] at hx; subst hx; exact awA_b)
 have wO := ofc (m := [awB, awA]) (by decide) (fun x hx => awBrief2 x (by simp only [List.mem_cons, List.not_mem_nil, or_false] at hx ⊢; exact hx.symm)) (by rw [awSet]; decide)
 rw [awSet, show [awB, awA].all mayN = true by rw [List.all_cons, List.all_cons, awA_may, awB_may]; rfl] at wO
 simp only [if_true] at wO
 have wB2 := bestc (p := ⟨#[97]⟩) f2 (by decide)
 rw [(best_ref (rows_good awS2) (by decide +kernel)).1, show b16 ⟨#[97]⟩ (rowsN [awA, awB]) = (⟨#[118, 49, 46, 49, 48, 46, 48]⟩, true) by decide +kernel] at wB2
 have wD := dropc (n := awB) f2 awB_b
 rw [drop_in (rows_good awS2) awB_may (by rw [allN_rows]; simp) awS1 (fun x => by
  rw [allN_rows]
  simp only [List.mem_cons, List.not_mem_nil, or_false]
  constructor
  ·rintro rfl; exact ⟨Or.inl rfl, aw_ne⟩
  ·rintro ⟨h | h, h2⟩
   ·exact h
   ·exact absurd h h2)] at wD
 simp only [] at wD
 have wB1 := bestc (p := ⟨#[97]⟩) f1 (by decide)
 rw [(best_ref (rows_good awS1) (by decide +kernel)).1, show b16 ⟨#[97]⟩ (rowsN [awA]) = (⟨#[118, 49, 46, 57, 46, 48]⟩, true) by decide +kernel] at wB1
 have wB0 := bestc (p := ⟨#[98]⟩) f1 (by decide)
 rw [(best_ref (rows_good awS1) (by decide +kernel)).1, show b16 ⟨#[98]⟩ (rowsN [awA]) = (⟨#[]⟩, false) by decide +kernel] at wB0
 simp only [if_true, if_false, Bool.false_eq_true] at wB2 wB1 wB0
 generalize (rowsN [awA, awB]).map evRw = L2 at *
 generalize (rowsN [awA]).map evRw = L1 at *
 refine pc_of tt_ok tt_follows Tryz.func19 rfl (by kernel_rfl) (by kernel_rfl) (Nat.le_of_ble_eq_true rfl) rfl ?_
 conv => whnf
 refine ⟨_, wO, ?_⟩
 conv => whnf
 refine ⟨_, wB2, ?_⟩
 conv => whnf
 refine ⟨_, wD, ?_⟩
 conv => whnf
 refine ⟨_, wB1, ?_⟩
 conv => whnf
 refine ⟨_, wB0, ?_⟩
 conv => whnf
 refine ⟨fun _ => ?_, (fun h => by cases h)⟩
 conv => whnf
 refine ⟨fun _ => ?_, (fun h => by simp at h)⟩
 conv => whnf
 refine ⟨fun _ => ?_, (fun h => by cases h)⟩
 conv => whnf
 refine ⟨fun _ => ?_, (fun h => by cases h)⟩
 conv => whnf
 refine ⟨fun _ => ?_, (fun h => by simp at h)⟩
 conv => whnf
 refine ⟨fun _ => ?_, (fun h => by cases h)⟩
 conv => whnf
 rfl
set_option maxHeartbeats 4000000 in
theorem tallyTells_pc (l0 : List RW) (m0 : List Nd) (p0 : ByteArray) : PC 3 [.sl 0 2 (l0.map evRw), .sl 0 2 (m0.map evN), .s (.string p0)] (.s (.bool true)) := by
 have fl := fewR_few l0
 have fa := fewR_all l0
 have ml := fewN_len m0
 have mb := fewN_brief m0
 have pb := few_size p0
 have w1 := few16_pc l0
 have w2 := few5_pc m0
 have w3 := few1_pc p0
 generalize fewR l0 = l at fl fa w1
 generalize fewN m0 = m at ml mb w2
 generalize few p0 = p at pb w3
 have hlm : (m.map evN).length = m.length := List.length_map ..
 have sl := setN_len m
 have wL := allc fl
 have wO := ofc (m := m) (by omega) mb (by omega)
 have wB := bestc (p := p) fl pb
 have wM := may16c fl
 have wN : ∀ x ∈ m, PC 14 [evN x] (.s (.bool (mayN x))) := fun x hx => ref5May_pc x (mb x hx)
 have wR4 := ref4May_pc p pb
 have wS := same16c l fl
 obtain ⟨b, g, hbg⟩ : ∃ b g, bestV l p = (b, g) := ⟨_, _, rfl⟩
 rw [hbg] at wB
 simp only [] at wB
 have all_step : ∀ i (h : i < m.length), (m.take (i + 1)).all mayN = ((m.take i).all mayN && mayN m[i]) := fun i h => by
  rw [List.take_succ_eq_append_getElem h, List.all_append]; simp
 have hfull : m.take m.length = m := List.take_length
 by_cases hg : GRs l
 ·rw [chk_good hg, if_pos rfl] at wL
  rw [mayB_t hg] at wM
  have wAl := all16c fl
  have wSm := same5_pc (allN l) (allN l) fl.all
  rw [(eqB_iff (fun _ _ => eqN_iff)).2 rfl] at wSm
  have wB16 := best16_pc l p (Nat.le_trans fl.n (by omega)) (fun r hr => Nat.le_trans (fl.v r hr) (by omega))
  cases hp : isPath (bs p)
  ·rw [hp] at wR4
   have hb : bestV l p = (⟨#[]⟩, 1) := if_pos (Or.inr hp)
   rw [hb] at hbg
   injection hbg with e1 e2
   subst e1 e2
   cases hall : m.all mayN
   ·rw [hall] at wO
    simp only [if_false, Bool.false_eq_true] at wO
    rw [← hfull] at hall
    refine pc_of tt_ok tt_follows Tryz.func3 rfl (by kernel_rfl) (by kernel_rfl) (Nat.le_of_ble_eq_true rfl) rfl ?_
    conv => whnf
    refine ⟨_, w1, ?_⟩
    conv => whnf
    refine ⟨_, w2, ?_⟩
    conv => whnf
    refine ⟨_, w3, ?_⟩
    conv => whnf
    refine ⟨_, wL, ?_⟩
    conv => whnf
    refine ⟨_, wO, ?_⟩
    conv => whnf
    refine ⟨_, wB, ?_⟩
    conv => whnf
    refine ⟨Nat, fun i => i ≤ m.length, fun i => [(39, .s (.bool ((m.take i).all mayN))), (42, .s (.int .i64 i))], [0, 3, 6, 18, 21, 24, 27, 30, 33, 36, 56, 62, 77], fun i => m.length - i, 0, Nat.zero_le _, ?_, fun i hi => ?_⟩
    ·refine ⟨⟨rfl, trivial, rfl, trivial, trivial⟩, ?_⟩
     repeat' (first | exact trivial | refine ⟨?_, ?_⟩ | (((conv => lhs; whnf) <;> (try (conv => rhs; whnf))) <;> exact rfl))
     all_goals
      (conv => whnf)
      exact Nat.le_refl _
    conv => whnf
    constructor
    ·intro h
     have hil := ltm h
     have hst := all_step i hil
     conv => whnf
     constructor
     ·intro hq
      conv => whnf
      refine ⟨_, idx_map evN m i hil, ?_⟩
      conv => whnf
      refine ⟨_, wN _ (List.getElem_mem hil), ?_⟩
      conv => whnf
      rw [hq, Bool.true_and] at hst
      refine ⟨i + 1, hil, less1 hil, ⟨⟨congrArg (fun q => PV.s (.bool q)) hst.symm, trivial, incI hil (by omega), trivial, trivial⟩, ?_⟩⟩
      repeat' (first | exact trivial | refine ⟨?_, ?_⟩ | (((conv => lhs; whnf) <;> (try (conv => rhs; whnf))) <;> exact rfl))
      all_goals
       (conv => whnf)
       exact Nat.le_refl _
     ·intro hq
      rw [hq, Bool.false_and] at hst
      conv => whnf
      refine ⟨i + 1, hil, less1 hil, ⟨⟨congrArg (fun q => PV.s (.bool q)) hst.symm, trivial, incI hil (by omega), trivial, trivial⟩, ?_⟩⟩
      repeat' (first | exact trivial | refine ⟨?_, ?_⟩ | (((conv => lhs; whnf) <;> (try (conv => rhs; whnf))) <;> exact rfl))
      all_goals
       (conv => whnf)
       exact Nat.le_refl _
    intro h
    have hil := gem h hi
    subst hil
    conv => whnf
    refine ⟨(fun h => by rw [hall] at h; cases h), fun _ => ?_⟩
    conv => whnf
    refine ⟨fun _ => ?_, (fun h => by rw [hall] at h; cases h)⟩
    conv => whnf
    refine ⟨(fun h => by cases h), fun _ => ?_⟩
    conv => whnf
    refine ⟨(fun h => by cases h), fun _ => ?_⟩
    conv => whnf
    refine ⟨_, wM, ?_⟩
    conv => whnf
    refine ⟨(fun h => by cases h), fun _ => ?_⟩
    conv => whnf
    refine ⟨_, wAl, ?_⟩
    conv => whnf
    refine ⟨_, wSm, ?_⟩
    conv => whnf
    refine ⟨(fun h => by cases h), fun _ => ?_⟩
    conv => whnf
    refine ⟨(fun h => by cases h), fun _ => ?_⟩
    conv => whnf
    refine ⟨_, wB16, ?_⟩
    conv => whnf
    refine ⟨_, wR4, ?_⟩
    conv => whnf
    refine ⟨fun _ => ?_, (fun h => by cases h)⟩
    conv => whnf
    refine ⟨fun _ => ?_, (fun h => by simp at h)⟩
    conv => whnf
    refine ⟨fun _ => ?_, (fun h => by cases h)⟩
    conv => whnf
    refine ⟨_, awake16_pc, ?_⟩
    (conv => whnf) <;> try rfl
   ·have may : ∀ x ∈ m, mayN x = true := fun x hx => List.all_eq_true.1 hall x hx
    have hset := setN_set (fun x hx => (mb x hx).tiny) may
    have wSt := set5_pc m (by omega) mb may
    rw [← setN_ref (fun x hx => (mb x hx).tiny) may] at wSt
    have wOr := of16c (s := setN m) (by omega)
    have wSr := same16c (rowsN (setN m)) (fewRs_rows hset (by omega) (fun x hx => mb x ((mem_setN m x).1 hx)))
    rw [eqR_self] at wSr
    rw [hall] at wO
    simp only [if_true] at wO
    rw [← hfull] at hall
    refine pc_of tt_ok tt_follows Tryz.func3 rfl (by kernel_rfl) (by kernel_rfl) (Nat.le_of_ble_eq_true rfl) rfl ?_
    conv => whnf
    refine ⟨_, w1, ?_⟩
    conv => whnf
    refine ⟨_, w2, ?_⟩
    conv => whnf
    refine ⟨_, w3, ?_⟩
    conv => whnf
    refine ⟨_, wL, ?_⟩
    conv => whnf
    refine ⟨_, wO, ?_⟩
    conv => whnf
    refine ⟨_, wB, ?_⟩
    conv => whnf
    refine ⟨Nat, fun i => i ≤ m.length, fun i => [(39, .s (.bool ((m.take i).all mayN))), (42, .s (.int .i64 i))], [0, 3, 6, 18, 21, 24, 27, 30, 33, 36, 56, 62, 77], fun i => m.length - i, 0, Nat.zero_le _, ?_, fun i hi => ?_⟩
    ·refine ⟨⟨rfl, trivial, rfl, trivial, trivial⟩, ?_⟩
     repeat' (first | exact trivial | refine ⟨?_, ?_⟩ | (((conv => lhs; whnf) <;> (try (conv => rhs; whnf))) <;> exact rfl))
     all_goals
      (conv => whnf)
      exact Nat.le_refl _
    conv => whnf
    constructor
    ·intro h
     have hil := ltm h
     have hst := all_step i hil
     conv => whnf
     constructor
     ·intro hq
      conv => whnf
      refine ⟨_, idx_map evN m i hil, ?_⟩
      conv => whnf
      refine ⟨_, wN _ (List.getElem_mem hil), ?_⟩
      conv => whnf
      rw [hq, Bool.true_and] at hst
      refine ⟨i + 1, hil, less1 hil, ⟨⟨congrArg (fun q => PV.s (.bool q)) hst.symm, trivial, incI hil (by omega), trivial, trivial⟩, ?_⟩⟩
      repeat' (first | exact trivial | refine ⟨?_, ?_⟩ | (((conv => lhs; whnf) <;> (try (conv => rhs; whnf))) <;> exact rfl))
      all_goals
       (conv => whnf)
       exact Nat.le_refl _
     ·intro hq
      rw [hq, Bool.false_and] at hst
      conv => whnf
      refine ⟨i + 1, hil, less1 hil, ⟨⟨congrArg (fun q => PV.s (.bool q)) hst.symm, trivial, incI hil (by omega), trivial, trivial⟩, ?_⟩⟩
      repeat' (first | exact trivial | refine ⟨?_, ?_⟩ | (((conv => lhs; whnf) <;> (try (conv => rhs; whnf))) <;> exact rfl))
      all_goals
       (conv => whnf)
       exact Nat.le_refl _
    intro h
    have hil := gem h hi
    subst hil
    conv => whnf
    refine ⟨fun _ => ?_, (fun h => by rw [hall] at h; cases h)⟩
    conv => whnf
    refine ⟨_, wSt, ?_⟩
    conv => whnf
    refine ⟨_, wOr, ?_⟩
    conv => whnf
    refine ⟨_, wSr, ?_⟩
    conv => whnf
    refine ⟨(fun h => by cases h), fun _ => ?_⟩
    conv => whnf
    refine ⟨(fun h => by cases h), fun _ => ?_⟩
    conv => whnf
    refine ⟨(fun h => by rw [hall] at h; cases h), fun _ => ?_⟩
    conv => whnf
    refine ⟨_, wM, ?_⟩
    conv => whnf
    refine ⟨(fun h => by cases h), fun _ => ?_⟩
    conv => whnf
    refine ⟨_, wAl, ?_⟩
    conv => whnf
    refine ⟨_, wSm, ?_⟩
    conv => whnf
    refine ⟨(fun h => by cases h), fun _ => ?_⟩
    conv => whnf
    refine ⟨(fun h => by cases h), fun _ => ?_⟩
    conv => whnf
    refine ⟨_, wB16, ?_⟩
    conv => whnf
    refine ⟨_, wR4, ?_⟩
    conv => whnf
    refine ⟨fun _ => ?_, (fun h => by cases h)⟩
    conv => whnf
    refine ⟨fun _ => ?_, (fun h => by simp at h)⟩
    conv => whnf
    refine ⟨fun _ => ?_, (fun h => by cases h)⟩
    conv => whnf
    refine ⟨_, awake16_pc, ?_⟩
    (conv => whnf) <;> try rfl
  ·rw [hp] at wR4
   obtain ⟨h1, h2⟩ := best_ref hg hp
   rw [h1] at hbg
   obtain ⟨want, is, hw⟩ : ∃ want is, b16 p l = (want, is) := ⟨_, _, rfl⟩
   rw [hw] at hbg h2 wB16
   simp only [] at hbg h2 wB16
   injection hbg with e1 e2
   subst e1 e2
   cases is
   ·obtain rfl := h2 rfl
    simp only [if_false, Bool.false_eq_true] at wB
    cases hall : m.all mayN
    ·rw [hall] at wO
     simp only [if_false, Bool.false_eq_true] at wO
     rw [← hfull] at hall
     refine pc_of tt_ok tt_follows Tryz.func3 rfl (by kernel_rfl) (by kernel_rfl) (Nat.le_of_ble_eq_true rfl) rfl ?_
     conv => whnf
     refine ⟨_, w1, ?_⟩
     conv => whnf
     refine ⟨_, w2, ?_⟩
     conv => whnf
     refine ⟨_, w3, ?_⟩
     conv => whnf
     refine ⟨_, wL, ?_⟩
     conv => whnf
     refine ⟨_, wO, ?_⟩
     conv => whnf
     refine ⟨_, wB, ?_⟩
     conv => whnf
     refine ⟨Nat, fun i => i ≤ m.length, fun i => [(39, .s (.bool ((m.take i).all mayN))), (42, .s (.int .i64 i))], [0, 3, 6, 18, 21, 24, 27, 30, 33, 36, 56, 62, 77], fun i => m.length - i, 0, Nat.zero_le _, ?_, fun i hi => ?_⟩
     ·refine ⟨⟨rfl, trivial, rfl, trivial, trivial⟩, ?_⟩
      repeat' (first | exact trivial | refine ⟨?_, ?_⟩ | (((conv => lhs; whnf) <;> (try (conv => rhs; whnf))) <;> exact rfl))
      all_goals
       (conv => whnf)
       exact Nat.le_refl _
     conv => whnf
     constructor
     ·intro h
      have hil := ltm h
      have hst := all_step i hil
      conv => whnf
      constructor
      ·intro hq
       conv => whnf
       refine ⟨_, idx_map evN m i hil, ?_⟩
       conv => whnf
       refine ⟨_, wN _ (List.getElem_mem hil), ?_⟩
       conv => whnf
       rw [hq, Bool.true_and] at hst
       refine ⟨i + 1, hil, less1 hil, ⟨⟨congrArg (fun q => PV.s (.bool q)) hst.symm, trivial, incI hil (by omega), trivial, trivial⟩, ?_⟩⟩
       repeat' (first | exact trivial | refine ⟨?_, ?_⟩ | (((conv => lhs; whnf) <;> (try (conv => rhs; whnf))) <;> exact rfl))
       all_goals
        (conv => whnf)
        exact Nat.le_refl _
      ·intro hq
       rw [hq, Bool.false_and] at hst
       conv => whnf
       refine ⟨i + 1, hil, less1 hil, ⟨⟨congrArg (fun q => PV.s (.bool q)) hst.symm, trivial, incI hil (by omega), trivial, trivial⟩, ?_⟩⟩
       repeat' (first | exact trivial | refine ⟨?_, ?_⟩ | (((conv => lhs; whnf) <;> (try (conv => rhs; whnf))) <;> exact rfl))
       all_goals
        (conv => whnf)
        exact Nat.le_refl _
     intro h
     have hil := gem h hi
     subst hil
     conv => whnf
     refine ⟨(fun h => by rw [hall] at h; cases h), fun _ => ?_⟩
     conv => whnf
     refine ⟨fun _ => ?_, (fun h => by rw [hall] at h; cases h)⟩
     conv => whnf
     refine ⟨(fun h => by cases h), fun _ => ?_⟩
     conv => whnf
     refine ⟨(fun h => by cases h), fun _ => ?_⟩
     conv => whnf
     refine ⟨_, wM, ?_⟩
     conv => whnf
     refine ⟨(fun h => by cases h), fun _ => ?_⟩
     conv => whnf
     refine ⟨_, wAl, ?_⟩
     conv => whnf
     refine ⟨_, wSm, ?_⟩
     conv => whnf
     refine ⟨(fun h => by cases h), fun _ => ?_⟩
     conv => whnf
     refine ⟨(fun h => by cases h), fun _ => ?_⟩
     conv => whnf
     refine ⟨_, wB16, ?_⟩
     conv => whnf
     refine ⟨_, wR4, ?_⟩
     conv => whnf
     refine ⟨(fun h => by cases h), fun _ => ?_⟩
     conv => whnf
     refine ⟨(fun h => by cases h), fun _ => ?_⟩
     conv => whnf
     refine ⟨fun _ => ?_, (fun h => by cases h)⟩
     conv => whnf
     refine ⟨fun _ => ?_, (fun h => by simp at h)⟩
     conv => whnf
     refine ⟨fun _ => ?_, (fun h => by cases h)⟩
     conv => whnf
     refine ⟨_, awake16_pc, ?_⟩
     (conv => whnf) <;> try rfl
    ·have may : ∀ x ∈ m, mayN x = true := fun x hx => List.all_eq_true.1 hall x hx
     have hset := setN_set (fun x hx => (mb x hx).tiny) may
     have wSt := set5_pc m (by omega) mb may
     rw [← setN_ref (fun x hx => (mb x hx).tiny) may] at wSt
     have wOr := of16c (s := setN m) (by omega)
     have wSr := same16c (rowsN (setN m)) (fewRs_rows hset (by omega) (fun x hx => mb x ((mem_setN m x).1 hx)))
     rw [eqR_self] at wSr
     rw [hall] at wO
     simp only [if_true] at wO
     rw [← hfull] at hall
     refine pc_of tt_ok tt_follows Tryz.func3 rfl (by kernel_rfl) (by kernel_rfl) (Nat.le_of_ble_eq_true rfl) rfl ?_
     conv => whnf
     refine ⟨_, w1, ?_⟩
     conv => whnf
     refine ⟨_, w2, ?_⟩
     conv => whnf
     refine ⟨_, w3, ?_⟩
     conv => whnf
     refine ⟨_, wL, ?_⟩
     conv => whnf
     refine ⟨_, wO, ?_⟩
     conv => whnf
     refine ⟨_, wB, ?_⟩
     conv => whnf
     refine ⟨Nat, fun i => i ≤ m.length, fun i => [(39, .s (.bool ((m.take i).all mayN))), (42, .s (.int .i64 i))], [0, 3, 6, 18, 21, 24, 27, 30, 33, 36, 56, 62, 77], fun i => m.length - i, 0, Nat.zero_le _, ?_, fun i hi => ?_⟩
     ·refine ⟨⟨rfl, trivial, rfl, trivial, trivial⟩, ?_⟩
      repeat' (first | exact trivial | refine ⟨?_, ?_⟩ | (((conv => lhs; whnf) <;> (try (conv => rhs; whnf))) <;> exact rfl))
      all_goals
       (conv => whnf)
       exact Nat.le_refl _
     conv => whnf
     constructor
     ·intro h
      have hil := ltm h
      have hst := all_step i hil
      conv => whnf
      constructor
      ·intro hq
       conv => whnf
       refine ⟨_, idx_map evN m i hil, ?_⟩
       conv => whnf
       refine ⟨_, wN _ (List.getElem_mem hil), ?_⟩
       conv => whnf
       rw [hq, Bool.true_and] at hst
       refine ⟨i + 1, hil, less1 hil, ⟨⟨congrArg (fun q => PV.s (.bool q)) hst.symm, trivial, incI hil (by omega), trivial, trivial⟩, ?_⟩⟩
       repeat' (first | exact trivial | refine ⟨?_, ?_⟩ | (((conv => lhs; whnf) <;> (try (conv => rhs; whnf))) <;> exact rfl))
       all_goals
        (conv => whnf)
        exact Nat.le_refl _
      ·intro hq
       rw [hq, Bool.false_and] at hst
       conv => whnf
       refine ⟨i + 1, hil, less1 hil, ⟨⟨congrArg (fun q => PV.s (.bool q)) hst.symm, trivial, incI hil (by omega), trivial, trivial⟩, ?_⟩⟩
       repeat' (first | exact trivial | refine ⟨?_, ?_⟩ | (((conv => lhs; whnf) <;> (try (conv => rhs; whnf))) <;> exact rfl))
       all_goals
        (conv => whnf)
        exact Nat.le_refl _
     intro h
     have hil := gem h hi
     subst hil
     conv => whnf
     refine ⟨fun _ => ?_, (fun h => by rw [hall] at h; cases h)⟩
     conv => whnf
     refine ⟨_, wSt, ?_⟩
     conv => whnf
     refine ⟨_, wOr, ?_⟩
     conv => whnf
     refine ⟨_, wSr, ?_⟩
     conv => whnf
     refine ⟨(fun h => by cases h), fun _ => ?_⟩
     conv => whnf
     refine ⟨(fun h => by cases h), fun _ => ?_⟩
     conv => whnf
     refine ⟨(fun h => by rw [hall] at h; cases h), fun _ => ?_⟩
     conv => whnf
     refine ⟨_, wM, ?_⟩
     conv => whnf
     refine ⟨(fun h => by cases h), fun _ => ?_⟩
     conv => whnf
     refine ⟨_, wAl, ?_⟩
     conv => whnf
     refine ⟨_, wSm, ?_⟩
     conv => whnf
     refine ⟨(fun h => by cases h), fun _ => ?_⟩
     conv => whnf
     refine ⟨(fun h => by cases h), fun _ => ?_⟩
     conv => whnf
     refine ⟨_, wB16, ?_⟩
     conv => whnf
     refine ⟨_, wR4, ?_⟩
     conv => whnf
     refine ⟨(fun h => by cases h), fun _ => ?_⟩
     conv => whnf
     refine ⟨(fun h => by cases h), fun _ => ?_⟩
     conv => whnf
     refine ⟨fun _ => ?_, (fun h => by cases h)⟩
     conv => whnf
     refine ⟨fun _ => ?_, (fun h => by simp at h)⟩
     conv => whnf
     refine ⟨fun _ => ?_, (fun h => by cases h)⟩
     conv => whnf
     refine ⟨_, awake16_pc, ?_⟩
     (conv => whnf) <;> try rfl
   ·simp only [if_true] at wB
    cases hall : m.all mayN
    ·rw [hall] at wO
     simp only [if_false, Bool.false_eq_true] at wO
     rw [← hfull] at hall
     refine pc_of tt_ok tt_follows Tryz.func3 rfl (by kernel_rfl) (by kernel_rfl) (Nat.le_of_ble_eq_true rfl) rfl ?_
     conv => whnf
     refine ⟨_, w1, ?_⟩
     conv => whnf
     refine ⟨_, w2, ?_⟩
     conv => whnf
     refine ⟨_, w3, ?_⟩
     conv => whnf
     refine ⟨_, wL, ?_⟩
     conv => whnf
     refine ⟨_, wO, ?_⟩
     conv => whnf
     refine ⟨_, wB, ?_⟩
     conv => whnf
     refine ⟨Nat, fun i => i ≤ m.length, fun i => [(39, .s (.bool ((m.take i).all mayN))), (42, .s (.int .i64 i))], [0, 3, 6, 18, 21, 24, 27, 30, 33, 36, 56, 62, 77], fun i => m.length - i, 0, Nat.zero_le _, ?_, fun i hi => ?_⟩
     ·refine ⟨⟨rfl, trivial, rfl, trivial, trivial⟩, ?_⟩
      repeat' (first | exact trivial | refine ⟨?_, ?_⟩ | (((conv => lhs; whnf) <;> (try (conv => rhs; whnf))) <;> exact rfl))
      all_goals
       (conv => whnf)
       exact Nat.le_refl _
     conv => whnf
     constructor
     ·intro h
      have hil := ltm h
      have hst := all_step i hil
      conv => whnf
      constructor
      ·intro hq
       conv => whnf
       refine ⟨_, idx_map evN m i hil, ?_⟩
       conv => whnf
       refine ⟨_, wN _ (List.getElem_mem hil), ?_⟩
       conv => whnf
       rw [hq, Bool.true_and] at hst
       refine ⟨i + 1, hil, less1 hil, ⟨⟨congrArg (fun q => PV.s (.bool q)) hst.symm, trivial, incI hil (by omega), trivial, trivial⟩, ?_⟩⟩
       repeat' (first | exact trivial | refine ⟨?_, ?_⟩ | (((conv => lhs; whnf) <;> (try (conv => rhs; whnf))) <;> exact rfl))
       all_goals
        (conv => whnf)
        exact Nat.le_refl _
      ·intro hq
       rw [hq, Bool.false_and] at hst
       conv => whnf
       refine ⟨i + 1, hil, less1 hil, ⟨⟨congrArg (fun q => PV.s (.bool q)) hst.symm, trivial, incI hil (by omega), trivial, trivial⟩, ?_⟩⟩
       repeat' (first | exact trivial | refine ⟨?_, ?_⟩ | (((conv => lhs; whnf) <;> (try (conv => rhs; whnf))) <;> exact rfl))
       all_goals
        (conv => whnf)
        exact Nat.le_refl _
     intro h
     have hil := gem h hi
     subst hil
     conv => whnf
     refine ⟨(fun h => by rw [hall] at h; cases h), fun _ => ?_⟩
     conv => whnf
     refine ⟨fun _ => ?_, (fun h => by rw [hall] at h; cases h)⟩
     conv => whnf
     refine ⟨(fun h => by cases h), fun _ => ?_⟩
     conv => whnf
     refine ⟨(fun h => by cases h), fun _ => ?_⟩
     conv => whnf
     refine ⟨_, wM, ?_⟩
     conv => whnf
     refine ⟨(fun h => by cases h), fun _ => ?_⟩
     conv => whnf
     refine ⟨_, wAl, ?_⟩
     conv => whnf
     refine ⟨_, wSm, ?_⟩
     conv => whnf
     refine ⟨(fun h => by cases h), fun _ => ?_⟩
     conv => whnf
     refine ⟨(fun h => by cases h), fun _ => ?_⟩
     conv => whnf
     refine ⟨_, wB16, ?_⟩
     conv => whnf
     refine ⟨_, wR4, ?_⟩
     conv => whnf
     refine ⟨(fun h => by cases h), fun _ => ?_⟩
     conv => whnf
     refine ⟨fun _ => ?_, (fun h => by cases h)⟩
     conv => whnf
     refine ⟨fun _ => ?_, (fun h => by simp at h)⟩
     conv => whnf
     refine ⟨fun _ => ?_, (fun h => by cases h)⟩
     conv => whnf
     refine ⟨_, awake16_pc, ?_⟩
     (conv => whnf) <;> try rfl
    ·have may : ∀ x ∈ m, mayN x = true := fun x hx => List.all_eq_true.1 hall x hx
     have hset := setN_set (fun x hx => (mb x hx).tiny) may
     have wSt := set5_pc m (by omega) mb may
     rw [← setN_ref (fun x hx => (mb x hx).tiny) may] at wSt
     have wOr := of16c (s := setN m) (by omega)
     have wSr := same16c (rowsN (setN m)) (fewRs_rows hset (by omega) (fun x hx => mb x ((mem_setN m x).1 hx)))
     rw [eqR_self] at wSr
     rw [hall] at wO
     simp only [if_true] at wO
     rw [← hfull] at hall
     refine pc_of tt_ok tt_follows Tryz.func3 rfl (by kernel_rfl) (by kernel_rfl) (Nat.le_of_ble_eq_true rfl) rfl ?_
     conv => whnf
     refine ⟨_, w1, ?_⟩
     conv => whnf
     refine ⟨_, w2, ?_⟩
     conv => whnf
     refine ⟨_, w3, ?_⟩
     conv => whnf
     refine ⟨_, wL, ?_⟩
     conv => whnf
     refine ⟨_, wO, ?_⟩
     conv => whnf
     refine ⟨_, wB, ?_⟩
     conv => whnf
     refine ⟨Nat, fun i => i ≤ m.length, fun i => [(39, .s (.bool ((m.take i).all mayN))), (42, .s (.int .i64 i))], [0, 3, 6, 18, 21, 24, 27, 30, 33, 36, 56, 62, 77], fun i => m.length - i, 0, Nat.zero_le _, ?_, fun i hi => ?_⟩
     ·refine ⟨⟨rfl, trivial, rfl, trivial, trivial⟩, ?_⟩
      repeat' (first | exact trivial | refine ⟨?_, ?_⟩ | (((conv => lhs; whnf) <;> (try (conv => rhs; whnf))) <;> exact rfl))
      all_goals
       (conv => whnf)
       exact Nat.le_refl _
     conv => whnf
     constructor
     ·intro h
      have hil := ltm h
      have hst := all_step i hil
      conv => whnf
      constructor
      ·intro hq
       conv => whnf
       refine ⟨_, idx_map evN m i hil, ?_⟩
       conv => whnf
       refine ⟨_, wN _ (List.getElem_mem hil), ?_⟩
       conv => whnf
       rw [hq, Bool.true_and] at hst
       refine ⟨i + 1, hil, less1 hil, ⟨⟨congrArg (fun q => PV.s (.bool q)) hst.symm, trivial, incI hil (by omega), trivial, trivial⟩, ?_⟩⟩
       repeat' (first | exact trivial | refine ⟨?_, ?_⟩ | (((conv => lhs; whnf) <;> (try (conv => rhs; whnf))) <;> exact rfl))
       all_goals
        (conv => whnf)
        exact Nat.le_refl _
      ·intro hq
       rw [hq, Bool.false_and] at hst
       conv => whnf
       refine ⟨i + 1, hil, less1 hil, ⟨⟨congrArg (fun q => PV.s (.bool q)) hst.symm, trivial, incI hil (by omega), trivial, trivial⟩, ?_⟩⟩
       repeat' (first | exact trivial | refine ⟨?_, ?_⟩ | (((conv => lhs; whnf) <;> (try (conv => rhs; whnf))) <;> exact rfl))
       all_goals
        (conv => whnf)
        exact Nat.le_refl _
     intro h
     have hil := gem h hi
     subst hil
     conv => whnf
     refine ⟨fun _ => ?_, (fun h => by rw [hall] at h; cases h)⟩
     conv => whnf
     refine ⟨_, wSt, ?_⟩
     conv => whnf
     refine ⟨_, wOr, ?_⟩
     conv => whnf
     refine ⟨_, wSr, ?_⟩
     conv => whnf
     refine ⟨(fun h => by cases h), fun _ => ?_⟩
     conv => whnf
     refine ⟨(fun h => by cases h), fun _ => ?_⟩
     conv => whnf
     refine ⟨(fun h => by rw [hall] at h; cases h), fun _ => ?_⟩
     conv => whnf
     refine ⟨_, wM, ?_⟩
     conv => whnf
     refine ⟨(fun h => by cases h), fun _ => ?_⟩
     conv => whnf
     refine ⟨_, wAl, ?_⟩
     conv => whnf
     refine ⟨_, wSm, ?_⟩
     conv => whnf
     refine ⟨(fun h => by cases h), fun _ => ?_⟩
     conv => whnf
     refine ⟨(fun h => by cases h), fun _ => ?_⟩
     conv => whnf
     refine ⟨_, wB16, ?_⟩
     conv => whnf
     refine ⟨_, wR4, ?_⟩
     conv => whnf
     refine ⟨(fun h => by cases h), fun _ => ?_⟩
     conv => whnf
     refine ⟨fun _ => ?_, (fun h => by cases h)⟩
     conv => whnf
     refine ⟨fun _ => ?_, (fun h => by simp at h)⟩
     conv => whnf
     refine ⟨fun _ => ?_, (fun h => by cases h)⟩
     conv => whnf
     refine ⟨_, awake16_pc, ?_⟩
     (conv => whnf) <;> try rfl
 ·rw [chk_f hg, if_neg (by decide)] at wL
  rw [mayB_f hg] at wM
  have hb : bestV l p = (⟨#[]⟩, 1) := if_pos (Or.inl (by rw [chk_f hg]; decide))
  rw [hb] at hbg
  injection hbg with e1 e2
  subst e1 e2
  cases hall : m.all mayN
  ·rw [hall] at wO
   simp only [if_false, Bool.false_eq_true] at wO
   rw [← hfull] at hall
   refine pc_of tt_ok tt_follows Tryz.func3 rfl (by kernel_rfl) (by kernel_rfl) (Nat.le_of_ble_eq_true rfl) rfl ?_
   conv => whnf
   refine ⟨_, w1, ?_⟩
   conv => whnf
   refine ⟨_, w2, ?_⟩
   conv => whnf
   refine ⟨_, w3, ?_⟩
   conv => whnf
   refine ⟨_, wL, ?_⟩
   conv => whnf
   refine ⟨_, wO, ?_⟩
   conv => whnf
   refine ⟨_, wB, ?_⟩
   conv => whnf
   refine ⟨Nat, fun i => i ≤ m.length, fun i => [(39, .s (.bool ((m.take i).all mayN))), (42, .s (.int .i64 i))], [0, 3, 6, 18, 21, 24, 27, 30, 33, 36, 56, 62, 77], fun i => m.length - i, 0, Nat.zero_le _, ?_, fun i hi => ?_⟩
   ·refine ⟨⟨rfl, trivial, rfl, trivial, trivial⟩, ?_⟩
    repeat' (first | exact trivial | refine ⟨?_, ?_⟩ | (((conv => lhs; whnf) <;> (try (conv => rhs; whnf))) <;> exact rfl))
    all_goals
     (conv => whnf)
     exact Nat.le_refl _
   conv => whnf
   constructor
   ·intro h
    have hil := ltm h
    have hst := all_step i hil
    conv => whnf
    constructor
    ·intro hq
     conv => whnf
     refine ⟨_, idx_map evN m i hil, ?_⟩
     conv => whnf
     refine ⟨_, wN _ (List.getElem_mem hil), ?_⟩
     conv => whnf
     rw [hq, Bool.true_and] at hst
     refine ⟨i + 1, hil, less1 hil, ⟨⟨congrArg (fun q => PV.s (.bool q)) hst.symm, trivial, incI hil (by omega), trivial, trivial⟩, ?_⟩⟩
     repeat' (first | exact trivial | refine ⟨?_, ?_⟩ | (((conv => lhs; whnf) <;> (try (conv => rhs; whnf))) <;> exact rfl))
     all_goals
      (conv => whnf)
      exact Nat.le_refl _
    ·intro hq
     rw [hq, Bool.false_and] at hst
     conv => whnf
     refine ⟨i + 1, hil, less1 hil, ⟨⟨congrArg (fun q => PV.s (.bool q)) hst.symm, trivial, incI hil (by omega), trivial, trivial⟩, ?_⟩⟩
     repeat' (first | exact trivial | refine ⟨?_, ?_⟩ | (((conv => lhs; whnf) <;> (try (conv => rhs; whnf))) <;> exact rfl))
     all_goals
      (conv => whnf)
      exact Nat.le_refl _
   intro h
   have hil := gem h hi
   subst hil
   conv => whnf
   refine ⟨(fun h => by rw [hall] at h; cases h), fun _ => ?_⟩
   conv => whnf
   refine ⟨fun _ => ?_, (fun h => by rw [hall] at h; cases h)⟩
   conv => whnf
   refine ⟨(fun h => by cases h), fun _ => ?_⟩
   conv => whnf
   refine ⟨(fun h => by cases h), fun _ => ?_⟩
   conv => whnf
   refine ⟨_, wM, ?_⟩
   conv => whnf
   refine ⟨fun _ => ?_, (fun h => by cases h)⟩
   conv => whnf
   refine ⟨fun _ => ?_, (fun h => by cases h)⟩
   conv => whnf
   refine ⟨fun _ => ?_, (fun h => by cases h)⟩
   conv => whnf
   refine ⟨fun _ => ?_, (fun h => by simp at h)⟩
   conv => whnf
   refine ⟨fun _ => ?_, (fun h => by cases h)⟩
   conv => whnf
   refine ⟨_, awake16_pc, ?_⟩
   (conv => whnf) <;> try rfl
  ·have may : ∀ x ∈ m, mayN x = true := fun x hx => List.all_eq_true.1 hall x hx
   have hset := setN_set (fun x hx => (mb x hx).tiny) may
   have wSt := set5_pc m (by omega) mb may
   rw [← setN_ref (fun x hx => (mb x hx).tiny) may] at wSt
   have wOr := of16c (s := setN m) (by omega)
   have wSr := same16c (rowsN (setN m)) (fewRs_rows hset (by omega) (fun x hx => mb x ((mem_setN m x).1 hx)))
   rw [eqR_self] at wSr
   rw [hall] at wO
   simp only [if_true] at wO
   rw [← hfull] at hall
   refine pc_of tt_ok tt_follows Tryz.func3 rfl (by kernel_rfl) (by kernel_rfl) (Nat.le_of_ble_eq_true rfl) rfl ?_
   conv => whnf
   refine ⟨_, w1, ?_⟩
   conv => whnf
   refine ⟨_, w2, ?_⟩
   conv => whnf
   refine ⟨_, w3, ?_⟩
   conv => whnf
   refine ⟨_, wL, ?_⟩
   conv => whnf
   refine ⟨_, wO, ?_⟩
   conv => whnf
   refine ⟨_, wB, ?_⟩
   conv => whnf
   refine ⟨Nat, fun i => i ≤ m.length, fun i => [(39, .s (.bool ((m.take i).all mayN))), (42, .s (.int .i64 i))], [0, 3, 6, 18, 21, 24, 27, 30, 33, 36, 56, 62, 77], fun i => m.length - i, 0, Nat.zero_le _, ?_, fun i hi => ?_⟩
   ·refine ⟨⟨rfl, trivial, rfl, trivial, trivial⟩, ?_⟩
    repeat' (first | exact trivial | refine ⟨?_, ?_⟩ | (((conv => lhs; whnf) <;> (try (conv => rhs; whnf))) <;> exact rfl))
    all_goals
     (conv => whnf)
     exact Nat.le_refl _
   conv => whnf
   constructor
   ·intro h
    have hil := ltm h
    have hst := all_step i hil
    conv => whnf
    constructor
    ·intro hq
     conv => whnf
     refine ⟨_, idx_map evN m i hil, ?_⟩
     conv => whnf
     refine ⟨_, wN _ (List.getElem_mem hil), ?_⟩
     conv => whnf
     rw [hq, Bool.true_and] at hst
     refine ⟨i + 1, hil, less1 hil, ⟨⟨congrArg (fun q => PV.s (.bool q)) hst.symm, trivial, incI hil (by omega), trivial, trivial⟩, ?_⟩⟩
     repeat' (first | exact trivial | refine ⟨?_, ?_⟩ | (((conv => lhs; whnf) <;> (try (conv => rhs; whnf))) <;> exact rfl))
     all_goals
      (conv => whnf)
      exact Nat.le_refl _
    ·intro hq
     rw [hq, Bool.false_and] at hst
     conv => whnf
     refine ⟨i + 1, hil, less1 hil, ⟨⟨congrArg (fun q => PV.s (.bool q)) hst.symm, trivial, incI hil (by omega), trivial, trivial⟩, ?_⟩⟩
     repeat' (first | exact trivial | refine ⟨?_, ?_⟩ | (((conv => lhs; whnf) <;> (try (conv => rhs; whnf))) <;> exact rfl))
     all_goals
      (conv => whnf)
      exact Nat.le_refl _
   intro h
   have hil := gem h hi
   subst hil
   conv => whnf
   refine ⟨fun _ => ?_, (fun h => by rw [hall] at h; cases h)⟩
   conv => whnf
   refine ⟨_, wSt, ?_⟩
   conv => whnf
   refine ⟨_, wOr, ?_⟩
   conv => whnf
   refine ⟨_, wSr, ?_⟩
   conv => whnf
   refine ⟨(fun h => by cases h), fun _ => ?_⟩
   conv => whnf
   refine ⟨(fun h => by cases h), fun _ => ?_⟩
   conv => whnf
   refine ⟨(fun h => by rw [hall] at h; cases h), fun _ => ?_⟩
   conv => whnf
   refine ⟨_, wM, ?_⟩
   conv => whnf
   refine ⟨fun _ => ?_, (fun h => by cases h)⟩
   conv => whnf
   refine ⟨fun _ => ?_, (fun h => by cases h)⟩
   conv => whnf
   refine ⟨fun _ => ?_, (fun h => by cases h)⟩
   conv => whnf
   refine ⟨fun _ => ?_, (fun h => by simp at h)⟩
   conv => whnf
   refine ⟨fun _ => ?_, (fun h => by cases h)⟩
   conv => whnf
   refine ⟨_, awake16_pc, ?_⟩
   (conv => whnf) <;> try rfl
end Go.Proofs.YtffjkbbmnfnbaaaGreatDoor.Q
end
