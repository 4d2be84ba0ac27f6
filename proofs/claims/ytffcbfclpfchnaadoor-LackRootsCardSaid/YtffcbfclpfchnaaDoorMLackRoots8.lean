/- Part 8 of this claim: several texts one behind the other: Fgraftwoodlaw18LackRoots, Aw18. What each shows stands in its theorems; conditions: sizes of texts and lists, as the functions' definitions say. -/
import Derived.Test.YtffcbfclpfchnaaDoorMLackRoots0
import Derived.Test.YtffcbfclpfchnaaDoorMLackRoots1
import Derived.Test.YtffcbfclpfchnaaDoorMLackRoots7
import Derived.Test.YtffcbfclpfchnaaDoorMLackRoots6
import Derived.Test.YtffcbfclpfchnaaDoorMLackRoots5
import Derived.Test.YtffcbfclpfchnaaDoorMLackRoots4
section
namespace Go.Proofs.YtffcbfclpfchnaaDoor.Q
open Go.RowKit Go.Proofs.YtffcbfclpfchnaaDoorW.PrintWords Go.Proofs.YtffcbfclpfchnaaDoorW.PrintLast Go.Proofs.YtffcbfclpfchnaaDoorW.PrintMore
attribute [local go_sem] max2_int min2_int max_two min_two max_three min_three max_four min_four   -- for this text's walks alone
set_option linter.unusedVariables false
set_option linter.unusedSimpArgs false
attribute [local go_sem high] eqA31
/-! ### graftwoodlaw18_LackRoots: function 4 -/
mutual
def graftwoodlaw18_LackRoots.l0 : Nat → List (S31) → List (S33) → List (S37) → Int → Option (Bool)
  | 0, _, _, _, _ => none
  | k + 1, x0, x1, x5, x7 => if x7 < (x5.length : Int) then (graftwoodlaw18_LackRoots.l1 k x0 x1 x5 x7 false 0 0) else ((graftwoodlaw18_awake.f).bind fun t307 => (some t307))
def graftwoodlaw18_LackRoots.l1 : Nat → List (S31) → List (S33) → List (S37) → Int → Bool → Int → Int → Option (Bool)
  | 0, _, _, _, _, _, _, _ => none
  | k + 1, x0, x1, x5, x7, x8, x9, x10 => if x10 < (x1.length : Int) then (if 0 ≤ x10 then (if 0 ≤ x7 then (if x7 < (x5.length : Int) then (if ((((rd_T33 x1 x10).f1.f0).toList) == (((rd_T37 x5 x7).f0.f0).toList) && ((((rd_T33 x1 x10).f1.f1).toList) == (((rd_T37 x5 x7).f0.f1).toList))) = true then (if x8 = true then (graftwoodlaw18_LackRoots.l1 k x0 x1 x5 x7 true (wrap64 (x9 + 1)) (wrap64 (x10 + 1))) else (graftwoodlaw18_LackRoots.l1 k x0 x1 x5 x7 ((((rd_T33 x1 x10).f0.f0).toList) == ([] : List UInt8) && ((((rd_T33 x1 x10).f0.f1).toList) == ([] : List UInt8))) (wrap64 (x9 + 1)) (wrap64 (x10 + 1)))) else (graftwoodlaw18_LackRoots.l1 k x0 x1 x5 x7 x8 x9 (wrap64 (x10 + 1)))) else (none)) else (none)) else (none)) else (if 0 ≤ x7 then (if x7 < (x5.length : Int) then (if x7 < (x0.length : Int) then (if (!((((rd_T37 x5 x7).f0.f0).toList) == (((rd_T31 x0 x7).f0).toList)) || (!((((rd_T37 x5 x7).f0.f1).toList) == (((rd_T31 x0 x7).f1).toList)))) = true then (graftwoodlaw18_LackRoots.j2 k x0 x1 x5 x7 true) else (if (((rd_T37 x5 x7).f2) != x8) = true then (graftwoodlaw18_LackRoots.j2 k x0 x1 x5 x7 true) else (graftwoodlaw18_LackRoots.j2 k x0 x1 x5 x7 (decide ((((rd_T37 x5 x7).f1).length : Int) > x9))))) else (none)) else (none)) else (none))
def graftwoodlaw18_LackRoots.j2 : Nat → List (S31) → List (S33) → List (S37) → Int → Bool → Option (Bool)
  | 0, _, _, _, _, _ => none
  | k + 1, x0, x1, x5, x7, x98 => if x98 = true then (some false) else (graftwoodlaw18_LackRoots.l2 k x0 x1 x5 x7 0)
def graftwoodlaw18_LackRoots.l2 : Nat → List (S31) → List (S33) → List (S37) → Int → Int → Option (Bool)
  | 0, _, _, _, _, _ => none
  | k + 1, x0, x1, x5, x7, x11 => if 0 ≤ x7 then (if x7 < (x5.length : Int) then (if x11 < (((rd_T37 x5 x7).f1).length : Int) then (if 0 ≤ x11 then ((graftwoodref05_Has.f k x0 ((rd_T31 ((rd_T37 x5 x7).f1) x11).f0) ((rd_T31 ((rd_T37 x5 x7).f1) x11).f1)).bind fun t318 => (if t318 = true then (graftwoodlaw18_LackRoots.l2 k x0 x1 x5 x7 (wrap64 (x11 + 1))) else (some false))) else (none)) else (graftwoodlaw18_LackRoots.l0 k x0 x1 x5 (wrap64 (x7 + 1)))) else (none)) else (none)
end
def graftwoodlaw18_LackRoots.f (k : Nat) (l0 : List (S31)) (l1 : List (S33)) : Option (Bool) := (graftwoodlaw05_Few.f k l0).bind fun t296 => ((graftwoodlaw18_Few.f k l1).bind fun t299 => ((lack_Of.f t296 ([] : List (S31)) t299).bind fun bt302 => (if bt302.2 = 0 then (if (bt302.1.length : Int) = (t296.length : Int) then (graftwoodlaw18_LackRoots.l0 k t296 t299 bt302.1 0) else (some false)) else (if (bt302.1.length : Int) = 0 then ((graftwoodlaw18_awake.f).bind fun t306 => (some t306)) else (some false)))))
theorem graftwoodlaw18_LackRoots.mono_l : ∀ k, (∀ y0 y1 y2 y3, LeO (graftwoodlaw18_LackRoots.l0 k y0 y1 y2 y3) (graftwoodlaw18_LackRoots.l0 (k + 1) y0 y1 y2 y3)) ∧ (∀ y0 y1 y2 y3 y4 y5 y6, LeO (graftwoodlaw18_LackRoots.l1 k y0 y1 y2 y3 y4 y5 y6) (graftwoodlaw18_LackRoots.l1 (k + 1) y0 y1 y2 y3 y4 y5 y6)) ∧ (∀ y0 y1 y2 y3 y4, LeO (graftwoodlaw18_LackRoots.j2 k y0 y1 y2 y3 y4) (graftwoodlaw18_LackRoots.j2 (k + 1) y0 y1 y2 y3 y4)) ∧ (∀ y0 y1 y2 y3 y4, LeO (graftwoodlaw18_LackRoots.l2 k y0 y1 y2 y3 y4) (graftwoodlaw18_LackRoots.l2 (k + 1) y0 y1 y2 y3 y4))
  | 0 => ⟨fun _ _ _ _ r h => by simp [graftwoodlaw18_LackRoots.l0] at h, fun _ _ _ _ _ _ _ r h => by simp [graftwoodlaw18_LackRoots.l1] at h, fun _ _ _ _ _ r h => by simp [graftwoodlaw18_LackRoots.j2] at h, fun _ _ _ _ _ r h => by simp [graftwoodlaw18_LackRoots.l2] at h⟩
  | k + 1 => by
    obtain ⟨ih0, ih1, ih2, ih3⟩ := graftwoodlaw18_LackRoots.mono_l k
    refine ⟨?_, ?_, ?_, ?_⟩
    · intro y0 y1 y2 y3
      unfold graftwoodlaw18_LackRoots.l0
      repeat' first
      | (with_reducible exact ih0 _ _ _ _)
      | (with_reducible exact ih1 _ _ _ _ _ _ _)
      | (with_reducible exact ih2 _ _ _ _ _)
      | (with_reducible exact ih3 _ _ _ _ _)
      | (with_reducible exact graftwoodlaw05_Few.mono _ _)
      | (with_reducible exact graftwoodlaw18_Few.mono _ _)
      | (with_reducible exact graftwoodref05_Has.mono _ _ _ _)
      | (with_reducible exact LeO.refl _)
      | (with_reducible exact LeO.none _)
      | (with_reducible refine LeO.ite ?_ ?_)
      | (with_reducible refine LeO.bind ?_ (fun _ => ?_))
      | exact ih0 _ _ _ _
      | exact ih1 _ _ _ _ _ _ _
      | exact ih2 _ _ _ _ _
      | exact ih3 _ _ _ _ _
      | exact graftwoodlaw05_Few.mono _ _
      | exact graftwoodlaw18_Few.mono _ _
      | exact graftwoodref05_Has.mono _ _ _ _
      | exact LeO.none _
      | refine LeO.ite ?_ ?_
      | refine LeO.bind ?_ (fun _ => ?_)
    · intro y0 y1 y2 y3 y4 y5 y6
      unfold graftwoodlaw18_LackRoots.l1
      repeat' first
      | (with_reducible exact ih0 _ _ _ _)
      | (with_reducible exact ih1 _ _ _ _ _ _ _)
      | (with_reducible exact ih2 _ _ _ _ _)
      | (with_reducible exact ih3 _ _ _ _ _)
      | (with_reducible exact graftwoodlaw05_Few.mono _ _)
      | (with_reducible exact graftwoodlaw18_Few.mono _ _)
      | (with_reducible exact graftwoodref05_Has.mono _ _ _ _)
      | (with_reducible exact LeO.refl _)
      | (with_reducible exact LeO.none _)
      | (with_reducible refine LeO.ite ?_ ?_)
      | (with_reducible refine LeO.bind ?_ (fun _ => ?_))
      | exact ih0 _ _ _ _
      | exact ih1 _ _ _ _ _ _ _
      | exact ih2 _ _ _ _ _
      | exact ih3 _ _ _ _ _
      | exact graftwoodlaw05_Few.mono _ _
      | exact graftwoodlaw18_Few.mono _ _
      | exact graftwoodref05_Has.mono _ _ _ _
      | exact LeO.none _
      | refine LeO.ite ?_ ?_
      | refine LeO.bind ?_ (fun _ => ?_)
    · intro y0 y1 y2 y3 y4
      unfold graftwoodlaw18_LackRoots.j2
      repeat' first
      | (with_reducible exact ih0 _ _ _ _)
      | (with_reducible exact ih1 _ _ _ _ _ _ _)
      | (with_reducible exact ih2 _ _ _ _ _)
      | (with_reducible exact ih3 _ _ _ _ _)
      | (with_reducible exact graftwoodlaw05_Few.mono _ _)
      | (with_reducible exact graftwoodlaw18_Few.mono _ _)
      | (with_reducible exact graftwoodref05_Has.mono _ _ _ _)
      | (with_reducible exact LeO.refl _)
      | (with_reducible exact LeO.none _)
      | (with_reducible refine LeO.ite ?_ ?_)
      | (with_reducible refine LeO.bind ?_ (fun _ => ?_))
      | exact ih0 _ _ _ _
      | exact ih1 _ _ _ _ _ _ _
      | exact ih2 _ _ _ _ _
      | exact ih3 _ _ _ _ _
      | exact graftwoodlaw05_Few.mono _ _
      | exact graftwoodlaw18_Few.mono _ _
      | exact graftwoodref05_Has.mono _ _ _ _
      | exact LeO.none _
      | refine LeO.ite ?_ ?_
      | refine LeO.bind ?_ (fun _ => ?_)
    · intro y0 y1 y2 y3 y4
      unfold graftwoodlaw18_LackRoots.l2
      repeat' first
      | (with_reducible exact ih0 _ _ _ _)
      | (with_reducible exact ih1 _ _ _ _ _ _ _)
      | (with_reducible exact ih2 _ _ _ _ _)
      | (with_reducible exact ih3 _ _ _ _ _)
      | (with_reducible exact graftwoodlaw05_Few.mono _ _)
      | (with_reducible exact graftwoodlaw18_Few.mono _ _)
      | (with_reducible exact graftwoodref05_Has.mono _ _ _ _)
      | (with_reducible exact LeO.refl _)
      | (with_reducible exact LeO.none _)
      | (with_reducible refine LeO.ite ?_ ?_)
      | (with_reducible refine LeO.bind ?_ (fun _ => ?_))
      | exact ih0 _ _ _ _
      | exact ih1 _ _ _ _ _ _ _
      | exact ih2 _ _ _ _ _
      | exact ih3 _ _ _ _ _
      | exact graftwoodlaw05_Few.mono _ _
      | exact graftwoodlaw18_Few.mono _ _
      | exact graftwoodref05_Has.mono _ _ _ _
      | exact LeO.none _
      | refine LeO.ite ?_ ?_
      | refine LeO.bind ?_ (fun _ => ?_)
theorem graftwoodlaw18_LackRoots.mono : ∀ a0 a1 k, LeO (graftwoodlaw18_LackRoots.f k a0 a1) (graftwoodlaw18_LackRoots.f (k + 1) a0 a1) := by
  intro a0 a1 k
  obtain ⟨ih0, ih1, ih2, ih3⟩ := graftwoodlaw18_LackRoots.mono_l k
  unfold graftwoodlaw18_LackRoots.f
  repeat' first
      | (with_reducible exact ih0 _ _ _ _)
      | (with_reducible exact ih1 _ _ _ _ _ _ _)
      | (with_reducible exact ih2 _ _ _ _ _)
      | (with_reducible exact ih3 _ _ _ _ _)
      | (with_reducible exact graftwoodlaw05_Few.mono _ _)
      | (with_reducible exact graftwoodlaw18_Few.mono _ _)
      | (with_reducible exact graftwoodref05_Has.mono _ _ _ _)
      | (with_reducible exact LeO.refl _)
      | (with_reducible exact LeO.none _)
      | (with_reducible refine LeO.ite ?_ ?_)
      | (with_reducible refine LeO.bind ?_ (fun _ => ?_))
      | exact ih0 _ _ _ _
      | exact ih1 _ _ _ _ _ _ _
      | exact ih2 _ _ _ _ _
      | exact ih3 _ _ _ _ _
      | exact graftwoodlaw05_Few.mono _ _
      | exact graftwoodlaw18_Few.mono _ _
      | exact graftwoodref05_Has.mono _ _ _ _
      | exact LeO.none _
      | refine LeO.ite ?_ ?_
      | refine LeO.bind ?_ (fun _ => ?_)
set_option maxHeartbeats 8000000 in
set_option maxRecDepth 100000 in
theorem graftwoodlaw18_LackRoots.calls (k : Nat) (A0 : Option Addr) (c0 : Nat) (l0 : List (S31)) (A1 : Option Addr) (c1 : Nat) (l1 : List (S33)) (r : Bool) (w : World) (hr0 : Kd.C k31 w A0 l0.length l0) (hc0 : l0.length ≤ c0) (hr1 : Kd.C k33 w A1 l1.length l1) (hc1 : l1.length ≤ c1) (h : graftwoodlaw18_LackRoots.f k l0 l1 = some r) (HR_ : Aside0 (r = true)) :
    Calls Tryd.prog 4 #[.slice A0 l0.length c0, .slice A1 l1.length c1] w fun e w' => e = .returned (.bool r) ∧ Below w.heap.size w w' := by
  have hu31 := Tryd.underlying31
  have HR0 := Aside0.mk hr0
  have HC0 := Aside0.mk hc0
  clear hr0 hc0
  have HR1 := Aside0.mk hr1
  have HC1 := Aside0.mk hc1
  clear hr1 hc1
  have HB := Aside0.mk (Below.refl w.heap.size w)
  have H : ((graftwoodlaw05_Few.f k l0).bind fun t296 => ((graftwoodlaw18_Few.f k l1).bind fun t299 => ((lack_Of.f t296 ([] : List (S31)) t299).bind fun bt302 => (if bt302.2 = 0 then (if (bt302.1.length : Int) = (t296.length : Int) then (graftwoodlaw18_LackRoots.l0 k t296 t299 bt302.1 0) else (some false)) else (if (bt302.1.length : Int) = 0 then ((graftwoodlaw18_awake.f).bind fun t306 => (some t306)) else (some false)))))) = some r := h
  clear h
  replace H := Option.bind_eq_some_iff.mp H
  obtain ⟨t296, A30, H⟩ := H
  replace H : ((graftwoodlaw18_Few.f k l1).bind fun t299 => ((lack_Of.f t296 ([] : List (S31)) t299).bind fun bt302 => (if bt302.2 = 0 then (if (bt302.1.length : Int) = (t296.length : Int) then (graftwoodlaw18_LackRoots.l0 k t296 t299 bt302.1 0) else (some false)) else (if (bt302.1.length : Int) = 0 then ((graftwoodlaw18_awake.f).bind fun t306 => (some t306)) else (some false))))) = some r := H
  have A3 := Aside0.mk A30
  clear A30
  replace H := Option.bind_eq_some_iff.mp H
  obtain ⟨t299, A40, H⟩ := H
  replace H : ((lack_Of.f t296 ([] : List (S31)) t299).bind fun bt302 => (if bt302.2 = 0 then (if (bt302.1.length : Int) = (t296.length : Int) then (graftwoodlaw18_LackRoots.l0 k t296 t299 bt302.1 0) else (some false)) else (if (bt302.1.length : Int) = 0 then ((graftwoodlaw18_awake.f).bind fun t306 => (some t306)) else (some false)))) = some r := H
  have A4 := Aside0.mk A40
  clear A40
  replace H := Option.bind_eq_some_iff.mp H
  obtain ⟨⟨t302, t303⟩, A50, H⟩ := H
  replace H : (if t303 = 0 then (if (t302.length : Int) = (t296.length : Int) then (graftwoodlaw18_LackRoots.l0 k t296 t299 t302 0) else (some false)) else (if (t302.length : Int) = 0 then ((graftwoodlaw18_awake.f).bind fun t306 => (some t306)) else (some false))) = some r := H
  have A5 := Aside0.mk A50
  clear A50
  by_cases c6 : t303 = 0
  · rw [if_pos c6] at H
    have c6b0 : (t303 == 0) = true := beq_iff_eq.mpr c6
    have c6b1 : (t303 != 0) = false := bne_eq_false_iff_eq.mpr c6
    clear c6
    by_cases c7 : (t302.length : Int) = (t296.length : Int)
    · rw [if_pos c7] at H
      have c7b0 : ((t302.length : Int) == (t296.length : Int)) = true := beq_iff_eq.mpr c7
      have c7b1 : ((t302.length : Int) != (t296.length : Int)) = false := bne_eq_false_iff_eq.mpr c7
      have c7b2 : (t302.length == t296.length) = true := by first | simpa using c7 | (simp at c7 ⊢; omega)
      clear c7
      have H' := Aside0.mk H
      clear H
      go_enter Tryd.func4, Tryd.ntmps4
      go_wp2_with (first | (go_at_call 6; (with_reducible refine (graftwoodlaw05_Few.calls k _ _ l0 t296 _ ?side1 ?side2 A3.out).mono ?_); (case side1 => repeat (first | exact HR0.out | (with_reducible refine Kd.C_alloc ?_ _) | (with_reducible refine Kd.C_drewN ?_ _) | (with_reducible refine Kd.C_drew ?_))); (case side2 => exact HC0.out); rintro e w8 ⟨v297, rfl, ho0, hb⟩; have n0_ := Aside0.mk (Kd.R_lower ho0 (below_size (by repeat (first | (with_reducible first | exact HB.out | apply below_alloc | apply pw_below_drewN | apply below_drew1) | exact HB.out)))); have n1_ := Aside0.mk (below_step (by repeat (first | (with_reducible first | exact HB.out | apply below_alloc | apply pw_below_drewN | apply below_drew1) | exact HB.out)) hb); clear HB; have HO298 := n0_; have HB := n1_; clear n0_ n1_; (try clear hb); (try clear hb2); (try clear hk); (try clear hi); (try clear ho0)) | (go_at_call 7; (with_reducible refine (graftwoodlaw18_Few.calls k _ _ l1 t299 _ ?side1 ?side2 A4.out).mono ?_); (case side1 => repeat (first | exact (Kd.C_below HR1.out HB.out) | (with_reducible refine Kd.C_alloc ?_ _) | (with_reducible refine Kd.C_drewN ?_ _) | (with_reducible refine Kd.C_drew ?_))); (case side2 => exact HC1.out); rintro e w9 ⟨v300, rfl, ho0, hb⟩; have n0_ := Aside0.mk (Kd.R_below (by (with_reducible repeat (first | apply Kd.R_alloc | apply Kd.R_drewN | apply Kd.R_drew)); exact HO298.out) hb); have n1_ := Aside0.mk (Kd.R_lower ho0 (below_size (by repeat (first | (with_reducible first | exact HB.out | apply below_alloc | apply pw_below_drewN | apply below_drew1) | exact HB.out)))); have n2_ := Aside0.mk (below_step (by repeat (first | (with_reducible first | exact HB.out | apply below_alloc | apply pw_below_drewN | apply below_drew1) | exact HB.out)) hb); clear HO298; clear HB; have HO298 := n0_; have HO301 := n1_; have HB := n2_; clear n0_ n1_ n2_; (try clear hb); (try clear hb2); (try clear hk); (try clear hi); (try clear ho0); obtain ⟨Ao10, co10, eo10⟩ := Kd.R_slice HO298.out; subst eo10; obtain ⟨Ao11, co11, eo11⟩ := Kd.R_slice HO301.out; subst eo11) | (go_at_call 8; (refine (lack_Of.calls _ _ t296 _ _ ([] : List (S31)) _ _ t299 t302 t303 _ ?side1 ?side2 ?side3 ?side4 ?side5 ?side6 A5.out).mono ?_); (case side1 => repeat (first | exact (Kd.R_reads' HO298.out).2.2 | (with_reducible refine Kd.C_alloc ?_ _) | (with_reducible refine Kd.C_drewN ?_ _) | (with_reducible refine Kd.C_drew ?_))); (case side2 => exact (Kd.R_reads' HO298.out).2.1); (case side3 => exact Kd.C_nil _ _); (case side4 => exact Nat.le_refl _); (case side5 => repeat (first | exact (Kd.R_reads' HO301.out).2.2 | (with_reducible refine Kd.C_alloc ?_ _) | (with_reducible refine Kd.C_drewN ?_ _) | (with_reducible refine Kd.C_drew ?_))); (case side6 => exact (Kd.R_reads' HO301.out).2.1); rintro e w12 ⟨v304, rfl, ho0, hb⟩; have n0_ := Aside0.mk (Kd.R_below (by (with_reducible repeat (first | apply Kd.R_alloc | apply Kd.R_drewN | apply Kd.R_drew)); exact HO298.out) hb); have n1_ := Aside0.mk (Kd.R_below (by (with_reducible repeat (first | apply Kd.R_alloc | apply Kd.R_drewN | apply Kd.R_drew)); exact HO301.out) hb); have n2_ := Aside0.mk (Kd.S_lower (Kd.S_new' ho0 (Kd.R_lt (by (with_reducible repeat (first | apply Kd.R_alloc | apply Kd.R_drewN | apply Kd.R_drew)); exact HO298.out))) (below_size (by repeat (first | (with_reducible first | exact HB.out | apply below_alloc | apply pw_below_drewN | apply below_drew1) | exact HB.out)))); have n3_ := Aside0.mk (below_step (by repeat (first | (with_reducible first | exact HB.out | apply below_alloc | apply pw_below_drewN | apply below_drew1) | exact HB.out)) hb); clear HO298; clear HO301; clear HB; have HO298 := n0_; have HO301 := n1_; have HO305 := n2_; have HB := n3_; clear n0_ n1_ n2_ n3_; (try clear hb); (try clear hb2); (try clear hk); (try clear hi); (try clear ho0); obtain ⟨Ao13, co13, eo13⟩ := Kd.S_slice HO305.out; subst eo13))
      repeat (go_quiet (first | (go_at_call 6; (with_reducible refine (graftwoodlaw05_Few.calls k _ _ l0 t296 _ ?side1 ?side2 A3.out).mono ?_); (case side1 => repeat (first | exact HR0.out | (with_reducible refine Kd.C_alloc ?_ _) | (with_reducible refine Kd.C_drewN ?_ _) | (with_reducible refine Kd.C_drew ?_))); (case side2 => exact HC0.out); rintro e w8 ⟨v297, rfl, ho0, hb⟩; have n0_ := Aside0.mk (Kd.R_lower ho0 (below_size (by repeat (first | (with_reducible first | exact HB.out | apply below_alloc | apply pw_below_drewN | apply below_drew1) | exact HB.out)))); have n1_ := Aside0.mk (below_step (by repeat (first | (with_reducible first | exact HB.out | apply below_alloc | apply pw_below_drewN | apply below_drew1) | exact HB.out)) hb); clear HB; have HO298 := n0_; have HB := n1_; clear n0_ n1_; (try clear hb); (try clear hb2); (try clear hk); (try clear hi); (try clear ho0)) | (go_at_call 7; (with_reducible refine (graftwoodlaw18_Few.calls k _ _ l1 t299 _ ?side1 ?side2 A4.out).mono ?_); (case side1 => repeat (first | exact (Kd.C_below HR1.out HB.out) | (with_reducible refine Kd.C_alloc ?_ _) | (with_reducible refine Kd.C_drewN ?_ _) | (with_reducible refine Kd.C_drew ?_))); (case side2 => exact HC1.out); rintro e w9 ⟨v300, rfl, ho0, hb⟩; have n0_ := Aside0.mk (Kd.R_below (by (with_reducible repeat (first | apply Kd.R_alloc | apply Kd.R_drewN | apply Kd.R_drew)); exact HO298.out) hb); have n1_ := Aside0.mk (Kd.R_lower ho0 (below_size (by repeat (first | (with_reducible first | exact HB.out | apply below_alloc | apply pw_below_drewN | apply below_drew1) | exact HB.out)))); have n2_ := Aside0.mk (below_step (by repeat (first | (with_reducible first | exact HB.out | apply below_alloc | apply pw_below_drewN | apply below_drew1) | exact HB.out)) hb); clear HO298; clear HB; have HO298 := n0_; have HO301 := n1_; have HB := n2_; clear n0_ n1_ n2_; (try clear hb); (try clear hb2); (try clear hk); (try clear hi); (try clear ho0); obtain ⟨Ao10, co10, eo10⟩ := Kd.R_slice HO298.out; subst eo10; obtain ⟨Ao11, co11, eo11⟩ := Kd.R_slice HO301.out; subst eo11) | (go_at_call 8; (refine (lack_Of.calls _ _ t296 _ _ ([] : List (S31)) _ _ t299 t302 t303 _ ?side1 ?side2 ?side3 ?side4 ?side5 ?side6 A5.out).mono ?_); (case side1 => repeat (first | exact (Kd.R_reads' HO298.out).2.2 | (with_reducible refine Kd.C_alloc ?_ _) | (with_reducible refine Kd.C_drewN ?_ _) | (with_reducible refine Kd.C_drew ?_))); (case side2 => exact (Kd.R_reads' HO298.out).2.1); (case side3 => exact Kd.C_nil _ _); (case side4 => exact Nat.le_refl _); (case side5 => repeat (first | exact (Kd.R_reads' HO301.out).2.2 | (with_reducible refine Kd.C_alloc ?_ _) | (with_reducible refine Kd.C_drewN ?_ _) | (with_reducible refine Kd.C_drew ?_))); (case side6 => exact (Kd.R_reads' HO301.out).2.1); rintro e w12 ⟨v304, rfl, ho0, hb⟩; have n0_ := Aside0.mk (Kd.R_below (by (with_reducible repeat (first | apply Kd.R_alloc | apply Kd.R_drewN | apply Kd.R_drew)); exact HO298.out) hb); have n1_ := Aside0.mk (Kd.R_below (by (with_reducible repeat (first | apply Kd.R_alloc | apply Kd.R_drewN | apply Kd.R_drew)); exact HO301.out) hb); have n2_ := Aside0.mk (Kd.S_lower (Kd.S_new' ho0 (Kd.R_lt (by (with_reducible repeat (first | apply Kd.R_alloc | apply Kd.R_drewN | apply Kd.R_drew)); exact HO298.out))) (below_size (by repeat (first | (with_reducible first | exact HB.out | apply below_alloc | apply pw_below_drewN | apply below_drew1) | exact HB.out)))); have n3_ := Aside0.mk (below_step (by repeat (first | (with_reducible first | exact HB.out | apply below_alloc | apply pw_below_drewN | apply below_drew1) | exact HB.out)) hb); clear HO298; clear HO301; clear HB; have HO298 := n0_; have HO301 := n1_; have HO305 := n2_; have HB := n3_; clear n0_ n1_ n2_ n3_; (try clear hb); (try clear hb2); (try clear hk); (try clear hi); (try clear ho0); obtain ⟨Ao13, co13, eo13⟩ := Kd.S_slice HO305.out; subst eo13)); try go_wp2_with (first | (go_at_call 6; (with_reducible refine (graftwoodlaw05_Few.calls k _ _ l0 t296 _ ?side1 ?side2 A3.out).mono ?_); (case side1 => repeat (first | exact HR0.out | (with_reducible refine Kd.C_alloc ?_ _) | (with_reducible refine Kd.C_drewN ?_ _) | (with_reducible refine Kd.C_drew ?_))); (case side2 => exact HC0.out); rintro e w8 ⟨v297, rfl, ho0, hb⟩; have n0_ := Aside0.mk (Kd.R_lower ho0 (below_size (by repeat (first | (with_reducible first | exact HB.out | apply below_alloc | apply pw_below_drewN | apply below_drew1) | exact HB.out)))); have n1_ := Aside0.mk (below_step (by repeat (first | (with_reducible first | exact HB.out | apply below_alloc | apply pw_below_drewN | apply below_drew1) | exact HB.out)) hb); clear HB; have HO298 := n0_; have HB := n1_; clear n0_ n1_; (try clear hb); (try clear hb2); (try clear hk); (try clear hi); (try clear ho0)) | (go_at_call 7; (with_reducible refine (graftwoodlaw18_Few.calls k _ _ l1 t299 _ ?side1 ?side2 A4.out).mono ?_); (case side1 => repeat (first | exact (Kd.C_below HR1.out HB.out) | (with_reducible refine Kd.C_alloc ?_ _) | (with_reducible refine Kd.C_drewN ?_ _) | (with_reducible refine Kd.C_drew ?_))); (case side2 => exact HC1.out); rintro e w9 ⟨v300, rfl, ho0, hb⟩; have n0_ := Aside0.mk (Kd.R_below (by (with_reducible repeat (first | apply Kd.R_alloc | apply Kd.R_drewN | apply Kd.R_drew)); exact HO298.out) hb); have n1_ := Aside0.mk (Kd.R_lower ho0 (below_size (by repeat (first | (with_reducible first | exact HB.out | apply below_alloc | apply pw_below_drewN | apply below_drew1) | exact HB.out)))); have n2_ := Aside0.mk (below_step (by repeat (first | (with_reducible first | exact HB.out | apply below_alloc | apply pw_below_drewN | apply below_drew1) | exact HB.out)) hb); clear HO298; clear HB; have HO298 := n0_; have HO301 := n1_; have HB := n2_; clear n0_ n1_ n2_; (try clear hb); (try clear hb2); (try clear hk); (try clear hi); (try clear ho0); obtain ⟨Ao10, co10, eo10⟩ := Kd.R_slice HO298.out; subst eo10; obtain ⟨Ao11, co11, eo11⟩ := Kd.R_slice HO301.out; subst eo11) | (go_at_call 8; (refine (lack_Of.calls _ _ t296 _ _ ([] : List (S31)) _ _ t299 t302 t303 _ ?side1 ?side2 ?side3 ?side4 ?side5 ?side6 A5.out).mono ?_); (case side1 => repeat (first | exact (Kd.R_reads' HO298.out).2.2 | (with_reducible refine Kd.C_alloc ?_ _) | (with_reducible refine Kd.C_drewN ?_ _) | (with_reducible refine Kd.C_drew ?_))); (case side2 => exact (Kd.R_reads' HO298.out).2.1); (case side3 => exact Kd.C_nil _ _); (case side4 => exact Nat.le_refl _); (case side5 => repeat (first | exact (Kd.R_reads' HO301.out).2.2 | (with_reducible refine Kd.C_alloc ?_ _) | (with_reducible refine Kd.C_drewN ?_ _) | (with_reducible refine Kd.C_drew ?_))); (case side6 => exact (Kd.R_reads' HO301.out).2.1); rintro e w12 ⟨v304, rfl, ho0, hb⟩; have n0_ := Aside0.mk (Kd.R_below (by (with_reducible repeat (first | apply Kd.R_alloc | apply Kd.R_drewN | apply Kd.R_drew)); exact HO298.out) hb); have n1_ := Aside0.mk (Kd.R_below (by (with_reducible repeat (first | apply Kd.R_alloc | apply Kd.R_drewN | apply Kd.R_drew)); exact HO301.out) hb); have n2_ := Aside0.mk (Kd.S_lower (Kd.S_new' ho0 (Kd.R_lt (by (with_reducible repeat (first | apply Kd.R_alloc | apply Kd.R_drewN | apply Kd.R_drew)); exact HO298.out))) (below_size (by repeat (first | (with_reducible first | exact HB.out | apply below_alloc | apply pw_below_drewN | apply below_drew1) | exact HB.out)))); have n3_ := Aside0.mk (below_step (by repeat (first | (with_reducible first | exact HB.out | apply below_alloc | apply pw_below_drewN | apply below_drew1) | exact HB.out)) hb); clear HO298; clear HO301; clear HB; have HO298 := n0_; have HO301 := n1_; have HO305 := n2_; have HB := n3_; clear n0_ n1_ n2_ n3_; (try clear hb); (try clear hb2); (try clear hk); (try clear hi); (try clear ho0); obtain ⟨Ao13, co13, eo13⟩ := Kd.S_slice HO305.out; subst eo13)))
      go_loopg [7] k (fun kq v7 w' => ∃ (x7_1 : Int), v7 = .int .i64 x7_1 ∧ Aside0 (graftwoodlaw18_LackRoots.l0 kq t296 t299 t302 x7_1 = some r) ∧ Aside0 (kq ≤ k) ∧ Aside0 (Kd.R k31 31 w' w.heap.size (fun _ => True) (.slice Ao10 t296.length co10) t296) ∧ Aside0 (Kd.R k33 33 w' w.heap.size (fun _ => True) (.slice Ao11 t299.length co11) t299) ∧ Aside0 (Kd.S k37 37 w' w.heap.size (fun k_ => some k_ ≠ ((.slice Ao10 t296.length co10) : Value).ownBlock) (.slice Ao13 t302.length co13) t302) ∧ Aside0 (Below w.heap.size w w'))
      case atStart => exact ⟨(0), (by first | rfl | (simp; done) | (simp [*]; done)), H', ⟨Nat.le_refl _⟩, ⟨by (with_reducible repeat (first | apply Kd.R_alloc | apply Kd.R_drewN | apply Kd.R_drew)); exact HO298.out⟩, ⟨by (with_reducible repeat (first | apply Kd.R_alloc | apply Kd.R_drewN | apply Kd.R_drew)); exact HO301.out⟩, ⟨by (with_reducible repeat (first | apply Kd.S_alloc | apply Kd.S_drewN | apply Kd.S_drew)); exact Kd.S_mono HO305.out (fun _ hk => hk.2)⟩, ⟨by repeat (first | (with_reducible first | exact HB.out | apply below_alloc | apply pw_below_drewN | apply below_drew1) | exact HB.out)⟩⟩
      case round =>
        clear H'
        try clear c1
        try clear p2
        try clear c4
        try clear c6
        try clear c6b0
        try clear c6b1
        try clear c7
        try clear c7b0
        try clear c7b1
        try clear c7b2
        obtain ⟨x7_1, rfl, HA, HK1, HO_0, HO_1, HO_5, HB⟩ := hrel
        cases gk with
        | zero => exact absurd HA.out (by simp [graftwoodlaw18_LackRoots.l0])
        | succ k1 =>
          have H := HA.out
          clear HA
          simp only [graftwoodlaw18_LackRoots.l0] at H
          by_cases c14 : x7_1 < (t302.length : Int)
          · rw [if_pos c14] at H
            have c14b0 : decide (x7_1 < (t302.length : Int)) = true := decide_eq_true c14
            clear c14
            have H' := Aside0.mk H
            clear H
            go_wp2
            repeat (go_quiet (fail); try go_wp2)
            go_loopg [8, 9, 10] k1 (fun kq v8 v9 v10 w' => ∃ (x8_2 : Bool) (x9_2 : Int) (x10_2 : Int), v8 = .bool x8_2 ∧ v9 = .int .i64 x9_2 ∧ v10 = .int .i64 x10_2 ∧ Aside0 (graftwoodlaw18_LackRoots.l1 kq t296 t299 t302 x7_1 x8_2 x9_2 x10_2 = some r) ∧ Aside0 (kq ≤ k1) ∧ Aside0 (Kd.R k31 31 w' w.heap.size (fun _ => True) (.slice Ao10 t296.length co10) t296) ∧ Aside0 (Kd.R k33 33 w' w.heap.size (fun _ => True) (.slice Ao11 t299.length co11) t299) ∧ Aside0 (Kd.S k37 37 w' w.heap.size (fun k_ => some k_ ≠ ((.slice Ao10 t296.length co10) : Value).ownBlock) (.slice Ao13 t302.length co13) t302) ∧ Aside0 (Below w.heap.size w w'))
            case atStart => exact ⟨(false), (0), (0), (by first | rfl | (simp; done) | (simp [*]; done)), (by first | rfl | (simp; done) | (simp [*]; done)), (by first | rfl | (simp; done) | (simp [*]; done)), H', ⟨Nat.le_refl _⟩, ⟨by (with_reducible repeat (first | apply Kd.R_alloc | apply Kd.R_drewN | apply Kd.R_drew)); exact HO_0.out⟩, ⟨by (with_reducible repeat (first | apply Kd.R_alloc | apply Kd.R_drewN | apply Kd.R_drew)); exact HO_1.out⟩, ⟨by (with_reducible repeat (first | apply Kd.S_alloc | apply Kd.S_drewN | apply Kd.S_drew)); exact HO_5.out⟩, ⟨by repeat (first | (with_reducible first | exact HB.out | apply below_alloc | apply pw_below_drewN | apply below_drew1) | exact HB.out)⟩⟩
            case round =>
              clear H'
              try clear c1
              try clear p2
              try clear c4
              try clear c6
              try clear c6b0
              try clear c6b1
              try clear c7
              try clear c7b0
              try clear c7b1
              try clear c7b2
              try clear c14
              try clear c14b0
              try clear p2
              obtain ⟨x8_2, x9_2, x10_2, rfl, rfl, rfl, HA, HK2, HO_0, HO_1, HO_5, HB⟩ := hrel
              cases gk with
              | zero => exact absurd HA.out (by simp [graftwoodlaw18_LackRoots.l1])
              | succ k2 =>
                have H := HA.out
                clear HA
                simp only [graftwoodlaw18_LackRoots.l1] at H
                by_cases c15 : x10_2 < (t299.length : Int)
                · rw [if_pos c15] at H
                  have c15b0 : decide (x10_2 < (t299.length : Int)) = true := decide_eq_true c15
                  clear c15
                  by_cases c16 : 0 ≤ x10_2
                  · rw [if_pos c16] at H
                    have c16b0 : decide (0 ≤ x10_2) = true := decide_eq_true c16
                    clear c16
                    by_cases c17 : 0 ≤ x7_1
                    · rw [if_pos c17] at H
                      have c17b0 : decide (0 ≤ x7_1) = true := decide_eq_true c17
                      clear c17
                      by_cases c18 : x7_1 < (t302.length : Int)
                      · rw [if_pos c18] at H
                        have c18b0 : decide (x7_1 < (t302.length : Int)) = true := decide_eq_true c18
                        clear c18
                        by_cases c19 : ((((rd_T33 t299 x10_2).f1.f0).toList) == (((rd_T37 t302 x7_1).f0.f0).toList) && ((((rd_T33 t299 x10_2).f1.f1).toList) == (((rd_T37 t302 x7_1).f0.f1).toList))) = true
                        · rw [if_pos c19] at H
                          have c19b0 : ((((rd_T33 t299 x10_2).f1.f0).toList) == (((rd_T37 t302 x7_1).f0.f0).toList) && ((((rd_T33 t299 x10_2).f1.f1).toList) == (((rd_T37 t302 x7_1).f0.f1).toList))) = true := c19
                          (try (have c19b1 : decide ((((rd_T33 t299 x10_2).f1.f0).toList) = (((rd_T37 t302 x7_1).f0.f0).toList) && ((((rd_T33 t299 x10_2).f1.f1).toList) == (((rd_T37 t302 x7_1).f0.f1).toList))) = true := by simpa using c19))
                          (try (have c19b2 : ((((rd_T33 t299 x10_2).f1.f0).toList) == (((rd_T37 t302 x7_1).f0.f0).toList) && ((((rd_T33 t299 x10_2).f1.f1).toList) == (((rd_T37 t302 x7_1).f0.f1).toList))) = true := by simpa using c19))
                          clear c19
                          by_cases c20 : x8_2 = true
                          · subst c20
                            have H1 : (graftwoodlaw18_LackRoots.l1 k2 t296 t299 t302 x7_1 true (wrap64 (x9_2 + 1)) (wrap64 (x10_2 + 1))) = some r := by rw [if_pos rfl] at H; exact H
                            clear H
                            have H := H1
                            clear H1
                            have H' := Aside0.mk H
                            clear H
                            have p308 : 0 ≤ (x10_2 : Int) := of_decide_eq_true (by first | (with_reducible assumption) | assumption)
                            have q308 : x10_2 < (t299.length : Int) := of_decide_eq_true (by first | (with_reducible assumption) | assumption)
                            obtain ⟨ad308, e308, hx308_0, hx308_1, hx308_2, hx308_3⟩ := at_T33 (Kd.R_reads' HO_1.out).2.2 x10_2 p308 q308
                            cases e308
                            replace p308 := eq_true p308
                            replace q308 := eq_true q308
                            have p309 : 0 ≤ (x7_1 : Int) := of_decide_eq_true (by first | (with_reducible assumption) | assumption)
                            have q309 : x7_1 < (t302.length : Int) := of_decide_eq_true (by first | (with_reducible assumption) | assumption)
                            obtain ⟨ad309, A309_2, c309_2, e309, hx309_0, hx309_1, hx309_2, hx309_3, hl309_2, hi309_2⟩ := at_T37 (Kd.S_reads' HO_5.out).2.2 x7_1 p309 q309
                            cases e309
                            obtain ⟨ce309, hce309, hMe309, hcc309⟩ := Kd.S_get HO_5.out z37 x7_1 p309 (by first | exact q309 | exact of_decide_eq_true (by first | (with_reducible assumption) | assumption) | (have e_ := (Kd.S_reads' HO_5.out).1; omega))
                            obtain ⟨ve309_2, rfl, ge309_2⟩ := k37_openM hMe309
                            have hv309_2 := hcc309 2 _ rfl
                            rw [add_field _ _ 2 (by omega)] at hv309_2
                            replace hv309_2 := Option.some.inj (hv309_2.symm.trans hx309_2)
                            rw [hv309_2] at ge309_2
                            have HL309_2 := Aside0.mk (show Kd.R k31 31 _ _ _ _ ((rd_T37 t302 x7_1).f1) from ge309_2)
                            clear hv309_2 ge309_2
                            clear hcc309 hce309
                            have HR309_2 := Aside0.mk hi309_2
                            have HC309_2 := Aside0.mk hl309_2
                            clear hi309_2 hl309_2
                            replace p309 := eq_true p309
                            replace q309 := eq_true q309
                            go_wp2
                            repeat (go_quiet (fail); try go_wp2)
                            go_roundg k2
                            case measure => have := HK1.out; have := HK2.out; omega
                            case rel => exact ⟨(true), (wrap64 (x9_2 + 1)), (wrap64 (x10_2 + 1)), (by first | rfl | (simp; done) | (simp [*]; done)), (by first | rfl | (simp; done) | (simp [*]; done)), (by first | rfl | (simp; done) | (simp [*]; done)), H', ⟨by have := HK1.out; have := HK2.out; omega⟩, ⟨by (with_reducible repeat (first | apply Kd.R_alloc | apply Kd.R_drewN | apply Kd.R_drew)); exact HO_0.out⟩, ⟨by (with_reducible repeat (first | apply Kd.R_alloc | apply Kd.R_drewN | apply Kd.R_drew)); exact HO_1.out⟩, ⟨by (with_reducible repeat (first | apply Kd.S_alloc | apply Kd.S_drewN | apply Kd.S_drew)); exact HO_5.out⟩, ⟨by repeat (first | (with_reducible first | exact HB.out | apply below_alloc | apply pw_below_drewN | apply below_drew1) | exact HB.out)⟩⟩
                          · replace c20 := Bool.eq_false_iff.mpr c20
                            subst c20
                            have H1 : (graftwoodlaw18_LackRoots.l1 k2 t296 t299 t302 x7_1 ((((rd_T33 t299 x10_2).f0.f0).toList) == ([] : List UInt8) && ((((rd_T33 t299 x10_2).f0.f1).toList) == ([] : List UInt8))) (wrap64 (x9_2 + 1)) (wrap64 (x10_2 + 1))) = some r := by rw [if_neg (show ¬ (false = true) by decide)] at H; exact H
                            clear H
                            have H := H1
                            clear H1
                            have H' := Aside0.mk H
                            clear H
                            have p308 : 0 ≤ (x10_2 : Int) := of_decide_eq_true (by first | (with_reducible assumption) | assumption)
                            have q308 : x10_2 < (t299.length : Int) := of_decide_eq_true (by first | (with_reducible assumption) | assumption)
                            obtain ⟨ad308, e308, hx308_0, hx308_1, hx308_2, hx308_3⟩ := at_T33 (Kd.R_reads' HO_1.out).2.2 x10_2 p308 q308
                            cases e308
                            replace p308 := eq_true p308
                            replace q308 := eq_true q308
                            have p309 : 0 ≤ (x7_1 : Int) := of_decide_eq_true (by first | (with_reducible assumption) | assumption)
                            have q309 : x7_1 < (t302.length : Int) := of_decide_eq_true (by first | (with_reducible assumption) | assumption)
                            obtain ⟨ad309, A309_2, c309_2, e309, hx309_0, hx309_1, hx309_2, hx309_3, hl309_2, hi309_2⟩ := at_T37 (Kd.S_reads' HO_5.out).2.2 x7_1 p309 q309
                            cases e309
                            obtain ⟨ce309, hce309, hMe309, hcc309⟩ := Kd.S_get HO_5.out z37 x7_1 p309 (by first | exact q309 | exact of_decide_eq_true (by first | (with_reducible assumption) | assumption) | (have e_ := (Kd.S_reads' HO_5.out).1; omega))
                            obtain ⟨ve309_2, rfl, ge309_2⟩ := k37_openM hMe309
                            have hv309_2 := hcc309 2 _ rfl
                            rw [add_field _ _ 2 (by omega)] at hv309_2
                            replace hv309_2 := Option.some.inj (hv309_2.symm.trans hx309_2)
                            rw [hv309_2] at ge309_2
                            have HL309_2 := Aside0.mk (show Kd.R k31 31 _ _ _ _ ((rd_T37 t302 x7_1).f1) from ge309_2)
                            clear hv309_2 ge309_2
                            clear hcc309 hce309
                            have HR309_2 := Aside0.mk hi309_2
                            have HC309_2 := Aside0.mk hl309_2
                            clear hi309_2 hl309_2
                            replace p309 := eq_true p309
                            replace q309 := eq_true q309
                            have p310 : 0 ≤ (x10_2 : Int) := of_decide_eq_true (by first | (with_reducible assumption) | assumption)
                            have q310 : x10_2 < (t299.length : Int) := of_decide_eq_true (by first | (with_reducible assumption) | assumption)
                            obtain ⟨ad310, e310, hx310_0, hx310_1, hx310_2, hx310_3⟩ := at_T33 (Kd.R_reads' HO_1.out).2.2 x10_2 p310 q310
                            obtain rfl : ad308 = ad310 := (by injection e310)
                            replace p310 := eq_true p310
                            replace q310 := eq_true q310
                            go_wp2
                            repeat (go_quiet (fail); try go_wp2)
                            go_roundg k2
                            case measure => have := HK1.out; have := HK2.out; omega
                            case rel => exact ⟨(((((rd_T33 t299 x10_2).f0.f0).toList) == ([] : List UInt8) && ((((rd_T33 t299 x10_2).f0.f1).toList) == ([] : List UInt8)))), (wrap64 (x9_2 + 1)), (wrap64 (x10_2 + 1)), (by first | rfl | (simp; done) | (simp [*]; done)), (by first | rfl | (simp; done) | (simp [*]; done)), (by first | rfl | (simp; done) | (simp [*]; done)), H', ⟨by have := HK1.out; have := HK2.out; omega⟩, ⟨by (with_reducible repeat (first | apply Kd.R_alloc | apply Kd.R_drewN | apply Kd.R_drew)); exact HO_0.out⟩, ⟨by (with_reducible repeat (first | apply Kd.R_alloc | apply Kd.R_drewN | apply Kd.R_drew)); exact HO_1.out⟩, ⟨by (with_reducible repeat (first | apply Kd.S_alloc | apply Kd.S_drewN | apply Kd.S_drew)); exact HO_5.out⟩, ⟨by repeat (first | (with_reducible first | exact HB.out | apply below_alloc | apply pw_below_drewN | apply below_drew1) | exact HB.out)⟩⟩
                        · rw [if_neg c19] at H
                          have c19b0 : ((((rd_T33 t299 x10_2).f1.f0).toList) == (((rd_T37 t302 x7_1).f0.f0).toList) && ((((rd_T33 t299 x10_2).f1.f1).toList) == (((rd_T37 t302 x7_1).f0.f1).toList))) = false := by simpa using c19
                          (try (have c19b1 : decide ((((rd_T33 t299 x10_2).f1.f0).toList) = (((rd_T37 t302 x7_1).f0.f0).toList) && ((((rd_T33 t299 x10_2).f1.f1).toList) == (((rd_T37 t302 x7_1).f0.f1).toList))) = false := by simpa using c19))
                          (try (have c19b2 : ((((rd_T33 t299 x10_2).f1.f0).toList) == (((rd_T37 t302 x7_1).f0.f0).toList) && ((((rd_T33 t299 x10_2).f1.f1).toList) == (((rd_T37 t302 x7_1).f0.f1).toList))) = false := by simpa using c19))
                          (try (have c19b3 : ¬ ((((rd_T33 t299 x10_2).f1.f0).toList) = (((rd_T37 t302 x7_1).f0.f0).toList) && ((((rd_T33 t299 x10_2).f1.f1).toList) == (((rd_T37 t302 x7_1).f0.f1).toList))) := by simpa using c19))
                          clear c19
                          have H' := Aside0.mk H
                          clear H
                          have p308 : 0 ≤ (x10_2 : Int) := of_decide_eq_true (by first | (with_reducible assumption) | assumption)
                          have q308 : x10_2 < (t299.length : Int) := of_decide_eq_true (by first | (with_reducible assumption) | assumption)
                          obtain ⟨ad308, e308, hx308_0, hx308_1, hx308_2, hx308_3⟩ := at_T33 (Kd.R_reads' HO_1.out).2.2 x10_2 p308 q308
                          cases e308
                          replace p308 := eq_true p308
                          replace q308 := eq_true q308
                          have p309 : 0 ≤ (x7_1 : Int) := of_decide_eq_true (by first | (with_reducible assumption) | assumption)
                          have q309 : x7_1 < (t302.length : Int) := of_decide_eq_true (by first | (with_reducible assumption) | assumption)
                          obtain ⟨ad309, A309_2, c309_2, e309, hx309_0, hx309_1, hx309_2, hx309_3, hl309_2, hi309_2⟩ := at_T37 (Kd.S_reads' HO_5.out).2.2 x7_1 p309 q309
                          cases e309
                          obtain ⟨ce309, hce309, hMe309, hcc309⟩ := Kd.S_get HO_5.out z37 x7_1 p309 (by first | exact q309 | exact of_decide_eq_true (by first | (with_reducible assumption) | assumption) | (have e_ := (Kd.S_reads' HO_5.out).1; omega))
                          obtain ⟨ve309_2, rfl, ge309_2⟩ := k37_openM hMe309
                          have hv309_2 := hcc309 2 _ rfl
                          rw [add_field _ _ 2 (by omega)] at hv309_2
                          replace hv309_2 := Option.some.inj (hv309_2.symm.trans hx309_2)
                          rw [hv309_2] at ge309_2
                          have HL309_2 := Aside0.mk (show Kd.R k31 31 _ _ _ _ ((rd_T37 t302 x7_1).f1) from ge309_2)
                          clear hv309_2 ge309_2
                          clear hcc309 hce309
                          have HR309_2 := Aside0.mk hi309_2
                          have HC309_2 := Aside0.mk hl309_2
                          clear hi309_2 hl309_2
                          replace p309 := eq_true p309
                          replace q309 := eq_true q309
                          go_wp2
                          repeat (go_quiet (fail); try go_wp2)
                          go_roundg k2
                          case measure => have := HK1.out; have := HK2.out; omega
                          case rel => exact ⟨(x8_2), (x9_2), (wrap64 (x10_2 + 1)), (by first | rfl | (simp; done) | (simp [*]; done)), (by first | rfl | (simp; done) | (simp [*]; done)), (by first | rfl | (simp; done) | (simp [*]; done)), H', ⟨by have := HK1.out; have := HK2.out; omega⟩, ⟨by (with_reducible repeat (first | apply Kd.R_alloc | apply Kd.R_drewN | apply Kd.R_drew)); exact HO_0.out⟩, ⟨by (with_reducible repeat (first | apply Kd.R_alloc | apply Kd.R_drewN | apply Kd.R_drew)); exact HO_1.out⟩, ⟨by (with_reducible repeat (first | apply Kd.S_alloc | apply Kd.S_drewN | apply Kd.S_drew)); exact HO_5.out⟩, ⟨by repeat (first | (with_reducible first | exact HB.out | apply below_alloc | apply pw_below_drewN | apply below_drew1) | exact HB.out)⟩⟩
                      · rw [if_neg c18] at H
                        exact absurd H (by simp)
                    · rw [if_neg c17] at H
                      exact absurd H (by simp)
                  · rw [if_neg c16] at H
                    exact absurd H (by simp)
                · rw [if_neg c15] at H
                  have c15b0 : decide (x10_2 < (t299.length : Int)) = false := decide_eq_false c15
                  clear c15
                  have HC21 := Aside0.mk H
                  clear H
                  go_upto_region 17 with (fail)
                  repeat (go_quiet (fail); go_upto_region 17 with (fail))
                  go_cut [98] (fun v98 wc => ∃ (kq : Nat) (x98_20 : Bool), v98 = .bool x98_20 ∧ Aside0 (graftwoodlaw18_LackRoots.j2 kq t296 t299 t302 x7_1 x98_20 = some r) ∧ Aside0 (kq ≤ k2) ∧ Aside0 (Kd.R k31 31 wc w.heap.size (fun _ => True) (.slice Ao10 t296.length co10) t296) ∧ Aside0 (Kd.R k33 33 wc w.heap.size (fun _ => True) (.slice Ao11 t299.length co11) t299) ∧ Aside0 (Kd.S k37 37 wc w.heap.size (fun k_ => some k_ ≠ ((.slice Ao10 t296.length co10) : Value).ownBlock) (.slice Ao13 t302.length co13) t302) ∧ Aside0 (Below w.heap.size w wc))
                  case first =>
                    have H := HC21.out
                    clear HC21
                    by_cases c22 : 0 ≤ x7_1
                    · rw [if_pos c22] at H
                      have c22b0 : decide (0 ≤ x7_1) = true := decide_eq_true c22
                      clear c22
                      (first | rw [c22b0] | (simp only [i64_w, i32_w]; rw [c22b0]) | skip)
                      by_cases c23 : x7_1 < (t302.length : Int)
                      · rw [if_pos c23] at H
                        have c23b0 : decide (x7_1 < (t302.length : Int)) = true := decide_eq_true c23
                        clear c23
                        by_cases c24 : x7_1 < (t296.length : Int)
                        · rw [if_pos c24] at H
                          have c24b0 : decide (x7_1 < (t296.length : Int)) = true := decide_eq_true c24
                          clear c24
                          by_cases c25 : (!((((rd_T37 t302 x7_1).f0.f0).toList) == (((rd_T31 t296 x7_1).f0).toList)) || (!((((rd_T37 t302 x7_1).f0.f1).toList) == (((rd_T31 t296 x7_1).f1).toList)))) = true
                          · rw [if_pos c25] at H
                            have c25b0 : (!((((rd_T37 t302 x7_1).f0.f0).toList) == (((rd_T31 t296 x7_1).f0).toList)) || (!((((rd_T37 t302 x7_1).f0.f1).toList) == (((rd_T31 t296 x7_1).f1).toList)))) = true := c25
                            clear c25
                            have H' := Aside0.mk H
                            clear H
                            have p311 : 0 ≤ (x7_1 : Int) := of_decide_eq_true (by first | (with_reducible assumption) | assumption)
                            have q311 : x7_1 < (t302.length : Int) := of_decide_eq_true (by first | (with_reducible assumption) | assumption)
                            obtain ⟨ad311, A311_2, c311_2, e311, hx311_0, hx311_1, hx311_2, hx311_3, hl311_2, hi311_2⟩ := at_T37 (Kd.S_reads' HO_5.out).2.2 x7_1 p311 q311
                            cases e311
                            obtain ⟨ce311, hce311, hMe311, hcc311⟩ := Kd.S_get HO_5.out z37 x7_1 p311 (by first | exact q311 | exact of_decide_eq_true (by first | (with_reducible assumption) | assumption) | (have e_ := (Kd.S_reads' HO_5.out).1; omega))
                            obtain ⟨ve311_2, rfl, ge311_2⟩ := k37_openM hMe311
                            have hv311_2 := hcc311 2 _ rfl
                            rw [add_field _ _ 2 (by omega)] at hv311_2
                            replace hv311_2 := Option.some.inj (hv311_2.symm.trans hx311_2)
                            rw [hv311_2] at ge311_2
                            have HL311_2 := Aside0.mk (show Kd.R k31 31 _ _ _ _ ((rd_T37 t302 x7_1).f1) from ge311_2)
                            clear hv311_2 ge311_2
                            clear hcc311 hce311
                            have HR311_2 := Aside0.mk hi311_2
                            have HC311_2 := Aside0.mk hl311_2
                            clear hi311_2 hl311_2
                            replace p311 := eq_true p311
                            replace q311 := eq_true q311
                            have p312 : 0 ≤ (x7_1 : Int) := of_decide_eq_true (by first | (with_reducible assumption) | assumption)
                            have q312 : x7_1 < (t296.length : Int) := of_decide_eq_true (by first | (with_reducible assumption) | assumption)
                            obtain ⟨ad312, e312, hx312_0, hx312_1⟩ := at_T31 (Kd.R_reads' HO_0.out).2.2 x7_1 p312 q312
                            cases e312
                            replace p312 := eq_true p312
                            replace q312 := eq_true q312
                            go_wp2
                            repeat (go_quiet (fail); try go_wp2)
                            go_meet
                            case rel => exact ⟨_, (true), (by first | rfl | (simp; done) | (simp [*]; done)), H', ⟨by have := HK1.out; have := HK2.out; first | omega | exact Nat.le_refl _⟩, ⟨by (with_reducible repeat (first | apply Kd.R_alloc | apply Kd.R_drewN | apply Kd.R_drew)); exact HO_0.out⟩, ⟨by (with_reducible repeat (first | apply Kd.R_alloc | apply Kd.R_drewN | apply Kd.R_drew)); exact HO_1.out⟩, ⟨by (with_reducible repeat (first | apply Kd.S_alloc | apply Kd.S_drewN | apply Kd.S_drew)); exact HO_5.out⟩, ⟨by repeat (first | (with_reducible first | exact HB.out | apply below_alloc | apply pw_below_drewN | apply below_drew1) | exact HB.out)⟩⟩
                          · rw [if_neg c25] at H
                            have c25b0 : (!((((rd_T37 t302 x7_1).f0.f0).toList) == (((rd_T31 t296 x7_1).f0).toList)) || (!((((rd_T37 t302 x7_1).f0.f1).toList) == (((rd_T31 t296 x7_1).f1).toList)))) = false := by simpa using c25
                            clear c25
                            by_cases c26 : (((rd_T37 t302 x7_1).f2) != x8_2) = true
                            · rw [if_pos c26] at H
                              have c26b0 : (((rd_T37 t302 x7_1).f2) != x8_2) = true := c26
                              (try (have c26b1 : decide (((rd_T37 t302 x7_1).f2) = x8_2) = false := by simpa using c26))
                              (try (have c26b2 : (((rd_T37 t302 x7_1).f2) == x8_2) = false := by simpa using c26))
                              (try (have c26b3 : ¬ (((rd_T37 t302 x7_1).f2) = x8_2) := by simpa using c26))
                              clear c26
                              have H' := Aside0.mk H
                              clear H
                              have p311 : 0 ≤ (x7_1 : Int) := of_decide_eq_true (by first | (with_reducible assumption) | assumption)
                              have q311 : x7_1 < (t302.length : Int) := of_decide_eq_true (by first | (with_reducible assumption) | assumption)
                              obtain ⟨ad311, A311_2, c311_2, e311, hx311_0, hx311_1, hx311_2, hx311_3, hl311_2, hi311_2⟩ := at_T37 (Kd.S_reads' HO_5.out).2.2 x7_1 p311 q311
                              cases e311
                              obtain ⟨ce311, hce311, hMe311, hcc311⟩ := Kd.S_get HO_5.out z37 x7_1 p311 (by first | exact q311 | exact of_decide_eq_true (by first | (with_reducible assumption) | assumption) | (have e_ := (Kd.S_reads' HO_5.out).1; omega))
                              obtain ⟨ve311_2, rfl, ge311_2⟩ := k37_openM hMe311
                              have hv311_2 := hcc311 2 _ rfl
                              rw [add_field _ _ 2 (by omega)] at hv311_2
                              replace hv311_2 := Option.some.inj (hv311_2.symm.trans hx311_2)
                              rw [hv311_2] at ge311_2
                              have HL311_2 := Aside0.mk (show Kd.R k31 31 _ _ _ _ ((rd_T37 t302 x7_1).f1) from ge311_2)
                              clear hv311_2 ge311_2
                              clear hcc311 hce311
                              have HR311_2 := Aside0.mk hi311_2
                              have HC311_2 := Aside0.mk hl311_2
                              clear hi311_2 hl311_2
                              replace p311 := eq_true p311
                              replace q311 := eq_true q311
                              have p312 : 0 ≤ (x7_1 : Int) := of_decide_eq_true (by first | (with_reducible assumption) | assumption)
                              have q312 : x7_1 < (t296.length : Int) := of_decide_eq_true (by first | (with_reducible assumption) | assumption)
                              obtain ⟨ad312, e312, hx312_0, hx312_1⟩ := at_T31 (Kd.R_reads' HO_0.out).2.2 x7_1 p312 q312
                              cases e312
                              replace p312 := eq_true p312
                              replace q312 := eq_true q312
                              have p313 : 0 ≤ (x7_1 : Int) := of_decide_eq_true (by first | (with_reducible assumption) | assumption)
                              have q313 : x7_1 < (t302.length : Int) := of_decide_eq_true (by first | (with_reducible assumption) | assumption)
                              obtain ⟨ad313, A313_2, c313_2, e313, hx313_0, hx313_1, hx313_2, hx313_3, hl313_2, hi313_2⟩ := at_T37 (Kd.S_reads' HO_5.out).2.2 x7_1 p313 q313
                              obtain rfl : ad311 = ad313 := (by injection e313)
                              obtain ⟨ce313, hce313, hMe313, hcc313⟩ := Kd.S_get HO_5.out z37 x7_1 p313 (by first | exact q313 | exact of_decide_eq_true (by first | (with_reducible assumption) | assumption) | (have e_ := (Kd.S_reads' HO_5.out).1; omega))
                              obtain ⟨ve313_2, rfl, ge313_2⟩ := k37_openM hMe313
                              have hv313_2 := hcc313 2 _ rfl
                              rw [add_field _ _ 2 (by omega)] at hv313_2
                              replace hv313_2 := Option.some.inj (hv313_2.symm.trans hx313_2)
                              rw [hv313_2] at ge313_2
                              have HL313_2 := Aside0.mk (show Kd.R k31 31 _ _ _ _ ((rd_T37 t302 x7_1).f1) from ge313_2)
                              clear hv313_2 ge313_2
                              clear hcc313 hce313
                              have HR313_2 := Aside0.mk hi313_2
                              have HC313_2 := Aside0.mk hl313_2
                              clear hi313_2 hl313_2
                              replace p313 := eq_true p313
                              replace q313 := eq_true q313
                              have ea_ := Option.some.inj (hx311_2.symm.trans hx313_2)
                              injection ea_ with ea_ en_ ec_
                              subst ea_
                              subst ec_
                              clear en_
                              go_wp2
                              repeat (go_quiet (fail); try go_wp2)
                              go_meet
                              case rel => exact ⟨_, (true), (by first | rfl | (simp; done) | (simp [*]; done)), H', ⟨by have := HK1.out; have := HK2.out; first | omega | exact Nat.le_refl _⟩, ⟨by (with_reducible repeat (first | apply Kd.R_alloc | apply Kd.R_drewN | apply Kd.R_drew)); exact HO_0.out⟩, ⟨by (with_reducible repeat (first | apply Kd.R_alloc | apply Kd.R_drewN | apply Kd.R_drew)); exact HO_1.out⟩, ⟨by (with_reducible repeat (first | apply Kd.S_alloc | apply Kd.S_drewN | apply Kd.S_drew)); exact HO_5.out⟩, ⟨by repeat (first | (with_reducible first | exact HB.out | apply below_alloc | apply pw_below_drewN | apply below_drew1) | exact HB.out)⟩⟩
                            · rw [if_neg c26] at H
                              have c26b0 : (((rd_T37 t302 x7_1).f2) != x8_2) = false := by simpa using c26
                              (try (have c26b1 : decide (((rd_T37 t302 x7_1).f2) = x8_2) = true := by simpa using c26))
                              (try (have c26b2 : (((rd_T37 t302 x7_1).f2) == x8_2) = true := by simpa using c26))
                              clear c26
                              have H' := Aside0.mk H
                              clear H
                              have p311 : 0 ≤ (x7_1 : Int) := of_decide_eq_true (by first | (with_reducible assumption) | assumption)
                              have q311 : x7_1 < (t302.length : Int) := of_decide_eq_true (by first | (with_reducible assumption) | assumption)
                              obtain ⟨ad311, A311_2, c311_2, e311, hx311_0, hx311_1, hx311_2, hx311_3, hl311_2, hi311_2⟩ := at_T37 (Kd.S_reads' HO_5.out).2.2 x7_1 p311 q311
                              cases e311
                              obtain ⟨ce311, hce311, hMe311, hcc311⟩ := Kd.S_get HO_5.out z37 x7_1 p311 (by first | exact q311 | exact of_decide_eq_true (by first | (with_reducible assumption) | assumption) | (have e_ := (Kd.S_reads' HO_5.out).1; omega))
                              obtain ⟨ve311_2, rfl, ge311_2⟩ := k37_openM hMe311
                              have hv311_2 := hcc311 2 _ rfl
                              rw [add_field _ _ 2 (by omega)] at hv311_2
                              replace hv311_2 := Option.some.inj (hv311_2.symm.trans hx311_2)
                              rw [hv311_2] at ge311_2
                              have HL311_2 := Aside0.mk (show Kd.R k31 31 _ _ _ _ ((rd_T37 t302 x7_1).f1) from ge311_2)
                              clear hv311_2 ge311_2
                              clear hcc311 hce311
                              have HR311_2 := Aside0.mk hi311_2
                              have HC311_2 := Aside0.mk hl311_2
                              clear hi311_2 hl311_2
                              replace p311 := eq_true p311
                              replace q311 := eq_true q311
                              have p312 : 0 ≤ (x7_1 : Int) := of_decide_eq_true (by first | (with_reducible assumption) | assumption)
                              have q312 : x7_1 < (t296.length : Int) := of_decide_eq_true (by first | (with_reducible assumption) | assumption)
                              obtain ⟨ad312, e312, hx312_0, hx312_1⟩ := at_T31 (Kd.R_reads' HO_0.out).2.2 x7_1 p312 q312
                              cases e312
                              replace p312 := eq_true p312
                              replace q312 := eq_true q312
                              have p313 : 0 ≤ (x7_1 : Int) := of_decide_eq_true (by first | (with_reducible assumption) | assumption)
                              have q313 : x7_1 < (t302.length : Int) := of_decide_eq_true (by first | (with_reducible assumption) | assumption)
                              obtain ⟨ad313, A313_2, c313_2, e313, hx313_0, hx313_1, hx313_2, hx313_3, hl313_2, hi313_2⟩ := at_T37 (Kd.S_reads' HO_5.out).2.2 x7_1 p313 q313
                              obtain rfl : ad311 = ad313 := (by injection e313)
                              obtain ⟨ce313, hce313, hMe313, hcc313⟩ := Kd.S_get HO_5.out z37 x7_1 p313 (by first | exact q313 | exact of_decide_eq_true (by first | (with_reducible assumption) | assumption) | (have e_ := (Kd.S_reads' HO_5.out).1; omega))
                              obtain ⟨ve313_2, rfl, ge313_2⟩ := k37_openM hMe313
                              have hv313_2 := hcc313 2 _ rfl
                              rw [add_field _ _ 2 (by omega)] at hv313_2
                              replace hv313_2 := Option.some.inj (hv313_2.symm.trans hx313_2)
                              rw [hv313_2] at ge313_2
                              have HL313_2 := Aside0.mk (show Kd.R k31 31 _ _ _ _ ((rd_T37 t302 x7_1).f1) from ge313_2)
                              clear hv313_2 ge313_2
                              clear hcc313 hce313
                              have HR313_2 := Aside0.mk hi313_2
                              have HC313_2 := Aside0.mk hl313_2
                              clear hi313_2 hl313_2
                              replace p313 := eq_true p313
                              replace q313 := eq_true q313
                              have ea_ := Option.some.inj (hx311_2.symm.trans hx313_2)
                              injection ea_ with ea_ en_ ec_
                              subst ea_
                              subst ec_
                              clear en_
                              have p314 : 0 ≤ (x7_1 : Int) := of_decide_eq_true (by first | (with_reducible assumption) | assumption)
                              have q314 : x7_1 < (t302.length : Int) := of_decide_eq_true (by first | (with_reducible assumption) | assumption)
                              obtain ⟨ad314, A314_2, c314_2, e314, hx314_0, hx314_1, hx314_2, hx314_3, hl314_2, hi314_2⟩ := at_T37 (Kd.S_reads' HO_5.out).2.2 x7_1 p314 q314
                              obtain rfl : ad311 = ad314 := (by injection e314)
                              obtain ⟨ce314, hce314, hMe314, hcc314⟩ := Kd.S_get HO_5.out z37 x7_1 p314 (by first | exact q314 | exact of_decide_eq_true (by first | (with_reducible assumption) | assumption) | (have e_ := (Kd.S_reads' HO_5.out).1; omega))
                              obtain ⟨ve314_2, rfl, ge314_2⟩ := k37_openM hMe314
                              have hv314_2 := hcc314 2 _ rfl
                              rw [add_field _ _ 2 (by omega)] at hv314_2
                              replace hv314_2 := Option.some.inj (hv314_2.symm.trans hx314_2)
                              rw [hv314_2] at ge314_2
                              have HL314_2 := Aside0.mk (show Kd.R k31 31 _ _ _ _ ((rd_T37 t302 x7_1).f1) from ge314_2)
                              clear hv314_2 ge314_2
                              clear hcc314 hce314
                              have HR314_2 := Aside0.mk hi314_2
                              have HC314_2 := Aside0.mk hl314_2
                              clear hi314_2 hl314_2
                              replace p314 := eq_true p314
                              replace q314 := eq_true q314
                              have ea_ := Option.some.inj (hx311_2.symm.trans hx314_2)
                              injection ea_ with ea_ en_ ec_
                              subst ea_
                              subst ec_
                              clear en_
                              go_wp2
                              repeat (go_quiet (fail); try go_wp2)
                              go_meet
                              case rel => exact ⟨_, (decide ((((rd_T37 t302 x7_1).f1).length : Int) > x9_2)), (by first | rfl | (simp; done) | (simp [*]; done)), H', ⟨by have := HK1.out; have := HK2.out; first | omega | exact Nat.le_refl _⟩, ⟨by (with_reducible repeat (first | apply Kd.R_alloc | apply Kd.R_drewN | apply Kd.R_drew)); exact HO_0.out⟩, ⟨by (with_reducible repeat (first | apply Kd.R_alloc | apply Kd.R_drewN | apply Kd.R_drew)); exact HO_1.out⟩, ⟨by (with_reducible repeat (first | apply Kd.S_alloc | apply Kd.S_drewN | apply Kd.S_drew)); exact HO_5.out⟩, ⟨by repeat (first | (with_reducible first | exact HB.out | apply below_alloc | apply pw_below_drewN | apply below_drew1) | exact HB.out)⟩⟩
                        · rw [if_neg c24] at H
                          exact absurd H (by simp)
                      · rw [if_neg c23] at H
                        exact absurd H (by simp)
                    · rw [if_neg c22] at H
                      exact absurd H (by simp)
                  case rest =>
                    clear HC21
                    try clear c1
                    try clear c2
                    try clear p2
                    try clear c3
                    try clear p3
                    try clear q3
                    try clear hx3
                    try clear c4
                    try clear c6
                    try clear c6b0
                    try clear c6b1
                    try clear p6
                    try clear c7
                    try clear c7b0
                    try clear c7b1
                    try clear c7b2
                    try clear c14
                    try clear c14b0
                    try clear c15
                    try clear c15b0
                    try clear c16
                    try clear c16b0
                    try clear c17
                    try clear c17b0
                    try clear c18
                    try clear c18b0
                    try clear c19
                    try clear c19b0
                    try clear c19b1
                    try clear c19b2
                    try clear c20
                    try clear c22
                    try clear c22b0
                    try clear c23
                    try clear c23b0
                    try clear c24
                    try clear c24b0
                    try clear c25
                    try clear c25b0
                    try clear c26
                    try clear c26b0
                    try clear c26b1
                    try clear c26b2
                    try clear hx308_0
                    try clear hx308_1
                    try clear hx308_2
                    try clear hx308_3
                    try clear hx309_0
                    try clear hx309_1
                    try clear hx309_2
                    try clear hx309_3
                    try clear hx310_0
                    try clear hx310_1
                    try clear hx310_2
                    try clear hx310_3
                    try clear hx311_0
                    try clear hx311_1
                    try clear hx311_2
                    try clear hx311_3
                    try clear hx312_0
                    try clear hx312_1
                    try clear hx313_0
                    try clear hx313_1
                    try clear hx313_2
                    try clear hx313_3
                    try clear hx314_0
                    try clear hx314_1
                    try clear hx314_2
                    try clear hx314_3
                    try clear p2
                    try clear p308
                    try clear p309
                    try clear p310
                    try clear p311
                    try clear p312
                    try clear p313
                    try clear p314
                    try clear q308
                    try clear q309
                    try clear q310
                    try clear q311
                    try clear q312
                    try clear q313
                    try clear q314
                    obtain ⟨kq, x98_20, rfl, HA, HJ20, HO_0, HO_1, HO_5, HB⟩ := hcut
                    cases kq with
                    | zero => exact absurd HA.out (by simp [graftwoodlaw18_LackRoots.j2])
                    | succ kj20 =>
                      have H := HA.out
                      clear HA
                      simp only [graftwoodlaw18_LackRoots.j2] at H
                      by_cases c27 : x98_20 = true
                      · subst c27
                        have H1 : (some false) = some r := by rw [if_pos rfl] at H; exact H
                        clear H
                        have H := H1
                        clear H1
                        exact absurd ((Option.some.inj H).trans HR_.out) (by decide)
                      · replace c27 := Bool.eq_false_iff.mpr c27
                        subst c27
                        have H1 : (graftwoodlaw18_LackRoots.l2 kj20 t296 t299 t302 x7_1 0) = some r := by rw [if_neg (show ¬ (false = true) by decide)] at H; exact H
                        clear H
                        have H := H1
                        clear H1
                        have H' := Aside0.mk H
                        clear H
                        go_wp2
                        repeat (go_quiet (fail); try go_wp2)
                        go_loopg [11] kj20 (fun kq v11 w' => ∃ (x11_4 : Int), v11 = .int .i64 x11_4 ∧ Aside0 (graftwoodlaw18_LackRoots.l2 kq t296 t299 t302 x7_1 x11_4 = some r) ∧ Aside0 (kq ≤ kj20) ∧ Aside0 (Kd.R k31 31 w' w.heap.size (fun _ => True) (.slice Ao10 t296.length co10) t296) ∧ Aside0 (Kd.R k33 33 w' w.heap.size (fun _ => True) (.slice Ao11 t299.length co11) t299) ∧ Aside0 (Kd.S k37 37 w' w.heap.size (fun k_ => some k_ ≠ ((.slice Ao10 t296.length co10) : Value).ownBlock) (.slice Ao13 t302.length co13) t302) ∧ Aside0 (Below w.heap.size w w'))
                        case atStart => exact ⟨(0), (by first | rfl | (simp; done) | (simp [*]; done)), H', ⟨Nat.le_refl _⟩, ⟨by (with_reducible repeat (first | apply Kd.R_alloc | apply Kd.R_drewN | apply Kd.R_drew)); exact HO_0.out⟩, ⟨by (with_reducible repeat (first | apply Kd.R_alloc | apply Kd.R_drewN | apply Kd.R_drew)); exact HO_1.out⟩, ⟨by (with_reducible repeat (first | apply Kd.S_alloc | apply Kd.S_drewN | apply Kd.S_drew)); exact HO_5.out⟩, ⟨by repeat (first | (with_reducible first | exact HB.out | apply below_alloc | apply pw_below_drewN | apply below_drew1) | exact HB.out)⟩⟩
                        case round =>
                          clear H'
                          try clear c1
                          try clear c2
                          try clear p2
                          try clear c3
                          try clear p3
                          try clear q3
                          try clear hx3
                          try clear c4
                          try clear c6
                          try clear c6b0
                          try clear c6b1
                          try clear p6
                          try clear c7
                          try clear c7b0
                          try clear c7b1
                          try clear c7b2
                          try clear c14
                          try clear c14b0
                          try clear c15
                          try clear c15b0
                          try clear c16
                          try clear c16b0
                          try clear c17
                          try clear c17b0
                          try clear c18
                          try clear c18b0
                          try clear c19
                          try clear c19b0
                          try clear c19b1
                          try clear c19b2
                          try clear c20
                          try clear c22
                          try clear c22b0
                          try clear c23
                          try clear c23b0
                          try clear c24
                          try clear c24b0
                          try clear c25
                          try clear c25b0
                          try clear c26
                          try clear c26b0
                          try clear c26b1
                          try clear c26b2
                          try clear c27
                          try clear hx308_0
                          try clear hx308_1
                          try clear hx308_2
                          try clear hx308_3
                          try clear hx309_0
                          try clear hx309_1
                          try clear hx309_2
                          try clear hx309_3
                          try clear hx310_0
                          try clear hx310_1
                          try clear hx310_2
                          try clear hx310_3
                          try clear hx311_0
                          try clear hx311_1
                          try clear hx311_2
                          try clear hx311_3
                          try clear hx312_0
                          try clear hx312_1
                          try clear hx313_0
                          try clear hx313_1
                          try clear hx313_2
                          try clear hx313_3
                          try clear hx314_0
                          try clear hx314_1
                          try clear hx314_2
                          try clear hx314_3
                          try clear p2
                          try clear p3
                          try clear p308
                          try clear p309
                          try clear p310
                          try clear p311
                          try clear p312
                          try clear p313
                          try clear p314
                          try clear p6
                          try clear q3
                          try clear q308
                          try clear q309
                          try clear q310
                          try clear q311
                          try clear q312
                          try clear q313
                          try clear q314
                          obtain ⟨x11_4, rfl, HA, HK4, HO_0, HO_1, HO_5, HB⟩ := hrel
                          cases gk with
                          | zero => exact absurd HA.out (by simp [graftwoodlaw18_LackRoots.l2])
                          | succ k4 =>
                            have H := HA.out
                            clear HA
                            simp only [graftwoodlaw18_LackRoots.l2] at H
                            by_cases c28 : 0 ≤ x7_1
                            · rw [if_pos c28] at H
                              have c28b0 : decide (0 ≤ x7_1) = true := decide_eq_true c28
                              clear c28
                              by_cases c29 : x7_1 < (t302.length : Int)
                              · rw [if_pos c29] at H
                                have c29b0 : decide (x7_1 < (t302.length : Int)) = true := decide_eq_true c29
                                clear c29
                                by_cases c30 : x11_4 < (((rd_T37 t302 x7_1).f1).length : Int)
                                · rw [if_pos c30] at H
                                  have c30b0 : decide (x11_4 < (((rd_T37 t302 x7_1).f1).length : Int)) = true := decide_eq_true c30
                                  clear c30
                                  by_cases c31 : 0 ≤ x11_4
                                  · rw [if_pos c31] at H
                                    have c31b0 : decide (0 ≤ x11_4) = true := decide_eq_true c31
                                    clear c31
                                    replace H := Option.bind_eq_some_iff.mp H
                                    obtain ⟨t318, A320, H⟩ := H
                                    replace H : (if t318 = true then (graftwoodlaw18_LackRoots.l2 k4 t296 t299 t302 x7_1 (wrap64 (x11_4 + 1))) else (some false)) = some r := H
                                    have A32 := Aside0.mk A320
                                    clear A320
                                    by_cases c33 : t318 = true
                                    · subst c33
                                      have H1 : (graftwoodlaw18_LackRoots.l2 k4 t296 t299 t302 x7_1 (wrap64 (x11_4 + 1))) = some r := by rw [if_pos rfl] at H; exact H
                                      clear H
                                      have H := H1
                                      clear H1
                                      have H' := Aside0.mk H
                                      clear H
                                      have p315 : 0 ≤ (x7_1 : Int) := of_decide_eq_true (by first | (with_reducible assumption) | assumption)
                                      have q315 : x7_1 < (t302.length : Int) := of_decide_eq_true (by first | (with_reducible assumption) | assumption)
                                      obtain ⟨ad315, A315_2, c315_2, e315, hx315_0, hx315_1, hx315_2, hx315_3, hl315_2, hi315_2⟩ := at_T37 (Kd.S_reads' HO_5.out).2.2 x7_1 p315 q315
                                      cases e315
                                      obtain ⟨ce315, hce315, hMe315, hcc315⟩ := Kd.S_get HO_5.out z37 x7_1 p315 (by first | exact q315 | exact of_decide_eq_true (by first | (with_reducible assumption) | assumption) | (have e_ := (Kd.S_reads' HO_5.out).1; omega))
                                      obtain ⟨ve315_2, rfl, ge315_2⟩ := k37_openM hMe315
                                      have hv315_2 := hcc315 2 _ rfl
                                      rw [add_field _ _ 2 (by omega)] at hv315_2
                                      replace hv315_2 := Option.some.inj (hv315_2.symm.trans hx315_2)
                                      rw [hv315_2] at ge315_2
                                      have HL315_2 := Aside0.mk (show Kd.R k31 31 _ _ _ _ ((rd_T37 t302 x7_1).f1) from ge315_2)
                                      clear hv315_2 ge315_2
                                      clear hcc315 hce315
                                      have HR315_2 := Aside0.mk hi315_2
                                      have HC315_2 := Aside0.mk hl315_2
                                      clear hi315_2 hl315_2
                                      replace p315 := eq_true p315
                                      replace q315 := eq_true q315
                                      have p316 : 0 ≤ (x7_1 : Int) := of_decide_eq_true (by first | (with_reducible assumption) | assumption)
                                      have q316 : x7_1 < (t302.length : Int) := of_decide_eq_true (by first | (with_reducible assumption) | assumption)
                                      obtain ⟨ad316, A316_2, c316_2, e316, hx316_0, hx316_1, hx316_2, hx316_3, hl316_2, hi316_2⟩ := at_T37 (Kd.S_reads' HO_5.out).2.2 x7_1 p316 q316
                                      obtain rfl : ad315 = ad316 := (by injection e316)
                                      obtain ⟨ce316, hce316, hMe316, hcc316⟩ := Kd.S_get HO_5.out z37 x7_1 p316 (by first | exact q316 | exact of_decide_eq_true (by first | (with_reducible assumption) | assumption) | (have e_ := (Kd.S_reads' HO_5.out).1; omega))
                                      obtain ⟨ve316_2, rfl, ge316_2⟩ := k37_openM hMe316
                                      have hv316_2 := hcc316 2 _ rfl
                                      rw [add_field _ _ 2 (by omega)] at hv316_2
                                      replace hv316_2 := Option.some.inj (hv316_2.symm.trans hx316_2)
                                      rw [hv316_2] at ge316_2
                                      have HL316_2 := Aside0.mk (show Kd.R k31 31 _ _ _ _ ((rd_T37 t302 x7_1).f1) from ge316_2)
                                      clear hv316_2 ge316_2
                                      clear hcc316 hce316
                                      have HR316_2 := Aside0.mk hi316_2
                                      have HC316_2 := Aside0.mk hl316_2
                                      clear hi316_2 hl316_2
                                      replace p316 := eq_true p316
                                      replace q316 := eq_true q316
                                      have ea_ := Option.some.inj (hx315_2.symm.trans hx316_2)
                                      injection ea_ with ea_ en_ ec_
                                      subst ea_
                                      subst ec_
                                      clear en_
                                      have p317 : 0 ≤ (x11_4 : Int) := of_decide_eq_true (by first | (with_reducible assumption) | assumption)
                                      have q317 : x11_4 < (((rd_T37 t302 x7_1).f1).length : Int) := of_decide_eq_true (by first | (with_reducible assumption) | assumption)
                                      obtain ⟨ad317, e317, hx317_0, hx317_1⟩ := at_T31 (by repeat (first | (with_reducible exact HR316_2.out) | (with_reducible refine Kd.C_alloc ?_ _) | (with_reducible refine Kd.C_drewN ?_ _) | (with_reducible refine Kd.C_drew ?_) | exact HR316_2.out)) x11_4 p317 q317
                                      cases e317
                                      replace p317 := eq_true p317
                                      replace q317 := eq_true q317
                                      go_wp2_with (first | (go_at_call 12; (with_reducible refine (graftwoodref05_Has.calls k4 _ _ t296 ((rd_T31 ((rd_T37 t302 x7_1).f1) x11_4).f0) ((rd_T31 ((rd_T37 t302 x7_1).f1) x11_4).f1) true _ ?side1 ?side2 A32.out).mono ?_); (case side1 => repeat (first | exact (Kd.R_reads' HO_0.out).2.2 | (with_reducible refine Kd.C_alloc ?_ _) | (with_reducible refine Kd.C_drewN ?_ _) | (with_reducible refine Kd.C_drew ?_))); (case side2 => exact (Kd.R_reads' HO_0.out).2.1); rintro e w34 ⟨rfl, hb⟩; have n0_ := Aside0.mk (Kd.R_below (by (with_reducible repeat (first | apply Kd.R_alloc | apply Kd.R_drewN | apply Kd.R_drew)); exact HO_0.out) hb); have n1_ := Aside0.mk (Kd.R_below (by (with_reducible repeat (first | apply Kd.R_alloc | apply Kd.R_drewN | apply Kd.R_drew)); exact HO_1.out) hb); have n2_ := Aside0.mk (Kd.S_below (by (with_reducible repeat (first | apply Kd.S_alloc | apply Kd.S_drewN | apply Kd.S_drew)); exact HO_5.out) hb); have n3_ := Aside0.mk (Kd.R_below (by (with_reducible repeat (first | apply Kd.R_alloc | apply Kd.R_drewN | apply Kd.R_drew)); exact HL315_2.out) hb); have n4_ := Aside0.mk (Kd.R_below (by (with_reducible repeat (first | apply Kd.R_alloc | apply Kd.R_drewN | apply Kd.R_drew)); exact HL316_2.out) hb); have n5_ := Aside0.mk (Kd.C_below (by repeat (first | (with_reducible exact HR315_2.out) | (with_reducible refine Kd.C_alloc ?_ _) | (with_reducible refine Kd.C_drewN ?_ _) | (with_reducible refine Kd.C_drew ?_) | exact HR315_2.out)) hb); have n6_ := Aside0.mk (Kd.C_below (by repeat (first | (with_reducible exact HR316_2.out) | (with_reducible refine Kd.C_alloc ?_ _) | (with_reducible refine Kd.C_drewN ?_ _) | (with_reducible refine Kd.C_drew ?_) | exact HR316_2.out)) hb); have n7_ := Aside0.mk (below_step (by repeat (first | (with_reducible first | exact HB.out | apply below_alloc | apply pw_below_drewN | apply below_drew1) | exact HB.out)) hb); clear HO_0; clear HO_1; clear HO_5; clear HL315_2; clear HL316_2; clear HR315_2; clear HR316_2; clear HB; have HO_0 := n0_; have HO_1 := n1_; have HO_5 := n2_; have HL315_2 := n3_; have HL316_2 := n4_; have HR315_2 := n5_; have HR316_2 := n6_; have HB := n7_; clear n0_ n1_ n2_ n3_ n4_ n5_ n6_ n7_; (try clear hb); (try clear hb2); (try clear hk); (try clear hi)))
                                      repeat (go_quiet (first | (go_at_call 12; (with_reducible refine (graftwoodref05_Has.calls k4 _ _ t296 ((rd_T31 ((rd_T37 t302 x7_1).f1) x11_4).f0) ((rd_T31 ((rd_T37 t302 x7_1).f1) x11_4).f1) true _ ?side1 ?side2 A32.out).mono ?_); (case side1 => repeat (first | exact (Kd.R_reads' HO_0.out).2.2 | (with_reducible refine Kd.C_alloc ?_ _) | (with_reducible refine Kd.C_drewN ?_ _) | (with_reducible refine Kd.C_drew ?_))); (case side2 => exact (Kd.R_reads' HO_0.out).2.1); rintro e w34 ⟨rfl, hb⟩; have n0_ := Aside0.mk (Kd.R_below (by (with_reducible repeat (first | apply Kd.R_alloc | apply Kd.R_drewN | apply Kd.R_drew)); exact HO_0.out) hb); have n1_ := Aside0.mk (Kd.R_below (by (with_reducible repeat (first | apply Kd.R_alloc | apply Kd.R_drewN | apply Kd.R_drew)); exact HO_1.out) hb); have n2_ := Aside0.mk (Kd.S_below (by (with_reducible repeat (first | apply Kd.S_alloc | apply Kd.S_drewN | apply Kd.S_drew)); exact HO_5.out) hb); have n3_ := Aside0.mk (Kd.R_below (by (with_reducible repeat (first | apply Kd.R_alloc | apply Kd.R_drewN | apply Kd.R_drew)); exact HL315_2.out) hb); have n4_ := Aside0.mk (Kd.R_below (by (with_reducible repeat (first | apply Kd.R_alloc | apply Kd.R_drewN | apply Kd.R_drew)); exact HL316_2.out) hb); have n5_ := Aside0.mk (Kd.C_below (by repeat (first | (with_reducible exact HR315_2.out) | (with_reducible refine Kd.C_alloc ?_ _) | (with_reducible refine Kd.C_drewN ?_ _) | (with_reducible refine Kd.C_drew ?_) | exact HR315_2.out)) hb); have n6_ := Aside0.mk (Kd.C_below (by repeat (first | (with_reducible exact HR316_2.out) | (with_reducible refine Kd.C_alloc ?_ _) | (with_reducible refine Kd.C_drewN ?_ _) | (with_reducible refine Kd.C_drew ?_) | exact HR316_2.out)) hb); have n7_ := Aside0.mk (below_step (by repeat (first | (with_reducible first | exact HB.out | apply below_alloc | apply pw_below_drewN | apply below_drew1) | exact HB.out)) hb); clear HO_0; clear HO_1; clear HO_5; clear HL315_2; clear HL316_2; clear HR315_2; clear HR316_2; clear HB; have HO_0 := n0_; have HO_1 := n1_; have HO_5 := n2_; have HL315_2 := n3_; have HL316_2 := n4_; have HR315_2 := n5_; have HR316_2 := n6_; have HB := n7_; clear n0_ n1_ n2_ n3_ n4_ n5_ n6_ n7_; (try clear hb); (try clear hb2); (try clear hk); (try clear hi))); try go_wp2_with (first | (go_at_call 12; (with_reducible refine (graftwoodref05_Has.calls k4 _ _ t296 ((rd_T31 ((rd_T37 t302 x7_1).f1) x11_4).f0) ((rd_T31 ((rd_T37 t302 x7_1).f1) x11_4).f1) true _ ?side1 ?side2 A32.out).mono ?_); (case side1 => repeat (first | exact (Kd.R_reads' HO_0.out).2.2 | (with_reducible refine Kd.C_alloc ?_ _) | (with_reducible refine Kd.C_drewN ?_ _) | (with_reducible refine Kd.C_drew ?_))); (case side2 => exact (Kd.R_reads' HO_0.out).2.1); rintro e w34 ⟨rfl, hb⟩; have n0_ := Aside0.mk (Kd.R_below (by (with_reducible repeat (first | apply Kd.R_alloc | apply Kd.R_drewN | apply Kd.R_drew)); exact HO_0.out) hb); have n1_ := Aside0.mk (Kd.R_below (by (with_reducible repeat (first | apply Kd.R_alloc | apply Kd.R_drewN | apply Kd.R_drew)); exact HO_1.out) hb); have n2_ := Aside0.mk (Kd.S_below (by (with_reducible repeat (first | apply Kd.S_alloc | apply Kd.S_drewN | apply Kd.S_drew)); exact HO_5.out) hb); have n3_ := Aside0.mk (Kd.R_below (by (with_reducible repeat (first | apply Kd.R_alloc | apply Kd.R_drewN | apply Kd.R_drew)); exact HL315_2.out) hb); have n4_ := Aside0.mk (Kd.R_below (by (with_reducible repeat (first | apply Kd.R_alloc | apply Kd.R_drewN | apply Kd.R_drew)); exact HL316_2.out) hb); have n5_ := Aside0.mk (Kd.C_below (by repeat (first | (with_reducible exact HR315_2.out) | (with_reducible refine Kd.C_alloc ?_ _) | (with_reducible refine Kd.C_drewN ?_ _) | (with_reducible refine Kd.C_drew ?_) | exact HR315_2.out)) hb); have n6_ := Aside0.mk (Kd.C_below (by repeat (first | (with_reducible exact HR316_2.out) | (with_reducible refine Kd.C_alloc ?_ _) | (with_reducible refine Kd.C_drewN ?_ _) | (with_reducible refine Kd.C_drew ?_) | exact HR316_2.out)) hb); have n7_ := Aside0.mk (below_step (by repeat (first | (with_reducible first | exact HB.out | apply below_alloc | apply pw_below_drewN | apply below_drew1) | exact HB.out)) hb); clear HO_0; clear HO_1; clear HO_5; clear HL315_2; clear HL316_2; clear HR315_2; clear HR316_2; clear HB; have HO_0 := n0_; have HO_1 := n1_; have HO_5 := n2_; have HL315_2 := n3_; have HL316_2 := n4_; have HR315_2 := n5_; have HR316_2 := n6_; have HB := n7_; clear n0_ n1_ n2_ n3_ n4_ n5_ n6_ n7_; (try clear hb); (try clear hb2); (try clear hk); (try clear hi))))
                                      go_roundg k4
                                      case measure => have := HK1.out; have := HK2.out; have := HJ20.out; have := HK4.out; omega
                                      case rel => exact ⟨(wrap64 (x11_4 + 1)), (by first | rfl | (simp; done) | (simp [*]; done)), H', ⟨by have := HK1.out; have := HK2.out; have := HJ20.out; have := HK4.out; omega⟩, ⟨by (with_reducible repeat (first | apply Kd.R_alloc | apply Kd.R_drewN | apply Kd.R_drew)); exact HO_0.out⟩, ⟨by (with_reducible repeat (first | apply Kd.R_alloc | apply Kd.R_drewN | apply Kd.R_drew)); exact HO_1.out⟩, ⟨by (with_reducible repeat (first | apply Kd.S_alloc | apply Kd.S_drewN | apply Kd.S_drew)); exact HO_5.out⟩, ⟨by repeat (first | (with_reducible first | exact HB.out | apply below_alloc | apply pw_below_drewN | apply below_drew1) | exact HB.out)⟩⟩
                                    · replace c33 := Bool.eq_false_iff.mpr c33
                                      subst c33
                                      have H1 : (some false) = some r := by rw [if_neg (show ¬ (false = true) by decide)] at H; exact H
                                      clear H
                                      have H := H1
                                      clear H1
                                      exact absurd ((Option.some.inj H).trans HR_.out) (by decide)
                                  · rw [if_neg c31] at H
                                    exact absurd H (by simp)
                                · rw [if_neg c30] at H
                                  have c30b0 : decide (x11_4 < (((rd_T37 t302 x7_1).f1).length : Int)) = false := decide_eq_false c30
                                  clear c30
                                  have H' := Aside0.mk H
                                  clear H
                                  have p315 : 0 ≤ (x7_1 : Int) := of_decide_eq_true (by first | (with_reducible assumption) | assumption)
                                  have q315 : x7_1 < (t302.length : Int) := of_decide_eq_true (by first | (with_reducible assumption) | assumption)
                                  obtain ⟨ad315, A315_2, c315_2, e315, hx315_0, hx315_1, hx315_2, hx315_3, hl315_2, hi315_2⟩ := at_T37 (Kd.S_reads' HO_5.out).2.2 x7_1 p315 q315
                                  cases e315
                                  obtain ⟨ce315, hce315, hMe315, hcc315⟩ := Kd.S_get HO_5.out z37 x7_1 p315 (by first | exact q315 | exact of_decide_eq_true (by first | (with_reducible assumption) | assumption) | (have e_ := (Kd.S_reads' HO_5.out).1; omega))
                                  obtain ⟨ve315_2, rfl, ge315_2⟩ := k37_openM hMe315
                                  have hv315_2 := hcc315 2 _ rfl
                                  rw [add_field _ _ 2 (by omega)] at hv315_2
                                  replace hv315_2 := Option.some.inj (hv315_2.symm.trans hx315_2)
                                  rw [hv315_2] at ge315_2
                                  have HL315_2 := Aside0.mk (show Kd.R k31 31 _ _ _ _ ((rd_T37 t302 x7_1).f1) from ge315_2)
                                  clear hv315_2 ge315_2
                                  clear hcc315 hce315
                                  have HR315_2 := Aside0.mk hi315_2
                                  have HC315_2 := Aside0.mk hl315_2
                                  clear hi315_2 hl315_2
                                  replace p315 := eq_true p315
                                  replace q315 := eq_true q315
                                  go_wp2
                                  repeat (go_quiet (fail); try go_wp2)
                                  go_roundg k4
                                  case measure => have := HK1.out; have := HK2.out; have := HJ20.out; have := HK4.out; omega
                                  case rel => exact ⟨(wrap64 (x7_1 + 1)), (by first | rfl | (simp; done) | (simp [*]; done)), H', ⟨by have := HK1.out; have := HK2.out; have := HJ20.out; have := HK4.out; omega⟩, ⟨by (with_reducible repeat (first | apply Kd.R_alloc | apply Kd.R_drewN | apply Kd.R_drew)); exact HO_0.out⟩, ⟨by (with_reducible repeat (first | apply Kd.R_alloc | apply Kd.R_drewN | apply Kd.R_drew)); exact HO_1.out⟩, ⟨by (with_reducible repeat (first | apply Kd.S_alloc | apply Kd.S_drewN | apply Kd.S_drew)); exact HO_5.out⟩, ⟨by repeat (first | (with_reducible first | exact HB.out | apply below_alloc | apply pw_below_drewN | apply below_drew1) | exact HB.out)⟩⟩
                              · rw [if_neg c29] at H
                                exact absurd H (by simp)
                            · rw [if_neg c28] at H
                              exact absurd H (by simp)
          · rw [if_neg c14] at H
            have c14b0 : decide (x7_1 < (t302.length : Int)) = false := decide_eq_false c14
            clear c14
            replace H := Option.bind_eq_some_iff.mp H
            obtain ⟨t307, A350, H⟩ := H
            replace H : (some t307) = some r := H
            have A35 := Aside0.mk A350
            clear A350
            obtain rfl := Option.some.inj H
            go_wp2_with (first | (go_at_call 9; (with_reducible refine (graftwoodlaw18_awake.calls  t307 _ A35.out HR_).mono ?_); rintro e w36 ⟨rfl, hb⟩; have n0_ := Aside0.mk (Kd.R_below (by (with_reducible repeat (first | apply Kd.R_alloc | apply Kd.R_drewN | apply Kd.R_drew)); exact HO_0.out) hb); have n1_ := Aside0.mk (Kd.R_below (by (with_reducible repeat (first | apply Kd.R_alloc | apply Kd.R_drewN | apply Kd.R_drew)); exact HO_1.out) hb); have n2_ := Aside0.mk (Kd.S_below (by (with_reducible repeat (first | apply Kd.S_alloc | apply Kd.S_drewN | apply Kd.S_drew)); exact HO_5.out) hb); have n3_ := Aside0.mk (below_step (by repeat (first | (with_reducible first | exact HB.out | apply below_alloc | apply pw_below_drewN | apply below_drew1) | exact HB.out)) hb); clear HO_0; clear HO_1; clear HO_5; clear HB; have HO_0 := n0_; have HO_1 := n1_; have HO_5 := n2_; have HB := n3_; clear n0_ n1_ n2_ n3_; (try clear hb); (try clear hb2); (try clear hk); (try clear hi)))
            repeat (go_quiet (first | (go_at_call 9; (with_reducible refine (graftwoodlaw18_awake.calls  t307 _ A35.out HR_).mono ?_); rintro e w36 ⟨rfl, hb⟩; have n0_ := Aside0.mk (Kd.R_below (by (with_reducible repeat (first | apply Kd.R_alloc | apply Kd.R_drewN | apply Kd.R_drew)); exact HO_0.out) hb); have n1_ := Aside0.mk (Kd.R_below (by (with_reducible repeat (first | apply Kd.R_alloc | apply Kd.R_drewN | apply Kd.R_drew)); exact HO_1.out) hb); have n2_ := Aside0.mk (Kd.S_below (by (with_reducible repeat (first | apply Kd.S_alloc | apply Kd.S_drewN | apply Kd.S_drew)); exact HO_5.out) hb); have n3_ := Aside0.mk (below_step (by repeat (first | (with_reducible first | exact HB.out | apply below_alloc | apply pw_below_drewN | apply below_drew1) | exact HB.out)) hb); clear HO_0; clear HO_1; clear HO_5; clear HB; have HO_0 := n0_; have HO_1 := n1_; have HO_5 := n2_; have HB := n3_; clear n0_ n1_ n2_ n3_; (try clear hb); (try clear hb2); (try clear hk); (try clear hi))); try go_wp2_with (first | (go_at_call 9; (with_reducible refine (graftwoodlaw18_awake.calls  t307 _ A35.out HR_).mono ?_); rintro e w36 ⟨rfl, hb⟩; have n0_ := Aside0.mk (Kd.R_below (by (with_reducible repeat (first | apply Kd.R_alloc | apply Kd.R_drewN | apply Kd.R_drew)); exact HO_0.out) hb); have n1_ := Aside0.mk (Kd.R_below (by (with_reducible repeat (first | apply Kd.R_alloc | apply Kd.R_drewN | apply Kd.R_drew)); exact HO_1.out) hb); have n2_ := Aside0.mk (Kd.S_below (by (with_reducible repeat (first | apply Kd.S_alloc | apply Kd.S_drewN | apply Kd.S_drew)); exact HO_5.out) hb); have n3_ := Aside0.mk (below_step (by repeat (first | (with_reducible first | exact HB.out | apply below_alloc | apply pw_below_drewN | apply below_drew1) | exact HB.out)) hb); clear HO_0; clear HO_1; clear HO_5; clear HB; have HO_0 := n0_; have HO_1 := n1_; have HO_5 := n2_; have HB := n3_; clear n0_ n1_ n2_ n3_; (try clear hb); (try clear hb2); (try clear hk); (try clear hi))))
            go_ret
            exact ⟨by first | rfl | (simp [errW_none, errW_some] <;> rfl) | (simp [*, errW_none, errW_some] <;> rfl), by repeat (first | (with_reducible first | exact HB.out | apply below_alloc | apply pw_below_drewN | apply below_drew1) | exact HB.out)⟩
    · rw [if_neg c7] at H
      have c7b0 : ((t302.length : Int) == (t296.length : Int)) = false := beq_eq_false_iff_ne.mpr c7
      have c7b1 : ((t302.length : Int) != (t296.length : Int)) = true := bne_iff_ne.mpr c7
      have c7b2 : (t302.length == t296.length) = false := by first | simpa using c7 | (simp at c7 ⊢; omega)
      exact absurd ((Option.some.inj H).trans HR_.out) (by decide)
  · rw [if_neg c6] at H
    have c6b0 : (t303 == 0) = false := beq_eq_false_iff_ne.mpr c6
    have c6b1 : (t303 != 0) = true := bne_iff_ne.mpr c6
    by_cases c37 : (t302.length : Int) = 0
    · rw [if_pos c37] at H
      have c37b0 : ((t302.length : Int) == 0) = true := beq_iff_eq.mpr c37
      have c37b1 : ((t302.length : Int) != 0) = false := bne_eq_false_iff_eq.mpr c37
      clear c37
      replace H := Option.bind_eq_some_iff.mp H
      obtain ⟨t306, A380, H⟩ := H
      replace H : (some t306) = some r := H
      have A38 := Aside0.mk A380
      clear A380
      obtain rfl := Option.some.inj H
      go_enter Tryd.func4, Tryd.ntmps4
      go_wp2_with (first | (go_at_call 6; (with_reducible refine (graftwoodlaw05_Few.calls k _ _ l0 t296 _ ?side1 ?side2 A3.out).mono ?_); (case side1 => repeat (first | exact HR0.out | (with_reducible refine Kd.C_alloc ?_ _) | (with_reducible refine Kd.C_drewN ?_ _) | (with_reducible refine Kd.C_drew ?_))); (case side2 => exact HC0.out); rintro e w39 ⟨v297, rfl, ho0, hb⟩; have n0_ := Aside0.mk (Kd.R_lower ho0 (below_size (by repeat (first | (with_reducible first | exact HB.out | apply below_alloc | apply pw_below_drewN | apply below_drew1) | exact HB.out)))); have n1_ := Aside0.mk (below_step (by repeat (first | (with_reducible first | exact HB.out | apply below_alloc | apply pw_below_drewN | apply below_drew1) | exact HB.out)) hb); clear HB; have HO298 := n0_; have HB := n1_; clear n0_ n1_; (try clear hb); (try clear hb2); (try clear hk); (try clear hi); (try clear ho0)) | (go_at_call 7; (with_reducible refine (graftwoodlaw18_Few.calls k _ _ l1 t299 _ ?side1 ?side2 A4.out).mono ?_); (case side1 => repeat (first | exact (Kd.C_below HR1.out HB.out) | (with_reducible refine Kd.C_alloc ?_ _) | (with_reducible refine Kd.C_drewN ?_ _) | (with_reducible refine Kd.C_drew ?_))); (case side2 => exact HC1.out); rintro e w40 ⟨v300, rfl, ho0, hb⟩; have n0_ := Aside0.mk (Kd.R_below (by (with_reducible repeat (first | apply Kd.R_alloc | apply Kd.R_drewN | apply Kd.R_drew)); exact HO298.out) hb); have n1_ := Aside0.mk (Kd.R_lower ho0 (below_size (by repeat (first | (with_reducible first | exact HB.out | apply below_alloc | apply pw_below_drewN | apply below_drew1) | exact HB.out)))); have n2_ := Aside0.mk (below_step (by repeat (first | (with_reducible first | exact HB.out | apply below_alloc | apply pw_below_drewN | apply below_drew1) | exact HB.out)) hb); clear HO298; clear HB; have HO298 := n0_; have HO301 := n1_; have HB := n2_; clear n0_ n1_ n2_; (try clear hb); (try clear hb2); (try clear hk); (try clear hi); (try clear ho0); obtain ⟨Ao41, co41, eo41⟩ := Kd.R_slice HO298.out; subst eo41; obtain ⟨Ao42, co42, eo42⟩ := Kd.R_slice HO301.out; subst eo42) | (go_at_call 8; (refine (lack_Of.calls _ _ t296 _ _ ([] : List (S31)) _ _ t299 t302 t303 _ ?side1 ?side2 ?side3 ?side4 ?side5 ?side6 A5.out).mono ?_); (case side1 => repeat (first | exact (Kd.R_reads' HO298.out).2.2 | (with_reducible refine Kd.C_alloc ?_ _) | (with_reducible refine Kd.C_drewN ?_ _) | (with_reducible refine Kd.C_drew ?_))); (case side2 => exact (Kd.R_reads' HO298.out).2.1); (case side3 => exact Kd.C_nil _ _); (case side4 => exact Nat.le_refl _); (case side5 => repeat (first | exact (Kd.R_reads' HO301.out).2.2 | (with_reducible refine Kd.C_alloc ?_ _) | (with_reducible refine Kd.C_drewN ?_ _) | (with_reducible refine Kd.C_drew ?_))); (case side6 => exact (Kd.R_reads' HO301.out).2.1); rintro e w43 ⟨v304, rfl, ho0, hb⟩; have n0_ := Aside0.mk (Kd.R_below (by (with_reducible repeat (first | apply Kd.R_alloc | apply Kd.R_drewN | apply Kd.R_drew)); exact HO298.out) hb); have n1_ := Aside0.mk (Kd.R_below (by (with_reducible repeat (first | apply Kd.R_alloc | apply Kd.R_drewN | apply Kd.R_drew)); exact HO301.out) hb); have n2_ := Aside0.mk (Kd.S_lower (Kd.S_new' ho0 (Kd.R_lt (by (with_reducible repeat (first | apply Kd.R_alloc | apply Kd.R_drewN | apply Kd.R_drew)); exact HO298.out))) (below_size (by repeat (first | (with_reducible first | exact HB.out | apply below_alloc | apply pw_below_drewN | apply below_drew1) | exact HB.out)))); have n3_ := Aside0.mk (below_step (by repeat (first | (with_reducible first | exact HB.out | apply below_alloc | apply pw_below_drewN | apply below_drew1) | exact HB.out)) hb); clear HO298; clear HO301; clear HB; have HO298 := n0_; have HO301 := n1_; have HO305 := n2_; have HB := n3_; clear n0_ n1_ n2_ n3_; (try clear hb); (try clear hb2); (try clear hk); (try clear hi); (try clear ho0); obtain ⟨Ao44, co44, eo44⟩ := Kd.S_slice HO305.out; subst eo44) | (go_at_call 9; (with_reducible refine (graftwoodlaw18_awake.calls  t306 _ A38.out HR_).mono ?_); rintro e w45 ⟨rfl, hb⟩; have n0_ := Aside0.mk (Kd.R_below (by (with_reducible repeat (first | apply Kd.R_alloc | apply Kd.R_drewN | apply Kd.R_drew)); exact HO298.out) hb); have n1_ := Aside0.mk (Kd.R_below (by (with_reducible repeat (first | apply Kd.R_alloc | apply Kd.R_drewN | apply Kd.R_drew)); exact HO301.out) hb); have n2_ := Aside0.mk (Kd.S_below (by (with_reducible repeat (first | apply Kd.S_alloc | apply Kd.S_drewN | apply Kd.S_drew)); exact HO305.out) hb); have n3_ := Aside0.mk (below_step (by repeat (first | (with_reducible first | exact HB.out | apply below_alloc | apply pw_below_drewN | apply below_drew1) | exact HB.out)) hb); clear HO298; clear HO301; clear HO305; clear HB; have HO298 := n0_; have HO301 := n1_; have HO305 := n2_; have HB := n3_; clear n0_ n1_ n2_ n3_; (try clear hb); (try clear hb2); (try clear hk); (try clear hi)))
      repeat (go_quiet (first | (go_at_call 6; (with_reducible refine (graftwoodlaw05_Few.calls k _ _ l0 t296 _ ?side1 ?side2 A3.out).mono ?_); (case side1 => repeat (first | exact HR0.out | (with_reducible refine Kd.C_alloc ?_ _) | (with_reducible refine Kd.C_drewN ?_ _) | (with_reducible refine Kd.C_drew ?_))); (case side2 => exact HC0.out); rintro e w39 ⟨v297, rfl, ho0, hb⟩; have n0_ := Aside0.mk (Kd.R_lower ho0 (below_size (by repeat (first | (with_reducible first | exact HB.out | apply below_alloc | apply pw_below_drewN | apply below_drew1) | exact HB.out)))); have n1_ := Aside0.mk (below_step (by repeat (first | (with_reducible first | exact HB.out | apply below_alloc | apply pw_below_drewN | apply below_drew1) | exact HB.out)) hb); clear HB; have HO298 := n0_; have HB := n1_; clear n0_ n1_; (try clear hb); (try clear hb2); (try clear hk); (try clear hi); (try clear ho0)) | (go_at_call 7; (with_reducible refine (graftwoodlaw18_Few.calls k _ _ l1 t299 _ ?side1 ?side2 A4.out).mono ?_); (case side1 => repeat (first | exact (Kd.C_below HR1.out HB.out) | (with_reducible refine Kd.C_alloc ?_ _) | (with_reducible refine Kd.C_drewN ?_ _) | (with_reducible refine Kd.C_drew ?_))); (case side2 => exact HC1.out); rintro e w40 ⟨v300, rfl, ho0, hb⟩; have n0_ := Aside0.mk (Kd.R_below (by (with_reducible repeat (first | apply Kd.R_alloc | apply Kd.R_drewN | apply Kd.R_drew)); exact HO298.out) hb); have n1_ := Aside0.mk (Kd.R_lower ho0 (below_size (by repeat (first | (with_reducible first | exact HB.out | apply below_alloc | apply pw_below_drewN | apply below_drew1) | exact HB.out)))); have n2_ := Aside0.mk (below_step (by repeat (first | (with_reducible first | exact HB.out | apply below_alloc | apply pw_below_drewN | apply below_drew1) | exact HB.out)) hb); clear HO298; clear HB; have HO298 := n0_; have HO301 := n1_; have HB := n2_; clear n0_ n1_ n2_; (try clear hb); (try clear hb2); (try clear hk); (try clear hi); (try clear ho0); obtain ⟨Ao41, co41, eo41⟩ := Kd.R_slice HO298.out; subst eo41; obtain ⟨Ao42, co42, eo42⟩ := Kd.R_slice HO301.out; subst eo42) | (go_at_call 8; (refine (lack_Of.calls _ _ t296 _ _ ([] : List (S31)) _ _ t299 t302 t303 _ ?side1 ?side2 ?side3 ?side4 ?side5 ?side6 A5.out).mono ?_); (case side1 => repeat (first | exact (Kd.R_reads' HO298.out).2.2 | (with_reducible refine Kd.C_alloc ?_ _) | (with_reducible refine Kd.C_drewN ?_ _) | (with_reducible refine Kd.C_drew ?_))); (case side2 => exact (Kd.R_reads' HO298.out).2.1); (case side3 => exact Kd.C_nil _ _); (case side4 => exact Nat.le_refl _); (case side5 => repeat (first | exact (Kd.R_reads' HO301.out).2.2 | (with_reducible refine Kd.C_alloc ?_ _) | (with_reducible refine Kd.C_drewN ?_ _) | (with_reducible refine Kd.C_drew ?_))); (case side6 => exact (Kd.R_reads' HO301.out).2.1); rintro e w43 ⟨v304, rfl, ho0, hb⟩; have n0_ := Aside0.mk (Kd.R_below (by (with_reducible repeat (first | apply Kd.R_alloc | apply Kd.R_drewN | apply Kd.R_drew)); exact HO298.out) hb); have n1_ := Aside0.mk (Kd.R_below (by (with_reducible repeat (first | apply Kd.R_alloc | apply Kd.R_drewN | apply Kd.R_drew)); exact HO301.out) hb); have n2_ := Aside0.mk (Kd.S_lower (Kd.S_new' ho0 (Kd.R_lt (by (with_reducible repeat (first | apply Kd.R_alloc | apply Kd.R_drewN | apply Kd.R_drew)); exact HO298.out))) (below_size (by repeat (first | (with_reducible first | exact HB.out | apply below_alloc | apply pw_below_drewN | apply below_drew1) | exact HB.out)))); have n3_ := Aside0.mk (below_step (by repeat (first | (with_reducible first | exact HB.out | apply below_alloc | apply pw_below_drewN | apply below_drew1) | exact HB.out)) hb); clear HO298; clear HO301; clear HB; have HO298 := n0_; have HO301 := n1_; have HO305 := n2_; have HB := n3_; clear n0_ n1_ n2_ n3_; (try clear hb); (try clear hb2); (try clear hk); (try clear hi); (try clear ho0); obtain ⟨Ao44, co44, eo44⟩ := Kd.S_slice HO305.out; subst eo44) | (go_at_call 9; (with_reducible refine (graftwoodlaw18_awake.calls  t306 _ A38.out HR_).mono ?_); rintro e w45 ⟨rfl, hb⟩; have n0_ := Aside0.mk (Kd.R_below (by (with_reducible repeat (first | apply Kd.R_alloc | apply Kd.R_drewN | apply Kd.R_drew)); exact HO298.out) hb); have n1_ := Aside0.mk (Kd.R_below (by (with_reducible repeat (first | apply Kd.R_alloc | apply Kd.R_drewN | apply Kd.R_drew)); exact HO301.out) hb); have n2_ := Aside0.mk (Kd.S_below (by (with_reducible repeat (first | apply Kd.S_alloc | apply Kd.S_drewN | apply Kd.S_drew)); exact HO305.out) hb); have n3_ := Aside0.mk (below_step (by repeat (first | (with_reducible first | exact HB.out | apply below_alloc | apply pw_below_drewN | apply below_drew1) | exact HB.out)) hb); clear HO298; clear HO301; clear HO305; clear HB; have HO298 := n0_; have HO301 := n1_; have HO305 := n2_; have HB := n3_; clear n0_ n1_ n2_ n3_; (try clear hb); (try clear hb2); (try clear hk); (try clear hi))); try go_wp2_with (first | (go_at_call 6; (with_reducible refine (graftwoodlaw05_Few.calls k _ _ l0 t296 _ ?side1 ?side2 A3.out).mono ?_); (case side1 => repeat (first | exact HR0.out | (with_reducible refine Kd.C_alloc ?_ _) | (with_reducible refine Kd.C_drewN ?_ _) | (with_reducible refine Kd.C_drew ?_))); (case side2 => exact HC0.out); rintro e w39 ⟨v297, rfl, ho0, hb⟩; have n0_ := Aside0.mk (Kd.R_lower ho0 (below_size (by repeat (first | (with_reducible first | exact HB.out | apply below_alloc | apply pw_below_drewN | apply below_drew1) | exact HB.out)))); have n1_ := Aside0.mk (below_step (by repeat (first | (with_reducible first | exact HB.out | apply below_alloc | apply pw_below_drewN | apply below_drew1) | exact HB.out)) hb); clear HB; have HO298 := n0_; have HB := n1_; clear n0_ n1_; (try clear hb); (try clear hb2); (try clear hk); (try clear hi); (try clear ho0)) | (go_at_call 7; (with_reducible refine (graftwoodlaw18_Few.calls k _ _ l1 t299 _ ?side1 ?side2 A4.out).mono ?_); (case side1 => repeat (first | exact (Kd.C_below HR1.out HB.out) | (with_reducible refine Kd.C_alloc ?_ _) | (with_reducible refine Kd.C_drewN ?_ _) | (with_reducible refine Kd.C_drew ?_))); (case side2 => exact HC1.out); rintro e w40 ⟨v300, rfl, ho0, hb⟩; have n0_ := Aside0.mk (Kd.R_below (by (with_reducible repeat (first | apply Kd.R_alloc | apply Kd.R_drewN | apply Kd.R_drew)); exact HO298.out) hb); have n1_ := Aside0.mk (Kd.R_lower ho0 (below_size (by repeat (first | (with_reducible first | exact HB.out | apply below_alloc | apply pw_below_drewN | apply below_drew1) | exact HB.out)))); have n2_ := Aside0.mk (below_step (by repeat (first | (with_reducible first | exact HB.out | apply below_alloc | apply pw_below_drewN | apply below_drew1) | exact HB.out)) hb); clear HO298; clear HB; have HO298 := n0_; have HO301 := n1_; have HB := n2_; clear n0_ n1_ n2_; (try clear hb); (try clear hb2); (try clear hk); (try clear hi); (try clear ho0); obtain ⟨Ao41, co41, eo41⟩ := Kd.R_slice HO298.out; subst eo41; obtain ⟨Ao42, co42, eo42⟩ := Kd.R_slice HO301.out; subst eo42) | (go_at_call 8; (refine (lack_Of.calls _ _ t296 _ _ ([] : List (S31)) _ _ t299 t302 t303 _ ?side1 ?side2 ?side3 ?side4 ?side5 ?side6 A5.out).mono ?_); (case side1 => repeat (first | exact (Kd.R_reads' HO298.out).2.2 | (with_reducible refine Kd.C_alloc ?_ _) | (with_reducible refine Kd.C_drewN ?_ _) | (with_reducible refine Kd.C_drew ?_))); (case side2 => exact (Kd.R_reads' HO298.out).2.1); (case side3 => exact Kd.C_nil _ _); (case side4 => exact Nat.le_refl _); (case side5 => repeat (first | exact (Kd.R_reads' HO301.out).2.2 | (with_reducible refine Kd.C_alloc ?_ _) | (with_reducible refine Kd.C_drewN ?_ _) | (with_reducible refine Kd.C_drew ?_))); (case side6 => exact (Kd.R_reads' HO301.out).2.1); rintro e w43 ⟨v304, rfl, ho0, hb⟩; have n0_ := Aside0.mk (Kd.R_below (by (with_reducible repeat (first | apply Kd.R_alloc | apply Kd.R_drewN | apply Kd.R_drew)); exact HO298.out) hb); have n1_ := Aside0.mk (Kd.R_below (by (with_reducible repeat (first | apply Kd.R_alloc | apply Kd.R_drewN | apply Kd.R_drew)); exact HO301.out) hb); have n2_ := Aside0.mk (Kd.S_lower (Kd.S_new' ho0 (Kd.R_lt (by (with_reducible repeat (first | apply Kd.R_alloc | apply Kd.R_drewN | apply Kd.R_drew)); exact HO298.out))) (below_size (by repeat (first | (with_reducible first | exact HB.out | apply below_alloc | apply pw_below_drewN | apply below_drew1) | exact HB.out)))); have n3_ := Aside0.mk (below_step (by repeat (first | (with_reducible first | exact HB.out | apply below_alloc | apply pw_below_drewN | apply below_drew1) | exact HB.out)) hb); clear HO298; clear HO301; clear HB; have HO298 := n0_; have HO301 := n1_; have HO305 := n2_; have HB := n3_; clear n0_ n1_ n2_ n3_; (try clear hb); (try clear hb2); (try clear hk); (try clear hi); (try clear ho0); obtain ⟨Ao44, co44, eo44⟩ := Kd.S_slice HO305.out; subst eo44) | (go_at_call 9; (with_reducible refine (graftwoodlaw18_awake.calls  t306 _ A38.out HR_).mono ?_); rintro e w45 ⟨rfl, hb⟩; have n0_ := Aside0.mk (Kd.R_below (by (with_reducible repeat (first | apply Kd.R_alloc | apply Kd.R_drewN | apply Kd.R_drew)); exact HO298.out) hb); have n1_ := Aside0.mk (Kd.R_below (by (with_reducible repeat (first | apply Kd.R_alloc | apply Kd.R_drewN | apply Kd.R_drew)); exact HO301.out) hb); have n2_ := Aside0.mk (Kd.S_below (by (with_reducible repeat (first | apply Kd.S_alloc | apply Kd.S_drewN | apply Kd.S_drew)); exact HO305.out) hb); have n3_ := Aside0.mk (below_step (by repeat (first | (with_reducible first | exact HB.out | apply below_alloc | apply pw_below_drewN | apply below_drew1) | exact HB.out)) hb); clear HO298; clear HO301; clear HO305; clear HB; have HO298 := n0_; have HO301 := n1_; have HO305 := n2_; have HB := n3_; clear n0_ n1_ n2_ n3_; (try clear hb); (try clear hb2); (try clear hk); (try clear hi))))
      go_ret
      exact ⟨by first | rfl | (simp [errW_none, errW_some] <;> rfl) | (simp [*, errW_none, errW_some] <;> rfl), by repeat (first | (with_reducible first | exact HB.out | apply below_alloc | apply pw_below_drewN | apply below_drew1) | exact HB.out)⟩
    · rw [if_neg c37] at H
      have c37b0 : ((t302.length : Int) == 0) = false := beq_eq_false_iff_ne.mpr c37
      have c37b1 : ((t302.length : Int) != 0) = true := bne_iff_ne.mpr c37
      have c37b2 : ¬ (t302 = []) := fun h_ => c37 (by rw [h_]; rfl)
      exact absurd ((Option.some.inj H).trans HR_.out) (by decide)
end Go.Proofs.YtffcbfclpfchnaaDoor.Q
end

section
namespace Go.Proofs.YtffcbfclpfchnaaDoor.Q
open Go.Proofs.YtffcbfclpfchnaaDoor.QB.D
open Go Go.RowKit Go.Lib Go.Proofs.YtffcbfclpfchnaaDoorW.PrintWords Go.Proofs.YtffcbfclpfchnaaDoorW.PrintLast Go.Proofs.YtffcbfclpfchnaaDoorW.PrintMore Gw
set_option linter.unusedVariables false
set_option linter.unusedSimpArgs false
def nW (c : UInt8) : S31 := ⟨⟨#[c]⟩, ⟨#[118, 49, 46, 48, 46, 48]⟩⟩
set_option maxRecDepth 100000 in
theorem awake18_val : graftwoodlaw18_awake.f = some true := by
  have b : ∀ c, Brief (nW c) := fun c => ⟨show (1 : Nat) ≤ 400 by decide, show (6 : Nat) ≤ 400 by decide⟩
  have bz : Brief z31 := by unfold Brief; decide +kernel
  have h1 := lackOf_val [nW 97, nW 98] [nW 98] [⟨nW 98, nW 97⟩, ⟨z31, nW 98⟩] (by decide) (by decide) (by decide) (fun x hx => by simp only [List.mem_cons, List.not_mem_nil, or_false] at hx; rcases hx with rfl | rfl <;> exact b _) (fun x hx => by simp only [List.mem_cons, List.not_mem_nil, or_false] at hx; subst hx; exact b _) (fun x hx => by
    simp only [List.mem_cons, List.not_mem_nil, or_false] at hx
    rcases hx with rfl | rfl
    · exact ⟨b _, b _⟩
    · exact ⟨bz, b _⟩)
  have h2 := missing_val [nW 97] [nW 97] (by decide) (by decide) (fun x hx => by simp only [List.mem_cons, List.not_mem_nil, or_false] at hx; subst hx; exact b _) (fun x hx => by simp only [List.mem_cons, List.not_mem_nil, or_false] at hx; subst hx; exact b _)
  have c1 : checkN [nW 97, nW 98] = true := by decide +kernel
  have c2 : checkN [nW 98] = true := by decide +kernel
  have c3 : okE [⟨nW 98, nW 97⟩, ⟨z31, nW 98⟩] = true := by decide +kernel
  have c4 : ofF [nW 97, nW 98] [nW 98] [⟨nW 98, nW 97⟩, ⟨z31, nW 98⟩] = [⟨nW 97, [nW 98], false⟩] := by
    have e1 : goneF [nW 97, nW 98] [nW 98] = [nW 97] := by decide +kernel
    have e2 : byF [⟨nW 98, nW 97⟩, ⟨z31, nW 98⟩] (nW 97) = [nW 98] := by decide +kernel
    have e3 : rootF [⟨nW 98, nW 97⟩, ⟨z31, nW 98⟩] (nW 97) = false := by decide +kernel
    unfold ofF lackOf
    rw [e1, List.map_cons, List.map_nil, e2, e3]
    rfl
  have c5 : checkN [nW 97] = true := by decide +kernel
  rw [if_pos ⟨c1, c2, c3⟩, c4] at h1
  rw [if_pos ⟨c5, c5⟩, goneF_self] at h2
  unfold graftwoodlaw18_awake.f
  unfold nW z31 at h1
  unfold nW at h2
  rw [h1, Option.bind_some, h2, Option.bind_some]
  simp [rd_T31, rd_T37, ByteArray.toList_eq]
end Go.Proofs.YtffcbfclpfchnaaDoor.Q
end
