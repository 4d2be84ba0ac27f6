/- Part 10 of this claim: several texts one behind the other: Fgraftwoodlaw05NodeMinus, LRd, LFew, LSame, RLess5, RMay5, RChk5, LHas, RMinus5, PureMinus, Open. What each shows stands in its theorems; conditions: sizes of texts and lists, as the functions' definitions say. -/
import Derived.Test.YtnknjhdpjjddeaaGreatDoorVNodeMinus
import Derived.Test.YtnknjhdpjjddeaaGreatDoorMNodeMinus0
import Derived.Test.YtnknjhdpjjddeaaGreatDoorMNodeMinus4
import Derived.Test.YtnknjhdpjjddeaaGreatDoorMNodeMinus8
import Derived.Test.YtnknjhdpjjddeaaGreatDoorMNodeMinus9
import Derived.Test.YtnknjhdpjjddeaaGreatDoorMNodeMinus3
import Derived.Test.YtnknjhdpjjddeaaGreatDoorMNodeMinus7
import Derived.Test.YtnknjhdpjjddeaaGreatDoorMNodeMinus6
import Derived.Deep.Slices
import Derived.ChangeArms
import Derived.WideShapes
import Derived.Carry
section
namespace Go.Proofs.YtnknjhdpjjddeaaGreatDoor.Q
open Go.RowKit Go.Proofs.YtnknjhdpjjddeaaGreatDoorW.PrintWords Go.Proofs.YtnknjhdpjjddeaaGreatDoorW.PrintLast Go.Proofs.YtnknjhdpjjddeaaGreatDoorW.PrintMore
attribute [local go_sem] max2_int min2_int max_two min_two max_three min_three max_four min_four   -- for this text's walks alone
set_option linter.unusedVariables false
set_option linter.unusedSimpArgs false

/-! ### graftwoodlaw05_NodeMinus: function 3 -/
def graftwoodlaw05_NodeMinus.j0 : Nat → List (S32) → List (S32) → List (S32) → Int → Bool → Option (Bool)
  | 0, _, _, _, _, _ => none
  | k + 1, x0, x1, x5, x6, x24 => if x24 = true then (if (x5.length : Int) = 0 then (if x6 = 1 then ((graftwoodlaw05_awake.f k).bind fun t261 => (some t261)) else (some false)) else (some false)) else ((graftwoodref05_Minus.f k x0 x1).bind fun t262 => ((graftwoodref05_Same.f k x5 t262).bind fun t265 => (if t265 = true then (if x6 = 0 then ((graftwoodlaw05_awake.f k).bind fun t266 => (some t266)) else (some false)) else (some false))))
def graftwoodlaw05_NodeMinus.f (k : Nat) (l0 : List (S32)) (l1 : List (S32)) : Option (Bool) := (graftwoodlaw05_Few.f k l0).bind fun t249 => ((graftwoodlaw05_Few.f k l1).bind fun t252 => ((node_Minus.f t249 t252).bind fun bt255 => ((graftwoodref05_Check.f k t249).bind fun t259 => (if t259 = true then ((graftwoodref05_Check.f k t252).bind fun t260 => (graftwoodlaw05_NodeMinus.j0 k t249 t252 bt255.1 bt255.2 (!t260))) else (graftwoodlaw05_NodeMinus.j0 k t249 t252 bt255.1 bt255.2 true)))))
theorem graftwoodlaw05_NodeMinus.mono_l : ∀ k, (∀ y0 y1 y2 y3 y4, LeO (graftwoodlaw05_NodeMinus.j0 k y0 y1 y2 y3 y4) (graftwoodlaw05_NodeMinus.j0 (k + 1) y0 y1 y2 y3 y4))
  | 0 => fun _ _ _ _ _ r h => by simp [graftwoodlaw05_NodeMinus.j0] at h
  | k + 1 => by
    have ih0 := graftwoodlaw05_NodeMinus.mono_l k
    · intro y0 y1 y2 y3 y4
      unfold graftwoodlaw05_NodeMinus.j0
      repeat' first
      | (with_reducible exact ih0 _ _ _ _ _)
      | (with_reducible exact graftwoodlaw05_Few.mono _ _)
      | (with_reducible exact graftwoodlaw05_awake.mono _)
      | (with_reducible exact graftwoodref05_Check.mono _ _)
      | (with_reducible exact graftwoodref05_Minus.mono _ _ _)
      | (with_reducible exact graftwoodref05_Same.mono _ _ _)
      | (with_reducible exact LeO.refl _)
      | (with_reducible exact LeO.none _)
      | (with_reducible refine LeO.ite ?_ ?_)
      | (with_reducible refine LeO.bind ?_ (fun _ => ?_))
      | exact ih0 _ _ _ _ _
      | exact graftwoodlaw05_Few.mono _ _
      | exact graftwoodlaw05_awake.mono _
      | exact graftwoodref05_Check.mono _ _
      | exact graftwoodref05_Minus.mono _ _ _
      | exact graftwoodref05_Same.mono _ _ _
      | exact LeO.none _
      | refine LeO.ite ?_ ?_
      | refine LeO.bind ?_ (fun _ => ?_)
theorem graftwoodlaw05_NodeMinus.mono : ∀ a0 a1 k, LeO (graftwoodlaw05_NodeMinus.f k a0 a1) (graftwoodlaw05_NodeMinus.f (k + 1) a0 a1) := by
  intro a0 a1 k
  have ih0 := graftwoodlaw05_NodeMinus.mono_l k
  unfold graftwoodlaw05_NodeMinus.f
  repeat' first
      | (with_reducible exact ih0 _ _ _ _ _)
      | (with_reducible exact graftwoodlaw05_Few.mono _ _)
      | (with_reducible exact graftwoodlaw05_awake.mono _)
      | (with_reducible exact graftwoodref05_Check.mono _ _)
      | (with_reducible exact graftwoodref05_Minus.mono _ _ _)
      | (with_reducible exact graftwoodref05_Same.mono _ _ _)
      | (with_reducible exact LeO.refl _)
      | (with_reducible exact LeO.none _)
      | (with_reducible refine LeO.ite ?_ ?_)
      | (with_reducible refine LeO.bind ?_ (fun _ => ?_))
      | exact ih0 _ _ _ _ _
      | exact graftwoodlaw05_Few.mono _ _
      | exact graftwoodlaw05_awake.mono _
      | exact graftwoodref05_Check.mono _ _
      | exact graftwoodref05_Minus.mono _ _ _
      | exact graftwoodref05_Same.mono _ _ _
      | exact LeO.none _
      | refine LeO.ite ?_ ?_
      | refine LeO.bind ?_ (fun _ => ?_)
set_option maxHeartbeats 8000000 in
set_option maxRecDepth 100000 in
theorem graftwoodlaw05_NodeMinus.calls (k : Nat) (A0 : Option Addr) (c0 : Nat) (l0 : List (S32)) (A1 : Option Addr) (c1 : Nat) (l1 : List (S32)) (r : Bool) (w : World) (hr0 : Kd.C k32 w A0 l0.length l0) (hc0 : l0.length ≤ c0) (hr1 : Kd.C k32 w A1 l1.length l1) (hc1 : l1.length ≤ c1) (h : graftwoodlaw05_NodeMinus.f k l0 l1 = some r) :
    Calls Tryz.prog 3 #[.slice A0 l0.length c0, .slice A1 l1.length c1] w fun e w' => e = .returned (.bool r) ∧ Below w.heap.size w w' := by
  have HR0 := Aside0.mk hr0
  have HC0 := Aside0.mk hc0
  clear hr0 hc0
  have HR1 := Aside0.mk hr1
  have HC1 := Aside0.mk hc1
  clear hr1 hc1
  have HB := Aside0.mk (Below.refl w.heap.size w)
  have H : ((graftwoodlaw05_Few.f k l0).bind fun t249 => ((graftwoodlaw05_Few.f k l1).bind fun t252 => ((node_Minus.f t249 t252).bind fun bt255 => ((graftwoodref05_Check.f k t249).bind fun t259 => (if t259 = true then ((graftwoodref05_Check.f k t252).bind fun t260 => (graftwoodlaw05_NodeMinus.j0 k t249 t252 bt255.1 bt255.2 (!t260))) else (graftwoodlaw05_NodeMinus.j0 k t249 t252 bt255.1 bt255.2 true)))))) = some r := h
  clear h
  replace H := Option.bind_eq_some_iff.mp H
  obtain ⟨t249, A30, H⟩ := H
  replace H : ((graftwoodlaw05_Few.f k l1).bind fun t252 => ((node_Minus.f t249 t252).bind fun bt255 => ((graftwoodref05_Check.f k t249).bind fun t259 => (if t259 = true then ((graftwoodref05_Check.f k t252).bind fun t260 => (graftwoodlaw05_NodeMinus.j0 k t249 t252 bt255.1 bt255.2 (!t260))) else (graftwoodlaw05_NodeMinus.j0 k t249 t252 bt255.1 bt255.2 true))))) = some r := H
  have A3 := Aside0.mk A30
  clear A30
  replace H := Option.bind_eq_some_iff.mp H
  obtain ⟨t252, A40, H⟩ := H
  replace H : ((node_Minus.f t249 t252).bind fun bt255 => ((graftwoodref05_Check.f k t249).bind fun t259 => (if t259 = true then ((graftwoodref05_Check.f k t252).bind fun t260 => (graftwoodlaw05_NodeMinus.j0 k t249 t252 bt255.1 bt255.2 (!t260))) else (graftwoodlaw05_NodeMinus.j0 k t249 t252 bt255.1 bt255.2 true)))) = some r := H
  have A4 := Aside0.mk A40
  clear A40
  replace H := Option.bind_eq_some_iff.mp H
  obtain ⟨⟨t255, t256⟩, A50, H⟩ := H
  replace H : ((graftwoodref05_Check.f k t249).bind fun t259 => (if t259 = true then ((graftwoodref05_Check.f k t252).bind fun t260 => (graftwoodlaw05_NodeMinus.j0 k t249 t252 t255 t256 (!t260))) else (graftwoodlaw05_NodeMinus.j0 k t249 t252 t255 t256 true))) = some r := H
  have A5 := Aside0.mk A50
  clear A50
  have HC6 := Aside0.mk H
  clear H
  go_enter Tryz.func3, Tryz.ntmps3
  go_upto_region 3 with (first | ((with_reducible refine gate_callee (f := 5) rfl ?_); refine goesL_ (some 8) rfl rfl Tryz.func5 (by kernel_rfl) rfl #[.slice A0 l0.length c0] rfl (by (try simp only [List.map_toArray, List.map_cons, List.map_nil]); first | done | rfl | (simp only [List.length_drop, List.length_take]; rfl)) ?_; (with_reducible refine (graftwoodlaw05_Few.calls k _ _ l0 t249 _ ?side1 ?side2 A3.out).mono ?_); (case side1 => repeat (first | exact HR0.out | (with_reducible refine Kd.C_alloc ?_ _) | (with_reducible refine Kd.C_drewN ?_ _) | (with_reducible refine Kd.C_drew ?_))); (case side2 => exact HC0.out); rintro e w7 ⟨v250, rfl, ho0, hb⟩; refine ⟨_, rfl, ?_⟩; have n0_ := Aside0.mk (Kd.R_lower ho0 (below_size (by repeat (first | (with_reducible first | exact HB.out | apply below_alloc | apply pw_below_drewN | apply below_drew1) | exact HB.out)))); have n1_ := Aside0.mk (below_step (by repeat (first | (with_reducible first | exact HB.out | apply below_alloc | apply pw_below_drewN | apply below_drew1) | exact HB.out)) hb); clear HB; have HO251 := n0_; have HB := n1_; clear n0_ n1_; (try clear hb); (try clear hb2); (try clear hk); (try clear hi); (try clear ho0)) | ((with_reducible refine gate_callee (f := 5) rfl ?_); refine goesL_ (some 10) rfl rfl Tryz.func5 (by kernel_rfl) rfl #[.slice A1 l1.length c1] rfl (by (try simp only [List.map_toArray, List.map_cons, List.map_nil]); first | done | rfl | (simp only [List.length_drop, List.length_take]; rfl)) ?_; (with_reducible refine (graftwoodlaw05_Few.calls k _ _ l1 t252 _ ?side1 ?side2 A4.out).mono ?_); (case side1 => repeat (first | exact (Kd.C_below HR1.out HB.out) | (with_reducible refine Kd.C_alloc ?_ _) | (with_reducible refine Kd.C_drewN ?_ _) | (with_reducible refine Kd.C_drew ?_))); (case side2 => exact HC1.out); rintro e w8 ⟨v253, rfl, ho0, hb⟩; refine ⟨_, rfl, ?_⟩; have n0_ := Aside0.mk (Kd.R_elder' (by (with_reducible repeat (first | apply Kd.R_alloc | apply Kd.R_drewN | apply Kd.R_drew)); exact HO251.out) (Kd.R_base ho0) hb); have n1_ := Aside0.mk (Kd.R_lower (Kd.R_new' ho0 (Kd.R_lt (by (with_reducible repeat (first | apply Kd.R_alloc | apply Kd.R_drewN | apply Kd.R_drew)); exact HO251.out))) (below_size (by repeat (first | (with_reducible first | exact HB.out | apply below_alloc | apply pw_below_drewN | apply below_drew1) | exact HB.out)))); have n2_ := Aside0.mk (below_step (by repeat (first | (with_reducible first | exact HB.out | apply below_alloc | apply pw_below_drewN | apply below_drew1) | exact HB.out)) hb); clear HO251; clear HB; have HO251 := n0_; have HO254 := n1_; have HB := n2_; clear n0_ n1_ n2_; (try clear hb); (try clear hb2); (try clear hk); (try clear hi); (try clear ho0); obtain ⟨Ao9, co9, eo9⟩ := Kd.R_slice HO251.out; subst eo9; obtain ⟨Ao10, co10, eo10⟩ := Kd.R_slice HO254.out; subst eo10) | ((with_reducible refine gate_callee (f := 6) rfl ?_); refine goesL_ (some 14) rfl rfl Tryz.func6 (by kernel_rfl) rfl #[.slice Ao9 t249.length co9, .slice Ao10 t252.length co10] rfl (by (try simp only [List.map_toArray, List.map_cons, List.map_nil]); first | done | rfl | (simp only [List.length_drop, List.length_take]; rfl)) ?_; (with_reducible refine (node_Minus.calls _ _ t249 _ _ t252 t255 t256 _ ?side1 ?side2 ?side3 ?side4 A5.out).mono ?_); (case side1 => repeat (first | exact (Kd.R_reads' HO251.out).2.2 | (with_reducible refine Kd.C_alloc ?_ _) | (with_reducible refine Kd.C_drewN ?_ _) | (with_reducible refine Kd.C_drew ?_))); (case side2 => exact (Kd.R_reads' HO251.out).2.1); (case side3 => repeat (first | exact (Kd.R_reads' HO254.out).2.2 | (with_reducible refine Kd.C_alloc ?_ _) | (with_reducible refine Kd.C_drewN ?_ _) | (with_reducible refine Kd.C_drew ?_))); (case side4 => exact (Kd.R_reads' HO254.out).2.1); rintro e w11 ⟨v257, rfl, ho0, hb⟩; refine ⟨_, rfl, ?_⟩; have n0_ := Aside0.mk (Kd.R_elder' (by (with_reducible repeat (first | apply Kd.R_alloc | apply Kd.R_drewN | apply Kd.R_drew)); exact HO251.out) (Kd.R_base ho0) hb); have n1_ := Aside0.mk (Kd.R_elder' (by (with_reducible repeat (first | apply Kd.R_alloc | apply Kd.R_drewN | apply Kd.R_drew)); exact HO254.out) (Kd.R_base ho0) hb); have n2_ := Aside0.mk (Kd.R_lower (Kd.R_new' (Kd.R_new' ho0 (Kd.R_lt (by (with_reducible repeat (first | apply Kd.R_alloc | apply Kd.R_drewN | apply Kd.R_drew)); exact HO251.out))) (Kd.R_lt (by (with_reducible repeat (first | apply Kd.R_alloc | apply Kd.R_drewN | apply Kd.R_drew)); exact HO254.out))) (below_size (by repeat (first | (with_reducible first | exact HB.out | apply below_alloc | apply pw_below_drewN | apply below_drew1) | exact HB.out)))); have n3_ := Aside0.mk (below_step (by repeat (first | (with_reducible first | exact HB.out | apply below_alloc | apply pw_below_drewN | apply below_drew1) | exact HB.out)) hb); clear HO251; clear HO254; clear HB; have HO251 := n0_; have HO254 := n1_; have HO258 := n2_; have HB := n3_; clear n0_ n1_ n2_ n3_; (try clear hb); (try clear hb2); (try clear hk); (try clear hi); (try clear ho0)))
  (try simp only [Act.put, List.setIfInBounds_toArray, List.set_cons_zero, List.set_cons_succ])
  go_cut [24] (fun v24 wc => ∃ (kq : Nat) (x24_5 : Bool), v24 = .bool x24_5 ∧ Aside0 (graftwoodlaw05_NodeMinus.j0 kq t249 t252 t255 t256 x24_5 = some r) ∧ Aside0 (kq ≤ k) ∧ Aside0 (Kd.R k32 32 wc w.heap.size (fun k_ => some k_ ≠ ((.slice Ao10 t252.length co10) : Value).ownBlock ∧ some k_ ≠ (v257 : Value).ownBlock) (.slice Ao9 t249.length co9) t249) ∧ Aside0 (Kd.R k32 32 wc w.heap.size (fun k_ => some k_ ≠ ((.slice Ao9 t249.length co9) : Value).ownBlock ∧ some k_ ≠ (v257 : Value).ownBlock) (.slice Ao10 t252.length co10) t252) ∧ Aside0 (Kd.R k32 32 wc w.heap.size (fun k_ => some k_ ≠ ((.slice Ao9 t249.length co9) : Value).ownBlock ∧ some k_ ≠ ((.slice Ao10 t252.length co10) : Value).ownBlock) v257 t255) ∧ Aside0 (Below w.heap.size w wc))
  case first =>
    have H := HC6.out
    clear HC6
    replace H := Option.bind_eq_some_iff.mp H
    obtain ⟨t259, A120, H⟩ := H
    replace H : (if t259 = true then ((graftwoodref05_Check.f k t252).bind fun t260 => (graftwoodlaw05_NodeMinus.j0 k t249 t252 t255 t256 (!t260))) else (graftwoodlaw05_NodeMinus.j0 k t249 t252 t255 t256 true)) = some r := H
    have A12 := Aside0.mk A120
    clear A120
    by_cases c13 : t259 = true
    · subst c13
      have H1 : ((graftwoodref05_Check.f k t252).bind fun t260 => (graftwoodlaw05_NodeMinus.j0 k t249 t252 t255 t256 (!t260))) = some r := by rw [if_pos rfl] at H; exact H
      clear H
      have H := H1
      clear H1
      replace H := Option.bind_eq_some_iff.mp H
      obtain ⟨t260, A140, H⟩ := H
      replace H : (graftwoodlaw05_NodeMinus.j0 k t249 t252 t255 t256 (!t260)) = some r := H
      have A14 := Aside0.mk A140
      clear A140
      have H' := Aside0.mk H
      clear H
      go_wp2_with (first | ((with_reducible refine gate_callee (f := 7) rfl ?_); refine goesL_ (some 18) rfl rfl Tryz.func7 (by kernel_rfl) rfl #[.slice Ao9 t249.length co9] rfl (by (try simp only [List.map_toArray, List.map_cons, List.map_nil]); first | done | rfl | (simp only [List.length_drop, List.length_take]; rfl)) ?_; (with_reducible refine (graftwoodref05_Check.calls k _ _ t249 true _ ?side1 ?side2 A12.out).mono ?_); (case side1 => repeat (first | exact (Kd.R_reads' HO251.out).2.2 | (with_reducible refine Kd.C_alloc ?_ _) | (with_reducible refine Kd.C_drewN ?_ _) | (with_reducible refine Kd.C_drew ?_))); (case side2 => exact (Kd.R_reads' HO251.out).2.1); rintro e w15 ⟨rfl, hb⟩; refine ⟨_, rfl, ?_⟩; have n0_ := Aside0.mk (Kd.R_below (by (with_reducible repeat (first | apply Kd.R_alloc | apply Kd.R_drewN | apply Kd.R_drew)); exact HO251.out) hb); have n1_ := Aside0.mk (Kd.R_below (by (with_reducible repeat (first | apply Kd.R_alloc | apply Kd.R_drewN | apply Kd.R_drew)); exact HO254.out) hb); have n2_ := Aside0.mk (Kd.R_below (by (with_reducible repeat (first | apply Kd.R_alloc | apply Kd.R_drewN | apply Kd.R_drew)); exact HO258.out) hb); have n3_ := Aside0.mk (below_step (by repeat (first | (with_reducible first | exact HB.out | apply below_alloc | apply pw_below_drewN | apply below_drew1) | exact HB.out)) hb); clear HO251; clear HO254; clear HO258; clear HB; have HO251 := n0_; have HO254 := n1_; have HO258 := n2_; have HB := n3_; clear n0_ n1_ n2_ n3_; (try clear hb); (try clear hb2); (try clear hk); (try clear hi)) | (go_at_call 7; (with_reducible refine (graftwoodref05_Check.calls k _ _ t252 t260 _ ?side1 ?side2 A14.out).mono ?_); (case side1 => repeat (first | exact (Kd.R_reads' HO254.out).2.2 | (with_reducible refine Kd.C_alloc ?_ _) | (with_reducible refine Kd.C_drewN ?_ _) | (with_reducible refine Kd.C_drew ?_))); (case side2 => exact (Kd.R_reads' HO254.out).2.1); rintro e w16 ⟨rfl, hb⟩; have n0_ := Aside0.mk (Kd.R_below (by (with_reducible repeat (first | apply Kd.R_alloc | apply Kd.R_drewN | apply Kd.R_drew)); exact HO251.out) hb); have n1_ := Aside0.mk (Kd.R_below (by (with_reducible repeat (first | apply Kd.R_alloc | apply Kd.R_drewN | apply Kd.R_drew)); exact HO254.out) hb); have n2_ := Aside0.mk (Kd.R_below (by (with_reducible repeat (first | apply Kd.R_alloc | apply Kd.R_drewN | apply Kd.R_drew)); exact HO258.out) hb); have n3_ := Aside0.mk (below_step (by repeat (first | (with_reducible first | exact HB.out | apply below_alloc | apply pw_below_drewN | apply below_drew1) | exact HB.out)) hb); clear HO251; clear HO254; clear HO258; clear HB; have HO251 := n0_; have HO254 := n1_; have HO258 := n2_; have HB := n3_; clear n0_ n1_ n2_ n3_; (try clear hb); (try clear hb2); (try clear hk); (try clear hi)))
      go_meet
      case rel => exact ⟨_, (!t260), (by first | rfl | (simp; done) | (simp [*]; done)), H', ⟨by first | omega | exact Nat.le_refl _⟩, ⟨by (with_reducible repeat (first | apply Kd.R_alloc | apply Kd.R_drewN | apply Kd.R_drew)); exact Kd.R_mono HO251.out (fun _ hk => ⟨hk.1.2, hk.2⟩)⟩, ⟨by (with_reducible repeat (first | apply Kd.R_alloc | apply Kd.R_drewN | apply Kd.R_drew)); exact Kd.R_mono HO254.out (fun _ hk => ⟨hk.1.2, hk.2⟩)⟩, ⟨by (with_reducible repeat (first | apply Kd.R_alloc | apply Kd.R_drewN | apply Kd.R_drew)); exact Kd.R_mono HO258.out (fun _ hk => ⟨hk.1.2, hk.2⟩)⟩, ⟨by repeat (first | (with_reducible first | exact HB.out | apply below_alloc | apply pw_below_drewN | apply below_drew1) | exact HB.out)⟩⟩
    · replace c13 := Bool.eq_false_iff.mpr c13
      subst c13
      have H1 : (graftwoodlaw05_NodeMinus.j0 k t249 t252 t255 t256 true) = some r := by rw [if_neg (show ¬ (false = true) by decide)] at H; exact H
      clear H
      have H := H1
      clear H1
      have H' := Aside0.mk H
      clear H
      go_wp2_with (first | ((with_reducible refine gate_callee (f := 7) rfl ?_); refine goesL_ (some 18) rfl rfl Tryz.func7 (by kernel_rfl) rfl #[.slice Ao9 t249.length co9] rfl (by (try simp only [List.map_toArray, List.map_cons, List.map_nil]); first | done | rfl | (simp only [List.length_drop, List.length_take]; rfl)) ?_; (with_reducible refine (graftwoodref05_Check.calls k _ _ t249 false _ ?side1 ?side2 A12.out).mono ?_); (case side1 => repeat (first | exact (Kd.R_reads' HO251.out).2.2 | (with_reducible refine Kd.C_alloc ?_ _) | (with_reducible refine Kd.C_drewN ?_ _) | (with_reducible refine Kd.C_drew ?_))); (case side2 => exact (Kd.R_reads' HO251.out).2.1); rintro e w17 ⟨rfl, hb⟩; refine ⟨_, rfl, ?_⟩; have n0_ := Aside0.mk (Kd.R_below (by (with_reducible repeat (first | apply Kd.R_alloc | apply Kd.R_drewN | apply Kd.R_drew)); exact HO251.out) hb); have n1_ := Aside0.mk (Kd.R_below (by (with_reducible repeat (first | apply Kd.R_alloc | apply Kd.R_drewN | apply Kd.R_drew)); exact HO254.out) hb); have n2_ := Aside0.mk (Kd.R_below (by (with_reducible repeat (first | apply Kd.R_alloc | apply Kd.R_drewN | apply Kd.R_drew)); exact HO258.out) hb); have n3_ := Aside0.mk (below_step (by repeat (first | (with_reducible first | exact HB.out | apply below_alloc | apply pw_below_drewN | apply below_drew1) | exact HB.out)) hb); clear HO251; clear HO254; clear HO258; clear HB; have HO251 := n0_; have HO254 := n1_; have HO258 := n2_; have HB := n3_; clear n0_ n1_ n2_ n3_; (try clear hb); (try clear hb2); (try clear hk); (try clear hi)))
      go_meet
      case rel => exact ⟨_, (true), (by first | rfl | (simp; done) | (simp [*]; done)), H', ⟨by first | omega | exact Nat.le_refl _⟩, ⟨by (with_reducible repeat (first | apply Kd.R_alloc | apply Kd.R_drewN | apply Kd.R_drew)); exact Kd.R_mono HO251.out (fun _ hk => ⟨hk.1.2, hk.2⟩)⟩, ⟨by (with_reducible repeat (first | apply Kd.R_alloc | apply Kd.R_drewN | apply Kd.R_drew)); exact Kd.R_mono HO254.out (fun _ hk => ⟨hk.1.2, hk.2⟩)⟩, ⟨by (with_reducible repeat (first | apply Kd.R_alloc | apply Kd.R_drewN | apply Kd.R_drew)); exact Kd.R_mono HO258.out (fun _ hk => ⟨hk.1.2, hk.2⟩)⟩, ⟨by repeat (first | (with_reducible first | exact HB.out | apply below_alloc | apply pw_below_drewN | apply below_drew1) | exact HB.out)⟩⟩
  case rest =>
    clear HC6
    try clear c1
    try clear p2
    try clear c3
    try clear c5
    try clear c6
    try clear c7
    try clear c13
    obtain ⟨kq, x24_5, rfl, HA, HJ5, HO_0, HO_1, HO_5, HB⟩ := hcut
    cases kq with
    | zero => exact absurd HA.out (by simp [graftwoodlaw05_NodeMinus.j0])
    | succ kj5 =>
      have H := HA.out
      clear HA
      simp only [graftwoodlaw05_NodeMinus.j0] at H
      by_cases c18 : x24_5 = true
      · subst c18
        have H1 : (if (t255.length : Int) = 0 then (if t256 = 1 then ((graftwoodlaw05_awake.f kj5).bind fun t261 => (some t261)) else (some false)) else (some false)) = some r := by rw [if_pos rfl] at H; exact H
        clear H
        have H := H1
        clear H1
        by_cases c19 : (t255.length : Int) = 0
        · rw [if_pos c19] at H
          have c19b0 : ((t255.length : Int) == 0) = true := beq_iff_eq.mpr c19
          have c19b1 : ((t255.length : Int) != 0) = false := bne_eq_false_iff_eq.mpr c19
          clear c19
          by_cases c20 : t256 = 1
          · rw [if_pos c20] at H
            have c20b0 : (t256 == 1) = true := beq_iff_eq.mpr c20
            have c20b1 : (t256 != 1) = false := bne_eq_false_iff_eq.mpr c20
            clear c20
            replace H := Option.bind_eq_some_iff.mp H
            obtain ⟨t261, A210, H⟩ := H
            replace H : (some t261) = some r := H
            have A21 := Aside0.mk A210
            clear A210
            obtain rfl := Option.some.inj H
            obtain ⟨Ao22, co22, eo22⟩ := Kd.R_slice HO_5.out
            subst eo22
            go_wp2_with (first | (go_at_call 8; (with_reducible refine (graftwoodlaw05_awake.calls kj5  t261 _ A21.out).mono ?_); rintro e w23 ⟨rfl, hb⟩; have n0_ := Aside0.mk (Kd.R_below (by (with_reducible repeat (first | apply Kd.R_alloc | apply Kd.R_drewN | apply Kd.R_drew)); exact HO_0.out) hb); have n1_ := Aside0.mk (Kd.R_below (by (with_reducible repeat (first | apply Kd.R_alloc | apply Kd.R_drewN | apply Kd.R_drew)); exact HO_1.out) hb); have n2_ := Aside0.mk (Kd.R_below (by (with_reducible repeat (first | apply Kd.R_alloc | apply Kd.R_drewN | apply Kd.R_drew)); exact HO_5.out) hb); have n3_ := Aside0.mk (below_step (by repeat (first | (with_reducible first | exact HB.out | apply below_alloc | apply pw_below_drewN | apply below_drew1) | exact HB.out)) hb); clear HO_0; clear HO_1; clear HO_5; clear HB; have HO_0 := n0_; have HO_1 := n1_; have HO_5 := n2_; have HB := n3_; clear n0_ n1_ n2_ n3_; (try clear hb); (try clear hb2); (try clear hk); (try clear hi)))
            go_ret
            exact ⟨by first | rfl | (simp [errW_none, errW_some] <;> rfl) | (simp [*, errW_none, errW_some] <;> rfl), by repeat (first | (with_reducible first | exact HB.out | apply below_alloc | apply pw_below_drewN | apply below_drew1) | exact HB.out)⟩
          · rw [if_neg c20] at H
            have c20b0 : (t256 == 1) = false := beq_eq_false_iff_ne.mpr c20
            have c20b1 : (t256 != 1) = true := bne_iff_ne.mpr c20
            obtain rfl := Option.some.inj H
            obtain ⟨Ao24, co24, eo24⟩ := Kd.R_slice HO_5.out
            subst eo24
            go_wp2
            go_ret
            exact ⟨by first | rfl | (simp [errW_none, errW_some] <;> rfl) | (simp [*, errW_none, errW_some] <;> rfl), by repeat (first | (with_reducible first | exact HB.out | apply below_alloc | apply pw_below_drewN | apply below_drew1) | exact HB.out)⟩
        · rw [if_neg c19] at H
          have c19b0 : ((t255.length : Int) == 0) = false := beq_eq_false_iff_ne.mpr c19
          have c19b1 : ((t255.length : Int) != 0) = true := bne_iff_ne.mpr c19
          have c19b2 : ¬ (t255 = []) := fun h_ => c19 (by rw [h_]; rfl)
          obtain rfl := Option.some.inj H
          obtain ⟨Ao25, co25, eo25⟩ := Kd.R_slice HO_5.out
          subst eo25
          go_wp2
          go_ret
          exact ⟨by first | rfl | (simp [errW_none, errW_some] <;> rfl) | (simp [*, errW_none, errW_some] <;> rfl), by repeat (first | (with_reducible first | exact HB.out | apply below_alloc | apply pw_below_drewN | apply below_drew1) | exact HB.out)⟩
      · replace c18 := Bool.eq_false_iff.mpr c18
        subst c18
        have H1 : ((graftwoodref05_Minus.f kj5 t249 t252).bind fun t262 => ((graftwoodref05_Same.f kj5 t255 t262).bind fun t265 => (if t265 = true then (if t256 = 0 then ((graftwoodlaw05_awake.f kj5).bind fun t266 => (some t266)) else (some false)) else (some false)))) = some r := by rw [if_neg (show ¬ (false = true) by decide)] at H; exact H
        clear H
        have H := H1
        clear H1
        replace H := Option.bind_eq_some_iff.mp H
        obtain ⟨t262, A260, H⟩ := H
        replace H : ((graftwoodref05_Same.f kj5 t255 t262).bind fun t265 => (if t265 = true then (if t256 = 0 then ((graftwoodlaw05_awake.f kj5).bind fun t266 => (some t266)) else (some false)) else (some false))) = some r := H
        have A26 := Aside0.mk A260
        clear A260
        replace H := Option.bind_eq_some_iff.mp H
        obtain ⟨t265, A270, H⟩ := H
        replace H : (if t265 = true then (if t256 = 0 then ((graftwoodlaw05_awake.f kj5).bind fun t266 => (some t266)) else (some false)) else (some false)) = some r := H
        have A27 := Aside0.mk A270
        clear A270
        by_cases c28 : t265 = true
        · subst c28
          have H1 : (if t256 = 0 then ((graftwoodlaw05_awake.f kj5).bind fun t266 => (some t266)) else (some false)) = some r := by rw [if_pos rfl] at H; exact H
          clear H
          have H := H1
          clear H1
          by_cases c29 : t256 = 0
          · rw [if_pos c29] at H
            have c29b0 : (t256 == 0) = true := beq_iff_eq.mpr c29
            have c29b1 : (t256 != 0) = false := bne_eq_false_iff_eq.mpr c29
            clear c29
            replace H := Option.bind_eq_some_iff.mp H
            obtain ⟨t266, A300, H⟩ := H
            replace H : (some t266) = some r := H
            have A30 := Aside0.mk A300
            clear A300
            obtain rfl := Option.some.inj H
            go_wp2_with (first | ((with_reducible refine gate_callee (f := 10) rfl ?_); refine goesL_ (some 38) rfl rfl Tryz.func10 (by kernel_rfl) rfl #[.slice Ao9 t249.length co9, .slice Ao10 t252.length co10] rfl (by (try simp only [List.map_toArray, List.map_cons, List.map_nil]); first | done | rfl | (simp only [List.length_drop, List.length_take]; rfl)) ?_; (with_reducible refine (graftwoodref05_Minus.calls kj5 _ _ t249 _ _ t252 t262 _ ?side1 ?side2 ?side3 ?side4 A26.out).mono ?_); (case side1 => repeat (first | exact (Kd.R_reads' HO_0.out).2.2 | (with_reducible refine Kd.C_alloc ?_ _) | (with_reducible refine Kd.C_drewN ?_ _) | (with_reducible refine Kd.C_drew ?_))); (case side2 => exact (Kd.R_reads' HO_0.out).2.1); (case side3 => repeat (first | exact (Kd.R_reads' HO_1.out).2.2 | (with_reducible refine Kd.C_alloc ?_ _) | (with_reducible refine Kd.C_drewN ?_ _) | (with_reducible refine Kd.C_drew ?_))); (case side4 => exact (Kd.R_reads' HO_1.out).2.1); rintro e w31 ⟨v263, rfl, ho0, hb⟩; refine ⟨_, rfl, ?_⟩; have n0_ := Aside0.mk (Kd.R_elder' (by (with_reducible repeat (first | apply Kd.R_alloc | apply Kd.R_drewN | apply Kd.R_drew)); exact HO_0.out) (Kd.R_base ho0) hb); have n1_ := Aside0.mk (Kd.R_elder' (by (with_reducible repeat (first | apply Kd.R_alloc | apply Kd.R_drewN | apply Kd.R_drew)); exact HO_1.out) (Kd.R_base ho0) hb); have n2_ := Aside0.mk (Kd.R_elder' (by (with_reducible repeat (first | apply Kd.R_alloc | apply Kd.R_drewN | apply Kd.R_drew)); exact HO_5.out) (Kd.R_base ho0) hb); have n3_ := Aside0.mk (Kd.R_lower (Kd.R_new' (Kd.R_new' (Kd.R_new' ho0 (Kd.R_lt (by (with_reducible repeat (first | apply Kd.R_alloc | apply Kd.R_drewN | apply Kd.R_drew)); exact HO_0.out))) (Kd.R_lt (by (with_reducible repeat (first | apply Kd.R_alloc | apply Kd.R_drewN | apply Kd.R_drew)); exact HO_1.out))) (Kd.R_lt (by (with_reducible repeat (first | apply Kd.R_alloc | apply Kd.R_drewN | apply Kd.R_drew)); exact HO_5.out))) (below_size (by repeat (first | (with_reducible first | exact HB.out | apply below_alloc | apply pw_below_drewN | apply below_drew1) | exact HB.out)))); have n4_ := Aside0.mk (below_step (by repeat (first | (with_reducible first | exact HB.out | apply below_alloc | apply pw_below_drewN | apply below_drew1) | exact HB.out)) hb); clear HO_0; clear HO_1; clear HO_5; clear HB; have HO_0 := n0_; have HO_1 := n1_; have HO_5 := n2_; have HO264 := n3_; have HB := n4_; clear n0_ n1_ n2_ n3_ n4_; (try clear hb); (try clear hb2); (try clear hk); (try clear hi); (try clear ho0); obtain ⟨Ao32, co32, eo32⟩ := Kd.R_slice HO_5.out; subst eo32; obtain ⟨Ao33, co33, eo33⟩ := Kd.R_slice HO264.out; subst eo33) | ((with_reducible refine gate_callee (f := 9) rfl ?_); refine goesL_ (some 39) rfl rfl Tryz.func9 (by kernel_rfl) rfl #[.slice Ao32 t255.length co32, .slice Ao33 t262.length co33] rfl (by (try simp only [List.map_toArray, List.map_cons, List.map_nil]); first | done | rfl | (simp only [List.length_drop, List.length_take]; rfl)) ?_; (with_reducible refine (graftwoodref05_Same.calls kj5 _ _ t255 _ _ t262 true _ ?side1 ?side2 ?side3 ?side4 A27.out).mono ?_); (case side1 => repeat (first | exact (Kd.R_reads' HO_5.out).2.2 | (with_reducible refine Kd.C_alloc ?_ _) | (with_reducible refine Kd.C_drewN ?_ _) | (with_reducible refine Kd.C_drew ?_))); (case side2 => exact (Kd.R_reads' HO_5.out).2.1); (case side3 => repeat (first | exact (Kd.R_reads' HO264.out).2.2 | (with_reducible refine Kd.C_alloc ?_ _) | (with_reducible refine Kd.C_drewN ?_ _) | (with_reducible refine Kd.C_drew ?_))); (case side4 => exact (Kd.R_reads' HO264.out).2.1); rintro e w' ⟨rfl, ⟨nd, rfl⟩⟩; refine ⟨_, rfl, ?_⟩) | (go_at_call 8; (with_reducible refine (graftwoodlaw05_awake.calls kj5  t266 _ A30.out).mono ?_); rintro e w34 ⟨rfl, hb⟩; have n0_ := Aside0.mk (Kd.R_below (by (with_reducible repeat (first | apply Kd.R_alloc | apply Kd.R_drewN | apply Kd.R_drew)); exact HO_0.out) hb); have n1_ := Aside0.mk (Kd.R_below (by (with_reducible repeat (first | apply Kd.R_alloc | apply Kd.R_drewN | apply Kd.R_drew)); exact HO_1.out) hb); have n2_ := Aside0.mk (Kd.R_below (by (with_reducible repeat (first | apply Kd.R_alloc | apply Kd.R_drewN | apply Kd.R_drew)); exact HO_5.out) hb); have n3_ := Aside0.mk (Kd.R_below (by (with_reducible repeat (first | apply Kd.R_alloc | apply Kd.R_drewN | apply Kd.R_drew)); exact HO264.out) hb); have n4_ := Aside0.mk (below_step (by repeat (first | (with_reducible first | exact HB.out | apply below_alloc | apply pw_below_drewN | apply below_drew1) | exact HB.out)) hb); clear HO_0; clear HO_1; clear HO_5; clear HO264; clear HB; have HO_0 := n0_; have HO_1 := n1_; have HO_5 := n2_; have HO264 := n3_; have HB := n4_; clear n0_ n1_ n2_ n3_ n4_; (try clear hb); (try clear hb2); (try clear hk); (try clear hi)))
            go_ret
            exact ⟨by first | rfl | (simp [errW_none, errW_some] <;> rfl) | (simp [*, errW_none, errW_some] <;> rfl), by repeat (first | (with_reducible first | exact HB.out | apply below_alloc | apply pw_below_drewN | apply below_drew1) | exact HB.out)⟩
          · rw [if_neg c29] at H
            have c29b0 : (t256 == 0) = false := beq_eq_false_iff_ne.mpr c29
            have c29b1 : (t256 != 0) = true := bne_iff_ne.mpr c29
            obtain rfl := Option.some.inj H
            go_wp2_with (first | ((with_reducible refine gate_callee (f := 10) rfl ?_); refine goesL_ (some 38) rfl rfl Tryz.func10 (by kernel_rfl) rfl #[.slice Ao9 t249.length co9, .slice Ao10 t252.length co10] rfl (by (try simp only [List.map_toArray, List.map_cons, List.map_nil]); first | done | rfl | (simp only [List.length_drop, List.length_take]; rfl)) ?_; (with_reducible refine (graftwoodref05_Minus.calls kj5 _ _ t249 _ _ t252 t262 _ ?side1 ?side2 ?side3 ?side4 A26.out).mono ?_); (case side1 => repeat (first | exact (Kd.R_reads' HO_0.out).2.2 | (with_reducible refine Kd.C_alloc ?_ _) | (with_reducible refine Kd.C_drewN ?_ _) | (with_reducible refine Kd.C_drew ?_))); (case side2 => exact (Kd.R_reads' HO_0.out).2.1); (case side3 => repeat (first | exact (Kd.R_reads' HO_1.out).2.2 | (with_reducible refine Kd.C_alloc ?_ _) | (with_reducible refine Kd.C_drewN ?_ _) | (with_reducible refine Kd.C_drew ?_))); (case side4 => exact (Kd.R_reads' HO_1.out).2.1); rintro e w35 ⟨v263, rfl, ho0, hb⟩; refine ⟨_, rfl, ?_⟩; have n0_ := Aside0.mk (Kd.R_elder' (by (with_reducible repeat (first | apply Kd.R_alloc | apply Kd.R_drewN | apply Kd.R_drew)); exact HO_0.out) (Kd.R_base ho0) hb); have n1_ := Aside0.mk (Kd.R_elder' (by (with_reducible repeat (first | apply Kd.R_alloc | apply Kd.R_drewN | apply Kd.R_drew)); exact HO_1.out) (Kd.R_base ho0) hb); have n2_ := Aside0.mk (Kd.R_elder' (by (with_reducible repeat (first | apply Kd.R_alloc | apply Kd.R_drewN | apply Kd.R_drew)); exact HO_5.out) (Kd.R_base ho0) hb); have n3_ := Aside0.mk (Kd.R_lower (Kd.R_new' (Kd.R_new' (Kd.R_new' ho0 (Kd.R_lt (by (with_reducible repeat (first | apply Kd.R_alloc | apply Kd.R_drewN | apply Kd.R_drew)); exact HO_0.out))) (Kd.R_lt (by (with_reducible repeat (first | apply Kd.R_alloc | apply Kd.R_drewN | apply Kd.R_drew)); exact HO_1.out))) (Kd.R_lt (by (with_reducible repeat (first | apply Kd.R_alloc | apply Kd.R_drewN | apply Kd.R_drew)); exact HO_5.out))) (below_size (by repeat (first | (with_reducible first | exact HB.out | apply below_alloc | apply pw_below_drewN | apply below_drew1) | exact HB.out)))); have n4_ := Aside0.mk (below_step (by repeat (first | (with_reducible first | exact HB.out | apply below_alloc | apply pw_below_drewN | apply below_drew1) | exact HB.out)) hb); clear HO_0; clear HO_1; clear HO_5; clear HB; have HO_0 := n0_; have HO_1 := n1_; have HO_5 := n2_; have HO264 := n3_; have HB := n4_; clear n0_ n1_ n2_ n3_ n4_; (try clear hb); (try clear hb2); (try clear hk); (try clear hi); (try clear ho0); obtain ⟨Ao36, co36, eo36⟩ := Kd.R_slice HO_5.out; subst eo36; obtain ⟨Ao37, co37, eo37⟩ := Kd.R_slice HO264.out; subst eo37) | ((with_reducible refine gate_callee (f := 9) rfl ?_); refine goesL_ (some 39) rfl rfl Tryz.func9 (by kernel_rfl) rfl #[.slice Ao36 t255.length co36, .slice Ao37 t262.length co37] rfl (by (try simp only [List.map_toArray, List.map_cons, List.map_nil]); first | done | rfl | (simp only [List.length_drop, List.length_take]; rfl)) ?_; (with_reducible refine (graftwoodref05_Same.calls kj5 _ _ t255 _ _ t262 true _ ?side1 ?side2 ?side3 ?side4 A27.out).mono ?_); (case side1 => repeat (first | exact (Kd.R_reads' HO_5.out).2.2 | (with_reducible refine Kd.C_alloc ?_ _) | (with_reducible refine Kd.C_drewN ?_ _) | (with_reducible refine Kd.C_drew ?_))); (case side2 => exact (Kd.R_reads' HO_5.out).2.1); (case side3 => repeat (first | exact (Kd.R_reads' HO264.out).2.2 | (with_reducible refine Kd.C_alloc ?_ _) | (with_reducible refine Kd.C_drewN ?_ _) | (with_reducible refine Kd.C_drew ?_))); (case side4 => exact (Kd.R_reads' HO264.out).2.1); rintro e w' ⟨rfl, ⟨nd, rfl⟩⟩; refine ⟨_, rfl, ?_⟩))
            go_ret
            exact ⟨by first | rfl | (simp [errW_none, errW_some] <;> rfl) | (simp [*, errW_none, errW_some] <;> rfl), by repeat (first | (with_reducible first | exact HB.out | apply below_alloc | apply pw_below_drewN | apply below_drew1) | exact HB.out)⟩
        · replace c28 := Bool.eq_false_iff.mpr c28
          subst c28
          have H1 : (some false) = some r := by rw [if_neg (show ¬ (false = true) by decide)] at H; exact H
          clear H
          have H := H1
          clear H1
          obtain rfl := Option.some.inj H
          go_wp2_with (first | ((with_reducible refine gate_callee (f := 10) rfl ?_); refine goesL_ (some 38) rfl rfl Tryz.func10 (by kernel_rfl) rfl #[.slice Ao9 t249.length co9, .slice Ao10 t252.length co10] rfl (by (try simp only [List.map_toArray, List.map_cons, List.map_nil]); first | done | rfl | (simp only [List.length_drop, List.length_take]; rfl)) ?_; (with_reducible refine (graftwoodref05_Minus.calls kj5 _ _ t249 _ _ t252 t262 _ ?side1 ?side2 ?side3 ?side4 A26.out).mono ?_); (case side1 => repeat (first | exact (Kd.R_reads' HO_0.out).2.2 | (with_reducible refine Kd.C_alloc ?_ _) | (with_reducible refine Kd.C_drewN ?_ _) | (with_reducible refine Kd.C_drew ?_))); (case side2 => exact (Kd.R_reads' HO_0.out).2.1); (case side3 => repeat (first | exact (Kd.R_reads' HO_1.out).2.2 | (with_reducible refine Kd.C_alloc ?_ _) | (with_reducible refine Kd.C_drewN ?_ _) | (with_reducible refine Kd.C_drew ?_))); (case side4 => exact (Kd.R_reads' HO_1.out).2.1); rintro e w38 ⟨v263, rfl, ho0, hb⟩; refine ⟨_, rfl, ?_⟩; have n0_ := Aside0.mk (Kd.R_elder' (by (with_reducible repeat (first | apply Kd.R_alloc | apply Kd.R_drewN | apply Kd.R_drew)); exact HO_0.out) (Kd.R_base ho0) hb); have n1_ := Aside0.mk (Kd.R_elder' (by (with_reducible repeat (first | apply Kd.R_alloc | apply Kd.R_drewN | apply Kd.R_drew)); exact HO_1.out) (Kd.R_base ho0) hb); have n2_ := Aside0.mk (Kd.R_elder' (by (with_reducible repeat (first | apply Kd.R_alloc | apply Kd.R_drewN | apply Kd.R_drew)); exact HO_5.out) (Kd.R_base ho0) hb); have n3_ := Aside0.mk (Kd.R_lower (Kd.R_new' (Kd.R_new' (Kd.R_new' ho0 (Kd.R_lt (by (with_reducible repeat (first | apply Kd.R_alloc | apply Kd.R_drewN | apply Kd.R_drew)); exact HO_0.out))) (Kd.R_lt (by (with_reducible repeat (first | apply Kd.R_alloc | apply Kd.R_drewN | apply Kd.R_drew)); exact HO_1.out))) (Kd.R_lt (by (with_reducible repeat (first | apply Kd.R_alloc | apply Kd.R_drewN | apply Kd.R_drew)); exact HO_5.out))) (below_size (by repeat (first | (with_reducible first | exact HB.out | apply below_alloc | apply pw_below_drewN | apply below_drew1) | exact HB.out)))); have n4_ := Aside0.mk (below_step (by repeat (first | (with_reducible first | exact HB.out | apply below_alloc | apply pw_below_drewN | apply below_drew1) | exact HB.out)) hb); clear HO_0; clear HO_1; clear HO_5; clear HB; have HO_0 := n0_; have HO_1 := n1_; have HO_5 := n2_; have HO264 := n3_; have HB := n4_; clear n0_ n1_ n2_ n3_ n4_; (try clear hb); (try clear hb2); (try clear hk); (try clear hi); (try clear ho0); obtain ⟨Ao39, co39, eo39⟩ := Kd.R_slice HO_5.out; subst eo39; obtain ⟨Ao40, co40, eo40⟩ := Kd.R_slice HO264.out; subst eo40) | ((with_reducible refine gate_callee (f := 9) rfl ?_); refine goesL_ (some 39) rfl rfl Tryz.func9 (by kernel_rfl) rfl #[.slice Ao39 t255.length co39, .slice Ao40 t262.length co40] rfl (by (try simp only [List.map_toArray, List.map_cons, List.map_nil]); first | done | rfl | (simp only [List.length_drop, List.length_take]; rfl)) ?_; (with_reducible refine (graftwoodref05_Same.calls kj5 _ _ t255 _ _ t262 false _ ?side1 ?side2 ?side3 ?side4 A27.out).mono ?_); (case side1 => repeat (first | exact (Kd.R_reads' HO_5.out).2.2 | (with_reducible refine Kd.C_alloc ?_ _) | (with_reducible refine Kd.C_drewN ?_ _) | (with_reducible refine Kd.C_drew ?_))); (case side2 => exact (Kd.R_reads' HO_5.out).2.1); (case side3 => repeat (first | exact (Kd.R_reads' HO264.out).2.2 | (with_reducible refine Kd.C_alloc ?_ _) | (with_reducible refine Kd.C_drewN ?_ _) | (with_reducible refine Kd.C_drew ?_))); (case side4 => exact (Kd.R_reads' HO264.out).2.1); rintro e w' ⟨rfl, ⟨nd, rfl⟩⟩; refine ⟨_, rfl, ?_⟩))
          go_ret
          exact ⟨by first | rfl | (simp [errW_none, errW_some] <;> rfl) | (simp [*, errW_none, errW_some] <;> rfl), by repeat (first | (with_reducible first | exact HB.out | apply below_alloc | apply pw_below_drewN | apply below_drew1) | exact HB.out)⟩

end Go.Proofs.YtnknjhdpjjddeaaGreatDoor.Q
end

section
namespace Go.Proofs.YtnknjhdpjjddeaaGreatDoor.Q
open Go.Proofs.YtnknjhdpjjddeaaGreatDoor.QB.D
open Go Go.RowKit Go.Lib Go.Proofs.YtnknjhdpjjddeaaGreatDoorW.PrintWords Go.Proofs.YtnknjhdpjjddeaaGreatDoorW.PrintLast Go.Proofs.YtnknjhdpjjddeaaGreatDoorW.PrintMore Gw
set_option linter.unusedVariables false
set_option linter.unusedSimpArgs false
theorem rd_nat {l : List S32} {i : Nat} (hi : i < l.length) : rd_T32 l (i : Int) = l[i] := by simp [rd_T32, List.getD_eq_getElem?_getD, List.getElem?_eq_getElem hi]
theorem node_eqb (x y : S32) : (x.f0.toList == y.f0.toList && x.f1.toList == y.f1.toList) = decide (x = y) := by
  rw [str_eq, str_eq]
  by_cases h : x = y
  · subst h; simp
  · rw [decide_eq_false h]
    by_cases h0 : x.f0 = y.f0
    · have h1 : x.f1 ≠ y.f1 := fun h1 => h (by cases x; cases y; simp only at h0 h1; rw [h0, h1])
      simp [h0, h1]
    · simp [h0]
end Go.Proofs.YtnknjhdpjjddeaaGreatDoor.Q
end

section
namespace Go.Proofs.YtnknjhdpjjddeaaGreatDoor.Q
open Go.Proofs.YtnknjhdpjjddeaaGreatDoor.QB.D
open Go Go.RowKit Go.Lib Go.Proofs.YtnknjhdpjjddeaaGreatDoorW.PrintWords Go.Proofs.YtnknjhdpjjddeaaGreatDoorW.PrintLast Go.Proofs.YtnknjhdpjjddeaaGreatDoorW.PrintMore Gw
set_option linter.unusedVariables false
set_option linter.unusedSimpArgs false
def fewN (l : List S32) : List S32 := (l.take 24).map oneN
theorem few_l0 (l : List S32) : ∀ (n i k : Nat), 24 ≤ i + n → i ≤ 24 → n + 1 ≤ k → graftwoodlaw05_Few.l0 k l ((l.take i).map oneN) (i : Int) = some (fewN l) := by
  intro n
  induction n with
  | zero =>
    intro i k h1 h2 hk
    obtain ⟨j, rfl⟩ : ∃ j, k = j + 1 := ⟨k - 1, by omega⟩
    have e : i = 24 := by omega
    subst e
    simp only [graftwoodlaw05_Few.l0]
    by_cases h : ((24 : Nat) : Int) < (l.length : Int)
    · rw [if_pos h, if_neg (by omega)]; rfl
    · rw [if_neg h]; rfl
  | succ n ih =>
    intro i k h1 h2 hk
    obtain ⟨j, rfl⟩ : ∃ j, k = j + 1 := ⟨k - 1, by omega⟩
    by_cases h : i < l.length
    · by_cases h24 : i < 24
      · simp only [graftwoodlaw05_Few.l0]
        have hx : (l.take i).map oneN ++ [(⟨few l[i].f0, few l[i].f1⟩ : S32)] = (l.take (i + 1)).map oneN := by
          rw [List.take_succ_eq_append_getElem h, List.map_append]; rfl
        rw [if_pos (by omega), if_pos (by omega), if_pos (by omega), rd_nat h, One_val]
        simp only [Option.bind_some]
        rw [if_pos (by rw [List.length_map, List.length_take]; omega), hx, show wrap64 ((i : Int) + 1) = ((i + 1 : Nat) : Int) by unfold wrap64; omega]
        exact ih (i + 1) j (by omega) (by omega) (by omega)
      · exact ih i (j + 1) (by omega) h2 (by omega)
    · simp only [graftwoodlaw05_Few.l0]
      rw [if_neg (by omega)]
      unfold fewN
      rw [List.take_of_length_le (by omega : l.length ≤ i), List.take_of_length_le (by omega : l.length ≤ 24)]
theorem fewN_val (l : List S32) (k : Nat) (hk : 30 ≤ k) : graftwoodlaw05_Few.f k l = some (fewN l) := few_l0 l 24 0 k (by omega) (by omega) (by omega)
theorem fewN_len (l : List S32) : (fewN l).length ≤ 24 := by unfold fewN; rw [List.length_map, List.length_take]; omega
theorem fewN_brief (l : List S32) : ∀ x ∈ fewN l, Brief x := fun x hx => by
  obtain ⟨y, _, rfl⟩ := List.mem_map.1 hx
  exact oneN_brief y
end Go.Proofs.YtnknjhdpjjddeaaGreatDoor.Q
end

section
namespace Go.Proofs.YtnknjhdpjjddeaaGreatDoor.Q
open Go.Proofs.YtnknjhdpjjddeaaGreatDoor.QB.D
open Go Go.RowKit Go.Lib Go.Proofs.YtnknjhdpjjddeaaGreatDoorW.PrintWords Go.Proofs.YtnknjhdpjjddeaaGreatDoorW.PrintLast Go.Proofs.YtnknjhdpjjddeaaGreatDoorW.PrintMore Gw
set_option linter.unusedVariables false
set_option linter.unusedSimpArgs false
theorem same_l0 (l m : List S32) (hl : l.length ≤ 4294967296) (hm : l.length = m.length) : ∀ (n i k : Nat), l.length ≤ i + n → i ≤ l.length → n + 1 ≤ k → graftwoodref05_Same.l0 k l m (i : Int) = some (decide (l.drop i = m.drop i)) := by
  intro n
  induction n with
  | zero =>
    intro i k h1 h2 hk
    obtain ⟨j, rfl⟩ : ∃ j, k = j + 1 := ⟨k - 1, by omega⟩
    have e : i = l.length := by omega
    subst e
    simp only [graftwoodref05_Same.l0]
    rw [if_neg (by omega), List.drop_length, List.drop_eq_nil_of_le (by omega)]
    rfl
  | succ n ih =>
    intro i k h1 h2 hk
    obtain ⟨j, rfl⟩ : ∃ j, k = j + 1 := ⟨k - 1, by omega⟩
    by_cases h : i < l.length
    · have h' : i < m.length := by omega
      simp only [graftwoodref05_Same.l0]
      have hn : (!(l[i].f0.toList == m[i].f0.toList) || !(l[i].f1.toList == m[i].f1.toList)) = !decide (l[i] = m[i]) := by rw [← node_eqb, Bool.not_and]
      rw [if_pos (by omega), if_pos (by omega), if_pos (by omega), rd_nat h, rd_nat h', hn, List.drop_eq_getElem_cons h, List.drop_eq_getElem_cons h']
      by_cases e : l[i] = m[i]
      · rw [decide_eq_true e, if_neg (by decide), show wrap64 ((i : Int) + 1) = ((i + 1 : Nat) : Int) by unfold wrap64; omega, ih (i + 1) j (by omega) (by omega) (by omega)]
        exact congrArg some (decide_eq_decide.2 ⟨fun h => by rw [e, h], fun h => (List.cons.inj h).2⟩)
      · rw [decide_eq_false e, if_pos (by decide), decide_eq_false (fun h => e (List.cons.inj h).1)]
    · exact ih i (j + 1) (by omega) h2 (by omega)
theorem same_val (l m : List S32) (hl : l.length ≤ 4294967296) (k : Nat) (hk : l.length + 1 ≤ k) : graftwoodref05_Same.f k l m = some (decide (l = m)) := by
  unfold graftwoodref05_Same.f
  by_cases h : l.length = m.length
  · rw [if_pos (by omega)]
    have h2 := same_l0 l m hl h l.length 0 k (by omega) (Nat.zero_le _) hk
    rw [List.drop_zero, List.drop_zero] at h2
    exact h2
  · rw [if_neg (by omega), decide_eq_false (fun e => h (by rw [e]))]
end Go.Proofs.YtnknjhdpjjddeaaGreatDoor.Q
end

section
namespace Go.Proofs.YtnknjhdpjjddeaaGreatDoor.Q
open Go.Proofs.YtnknjhdpjjddeaaGreatDoor.QB.D
open Go Go.RowKit Go.Lib Go.Proofs.YtnknjhdpjjddeaaGreatDoorW.PrintWords Go.Proofs.YtnknjhdpjjddeaaGreatDoorW.PrintLast Go.Proofs.YtnknjhdpjjddeaaGreatDoorW.PrintMore Gw
set_option linter.unusedVariables false
set_option linter.unusedSimpArgs false
theorem less_val (k : Nat) (x y : S32) (hx : Brief x) (hy : Brief y) (gx : GoodN x) (gy : GoodN y) (hk : 900 ≤ k) : graftwoodref05_Less.f k x.f0 x.f1 y.f0 y.f1 = some (decide (ordN x y < 0)) := by
  have h0 : Small x.f0 := by have := hx.1; unfold Small; omega
  have h1 : Small y.f0 := by have := hy.1; unfold Small; omega
  unfold graftwoodref05_Less.f
  rw [rcmp1_val _ _ h0 h1 k (by have := hx.1; omega)]
  have hc : graftwoodref03_Cmp.f x.f1 y.f1 = some (verC (vOf (bs x.f1)) (vOf (bs y.f1))) := by
    unfold graftwoodref03_Cmp.f
    rw [if_pos ⟨⟨gx.2.1, gy.2.1⟩, gx.2.2, gy.2.2⟩]
  rw [hc]
  simp only [Option.bind_some]
  have ho : ordN x y = orI (lexC (bs x.f0) (bs y.f0)) (verC (vOf (bs x.f1)) (vOf (bs y.f1))) := rfl
  rw [ho]
  unfold orI
  by_cases c1 : lexC (bs x.f0) (bs y.f0) < 0
  · rw [if_pos c1, if_neg (by omega), decide_eq_true c1]
  · rw [if_neg c1]
    by_cases c2 : lexC (bs x.f0) (bs y.f0) = 0
    · rw [if_pos c2, if_pos c2]
    · rw [if_neg c2, if_neg c2, decide_eq_false c1]
end Go.Proofs.YtnknjhdpjjddeaaGreatDoor.Q
end

section
namespace Go.Proofs.YtnknjhdpjjddeaaGreatDoor.Q
open Go.Proofs.YtnknjhdpjjddeaaGreatDoor.QB.D
open Go Go.RowKit Go.Lib Go.Proofs.YtnknjhdpjjddeaaGreatDoorW.PrintWords Go.Proofs.YtnknjhdpjjddeaaGreatDoorW.PrintLast Go.Proofs.YtnknjhdpjjddeaaGreatDoorW.PrintMore Gw
set_option linter.unusedVariables false
set_option linter.unusedSimpArgs false
theorem ref5May_val (k : Nat) (x : S32) (hx : Brief x) (hk : 900 ≤ k) : graftwoodref05_May.f k x.f0 x.f1 = some (mayN x) := by
  have h0 : Small x.f0 := by have := hx.1; unfold Small; omega
  have h1 : Small x.f1 := by have := hx.2; unfold Small; omega
  unfold graftwoodref05_May.f
  rw [ref4May_tot _ h0 k (by have := hx.1; omega)]
  unfold graftwoodref03_May.f graftwoodref03_Split.f
  rw [if_pos h1]
  simp only [Option.bind_some]
  rw [splitV_ok]
  show _ = some (isPath (bs x.f0) && isVersion (bs x.f1))
  cases isPath (bs x.f0) <;> rfl
end Go.Proofs.YtnknjhdpjjddeaaGreatDoor.Q
end

section
namespace Go.Proofs.YtnknjhdpjjddeaaGreatDoor.Q
open Go.Proofs.YtnknjhdpjjddeaaGreatDoor.QB.D
open Go Go.RowKit Go.Lib Go.Proofs.YtnknjhdpjjddeaaGreatDoorW.PrintWords Go.Proofs.YtnknjhdpjjddeaaGreatDoorW.PrintLast Go.Proofs.YtnknjhdpjjddeaaGreatDoorW.PrintMore Gw
set_option linter.unusedVariables false
set_option linter.unusedSimpArgs false
theorem rchk_l0 (l : List S32) (hl : l.length ≤ 4294967296) (hb : ∀ x ∈ l, Brief x) : ∀ (n i k : Nat) (p : Option S32), l.length ≤ i + n → i ≤ l.length → n + 1000 ≤ k →
    (p = if i = 0 then none else l[i - 1]?) → (∀ q, p = some q → mayN q = true) → graftwoodref05_Check.l0 k l (i : Int) = some (chk p (l.drop i)) := by
  intro n
  induction n with
  | zero =>
    intro i k p h1 h2 hk hp hq
    obtain ⟨j, rfl⟩ : ∃ j, k = j + 1 := ⟨k - 1, by omega⟩
    have e : i = l.length := by omega
    subst e
    simp only [graftwoodref05_Check.l0]
    rw [if_neg (by omega), List.drop_length]
    cases p <;> rfl
  | succ n ih =>
    intro i k p h1 h2 hk hp hq
    obtain ⟨j, rfl⟩ : ∃ j, k = j + 1 := ⟨k - 1, by omega⟩
    by_cases hi : i < l.length
    · have hx := hb _ (List.getElem_mem hi)
      have hwr : wrap64 ((i : Int) + 1) = ((i + 1 : Nat) : Int) := by unfold wrap64; omega
      simp only [graftwoodref05_Check.l0]
      rw [if_pos (by omega), if_pos (by omega), rd_nat hi, ref5May_val j l[i] hx (by omega), List.drop_eq_getElem_cons hi]
      simp only [Option.bind_some, chk]
      cases hm : mayN l[i]
      · rfl
      · rw [if_pos rfl]
        have hnext : graftwoodref05_Check.l0 j l (wrap64 ((i : Int) + 1)) = some (chk (some l[i]) (l.drop (i + 1))) := by
          rw [hwr]
          refine ih (i + 1) j _ (by omega) (by omega) (by omega) ?_ ?_
          · rw [if_neg (by omega), Nat.add_sub_cancel, List.getElem?_eq_getElem hi]
          · intro q hqq
            injection hqq with hqq
            rw [← hqq]; exact hm
        by_cases h0 : i = 0
        · subst h0
          have hp' : p = none := by rw [hp]; rfl
          subst hp'
          rw [if_neg (by omega), hnext]
          rfl
        · have hi1 : i - 1 < l.length := by omega
          have hp' : p = some l[i - 1] := by rw [hp, if_neg h0, List.getElem?_eq_getElem hi1]
          subst hp'
          have hm1 := hq _ rfl
          have hx1 := hb _ (List.getElem_mem hi1)
          have hw1 : wrap64 ((i : Int) - 1) = ((i - 1 : Nat) : Int) := by unfold wrap64; omega
          rw [if_pos (by omega), hw1, if_pos (by omega), if_pos (by omega), rd_nat hi1, less_val j l[i - 1] l[i] hx1 hx (mayN_good hx1.tiny hm1) (mayN_good hx.tiny hm) (by omega)]
          simp only [Option.bind_some]
          by_cases ho : ordN l[i - 1] l[i] < 0
          · rw [decide_eq_true ho, if_pos rfl, hnext]
            rfl
          · rw [decide_eq_false ho, if_neg (by decide)]
            rfl
    · have e : i = l.length := by omega
      subst e
      simp only [graftwoodref05_Check.l0]
      rw [if_neg (by omega), List.drop_length]
      cases p <;> rfl
theorem rcheck_val (l : List S32) (hl : l.length ≤ 4294967296) (hb : ∀ x ∈ l, Brief x) (k : Nat) (hk : l.length + 1000 ≤ k) : graftwoodref05_Check.f k l = some (checkN l) := by
  have h := rchk_l0 l hl hb l.length 0 k none (by omega) (Nat.zero_le _) hk rfl (fun q h => by cases h)
  rw [List.drop_zero] at h
  exact h
end Go.Proofs.YtnknjhdpjjddeaaGreatDoor.Q
end

section
namespace Go.Proofs.YtnknjhdpjjddeaaGreatDoor.Q
open Go.Proofs.YtnknjhdpjjddeaaGreatDoor.QB.D
open Go Go.RowKit Go.Lib Go.Proofs.YtnknjhdpjjddeaaGreatDoorW.PrintWords Go.Proofs.YtnknjhdpjjddeaaGreatDoorW.PrintLast Go.Proofs.YtnknjhdpjjddeaaGreatDoorW.PrintMore Gw
set_option linter.unusedVariables false
set_option linter.unusedSimpArgs false
theorem has_l0 (l : List S32) (t : S32) (hl : l.length ≤ 4294967296) : ∀ (n i k : Nat), l.length ≤ i + n → i ≤ l.length → n + 1 ≤ k → graftwoodref05_Has.l0 k l (i : Int) t.f0 t.f1 = some (decide (t ∈ l.drop i)) := by
  intro n
  induction n with
  | zero =>
    intro i k h1 h2 hk
    obtain ⟨j, rfl⟩ : ∃ j, k = j + 1 := ⟨k - 1, by omega⟩
    have e : i = l.length := by omega
    subst e
    simp only [graftwoodref05_Has.l0]
    rw [if_neg (by omega), List.drop_length]
    rfl
  | succ n ih =>
    intro i k h1 h2 hk
    obtain ⟨j, rfl⟩ : ∃ j, k = j + 1 := ⟨k - 1, by omega⟩
    by_cases h : i < l.length
    · simp only [graftwoodref05_Has.l0]
      rw [if_pos (by omega), if_pos (by omega), rd_nat h, node_eqb, List.drop_eq_getElem_cons h]
      by_cases e : l[i] = t
      · rw [decide_eq_true e, if_pos rfl, decide_eq_true (by rw [e]; exact List.mem_cons_self)]
      · rw [decide_eq_false e, if_neg (by decide), show wrap64 ((i : Int) + 1) = ((i + 1 : Nat) : Int) by unfold wrap64; omega, ih (i + 1) j (by omega) (by omega) (by omega)]
        exact congrArg some (decide_eq_decide.2 ⟨fun h => List.mem_cons_of_mem _ h, fun h => (List.mem_cons.1 h).resolve_left (fun e2 => e e2.symm)⟩)
    · exact ih i (j + 1) (by omega) h2 (by omega)
theorem has_val (l : List S32) (t : S32) (hl : l.length ≤ 4294967296) (k : Nat) (hk : l.length + 1 ≤ k) : graftwoodref05_Has.f k l t.f0 t.f1 = some (decide (t ∈ l)) := by
  have h := has_l0 l t hl l.length 0 k (by omega) (Nat.zero_le _) hk
  rw [List.drop_zero] at h
  exact h
end Go.Proofs.YtnknjhdpjjddeaaGreatDoor.Q
end

section
namespace Go.Proofs.YtnknjhdpjjddeaaGreatDoor.Q
open Go.Proofs.YtnknjhdpjjddeaaGreatDoor.QB.D
open Go Go.RowKit Go.Lib Go.Proofs.YtnknjhdpjjddeaaGreatDoorW.PrintWords Go.Proofs.YtnknjhdpjjddeaaGreatDoorW.PrintLast Go.Proofs.YtnknjhdpjjddeaaGreatDoorW.PrintMore Gw
set_option linter.unusedVariables false
set_option linter.unusedSimpArgs false
theorem rminus_l0 (l m : List S32) (hl : l.length ≤ 4294967296) (hm : m.length ≤ 4294967296) : ∀ (n i k : Nat), l.length ≤ i + n → i ≤ l.length → n + m.length + 2 ≤ k →
    graftwoodref05_Minus.l0 k l m ((l.take i).filter (fun x => !decide (x ∈ m))) (i : Int) = some (l.filter (fun x => !decide (x ∈ m))) := by
  intro n
  induction n with
  | zero =>
    intro i k h1 h2 hk
    obtain ⟨j, rfl⟩ : ∃ j, k = j + 1 := ⟨k - 1, by omega⟩
    simp only [graftwoodref05_Minus.l0]
    rw [if_neg (by omega), List.take_of_length_le (by omega)]
  | succ n ih =>
    intro i k h1 h2 hk
    obtain ⟨j, rfl⟩ : ∃ j, k = j + 1 := ⟨k - 1, by omega⟩
    by_cases hi : i < l.length
    · have hwr : wrap64 ((i : Int) + 1) = ((i + 1 : Nat) : Int) := by unfold wrap64; omega
      have hlen : ((l.take i).filter (fun x => !decide (x ∈ m))).length ≤ i := Nat.le_trans (List.length_filter_le _ _) (by rw [List.length_take]; omega)
      simp only [graftwoodref05_Minus.l0]
      rw [if_pos (by omega), if_pos (by omega), rd_nat hi, has_val m l[i] hm j (by omega)]
      simp only [Option.bind_some]
      have h9 := ih (i + 1) j (by omega) (by omega) (by omega)
      rw [List.take_succ_eq_append_getElem hi, List.filter_append] at h9
      rw [hwr]
      by_cases e : l[i] ∈ m
      · rw [decide_eq_true e, if_pos rfl]
        rw [List.filter_cons_of_neg (by simp [e]), List.filter_nil, List.append_nil] at h9
        exact h9
      · rw [decide_eq_false e, if_neg (by decide), if_pos (by omega)]
        rw [List.filter_cons_of_pos (by simp [e]), List.filter_nil] at h9
        exact h9
    · exact ih i (j + 1) (by omega) h2 (by omega)
theorem rminus_val (l m : List S32) (hl : l.length ≤ 4294967296) (hm : m.length ≤ 4294967296) (k : Nat) (hk : l.length + m.length + 2 ≤ k) : graftwoodref05_Minus.f k l m = some (l.filter (fun x => !decide (x ∈ m))) :=
  rminus_l0 l m hl hm l.length 0 k (by omega) (Nat.zero_le _) hk
end Go.Proofs.YtnknjhdpjjddeaaGreatDoor.Q
end

section
namespace Go.Proofs.YtnknjhdpjjddeaaGreatDoor.Q
open Go.Proofs.YtnknjhdpjjddeaaGreatDoor.QB.D
open Go Go.RowKit Go.Lib Go.Proofs.YtnknjhdpjjddeaaGreatDoorW.PrintWords Go.Proofs.YtnknjhdpjjddeaaGreatDoorW.PrintLast Go.Proofs.YtnknjhdpjjddeaaGreatDoorW.PrintMore Gw
set_option linter.unusedVariables false
set_option linter.unusedSimpArgs false
theorem minus_true (k : Nat) (hk : 1200 ≤ k) (l m : List S32) : graftwoodlaw05_NodeMinus.f (k + 1) l m = some true := by
  unfold graftwoodlaw05_NodeMinus.f
  rw [fewN_val l _ (by omega), fewN_val m _ (by omega)]
  simp only [Option.bind_some]
  have hl := fewN_len l
  have hm := fewN_len m
  have bl := fewN_brief l
  have bm := fewN_brief m
  generalize fewN l = a at *
  generalize fewN m = b at *
  have hN : node_Minus.f a b = some (if checkN a = true ∧ checkN b = true then (a.filter (fun x => !decide (x ∈ b)), 0) else ([], 1)) := if_pos ⟨by omega, by omega, fun x h => (bl x h).tiny, fun x h => (bm x h).tiny⟩
  have hw := awake_val k (by omega)
  rw [hN, rcheck_val a (by omega) bl _ (by omega), rcheck_val b (by omega) bm _ (by omega)]
  simp only [Option.bind_some]
  have hs : graftwoodref05_Same.f k (a.filter (fun x => !decide (x ∈ b))) (a.filter (fun x => !decide (x ∈ b))) = some true := by
    have hf : (a.filter (fun x => !decide (x ∈ b))).length ≤ a.length := List.length_filter_le _ _
    rw [same_val _ _ (by omega) k (by omega), decide_eq_true rfl]
  cases ha : checkN a <;> cases hb : checkN b <;> simp [graftwoodlaw05_NodeMinus.j0, hw, rminus_val a b (by omega) (by omega) k (by omega), hs]
end Go.Proofs.YtnknjhdpjjddeaaGreatDoor.Q
end

section
namespace Go.Proofs.YtnknjhdpjjddeaaGreatDoor.Q
open Go Go.RowKit Go.ChangeShapes Go.WideShapes Go.Proofs.YtnknjhdpjjddeaaGreatDoorW.PrintWords
set_option linter.unusedVariables false
/-- What reads by type t, stands as kind d says; and what stands there is good. -/
def Opens {α : Type} (P : Program) (t : TypeId) (d : Kd α) (good : α → Prop) : Prop :=
  ∀ {H : Type} {enc : TypeId × Value → H} {w : World} {base fuel : Nat} {held : Bool} {cs : List Value} {x : DataW H × List MemPlace},
    DataW.trod enc P w base (fun _ => true) held fuel t cs = some x → ∃ y, d.K w y cs ∧ good y
theorem opens_string {P : Program} {t : TypeId} (h : P.underlying t = some .string) : Opens P t Kd.string (fun s => s.size ≤ maxLen) := by
  intro H enc w base fuel held cs x hx
  obtain ⟨s, rfl, _, hs⟩ := DataW.trod_string h hx
  exact ⟨s, rfl, hs⟩
theorem opens_int {P : Program} {t : TypeId} {k : IntKind} (h : P.underlying t = some (.int k)) : Opens P t (Kd.int k) (fun n => (Lit.int k n).wf = true) := by
  intro H enc w base fuel held cs x hx
  obtain ⟨s, rfl, _, hs⟩ := DataW.trod_int h hx
  exact ⟨s, rfl, hs⟩
theorem opens_bool {P : Program} {t : TypeId} (h : P.underlying t = some .bool) : Opens P t Kd.bool (fun _ => True) := by
  intro H enc w base fuel held cs x hx
  obtain ⟨s, rfl, _⟩ := DataW.trod_bool h hx
  exact ⟨s, rfl, trivial⟩
def goodL {α : Type} (good : α → Prop) (l : List α) : Prop := l.length ≤ maxLen ∧ ∀ x ∈ l, good x
theorem opens_slice {α : Type} [Inhabited α] {P : Program} {t e : TypeId} {d : Kd α} {good : α → Prop} (h : P.underlying t = some (.slice e)) (hc : P.cellsOf e = d.sz) (hd : Opens P e d good) :
    Opens P t (Kd.slice e d) (goodL good) := by
  intro H enc w base fuel held cs x hx
  rcases Go.Deep.open_slice h hx with ⟨rfl, _⟩ | ⟨a, len, cap, m, n, D, Pl, rfl, hb, hl, hm, hmm, rfl, hall⟩
  · exact ⟨[], ⟨none, 0, rfl, Nat.le_refl _, rfl, Nat.zero_le _, fun q => absurd q (by simp)⟩, by simp [goodL]⟩
  have each : ∀ i, i < m → ∃ y : α, (∃ c, d.K w y c ∧ ∀ (j : Nat) u, c[j]? = some u → w.cell? (a.add (i * d.sz + j)) = some u) ∧ good y := by
    intro i hi
    obtain ⟨cs', h1, h2⟩ := hall i hi
    obtain ⟨y, hy, hg⟩ := hd h2
    obtain ⟨_, hlen, hcell⟩ := World.cells?_some h1
    refine ⟨y, ⟨cs', hy, fun j u hu => ?_⟩, hg⟩
    have hj : j < P.cellsOf e := by
      rw [← hlen]
      exact (List.getElem?_eq_some_iff.1 hu).1
    have e1 := hcell j hj
    rw [Go.Deep.add_add, hu, hc] at e1
    exact e1
  obtain ⟨f, hf⟩ := Go.Deep.choose_lt each
  have hlm : len ≤ m := by simp at hmm; omega
  have hml : maxLen ≤ 9223372036854775807 := by decide
  refine ⟨(List.range len).map f, ⟨some a, cap, by simp, by simpa using hl, ?_⟩, by simp; omega, ?_⟩
  · refine ⟨rfl, by simp; omega, fun _ => ⟨a, rfl, fun j p hp => ?_⟩⟩
    obtain ⟨hj, rfl⟩ := List.getElem?_eq_some_iff.1 hp
    simp only [List.length_map, List.length_range] at hj
    obtain ⟨⟨c, h1, h2⟩, _⟩ := hf j (by omega)
    exact ⟨c, d.K_len h1, by simp; exact h1, h2⟩
  · intro x hx
    obtain ⟨i, hi, rfl⟩ := List.mem_map.1 hx
    exact (hf i (by have := List.mem_range.1 hi; omega)).2
/-- Fields, from an offset on. -/
def OpensF {α : Type} (P : Program) (fs : List Field) (off : Nat) (d : Kd α) (good : α → Prop) : Prop :=
  ∀ {H : Type} {enc : TypeId × Value → H} {w : World} {base fuel : Nat} {held : Bool} {cs : List Value}, cs.length = d.sz →
    (∀ f ∈ fs, ∃ z, DataW.trod enc P w base (fun _ => true) held fuel f.type ((cs.drop (f.offset - off)).take (P.cellsOf f.type)) = some z) → (∀ f ∈ fs, off ≤ f.offset) → ∃ y, d.K w y cs ∧ good y
theorem opensF_one {α : Type} {P : Program} {f : Field} {off : Nat} {d : Kd α} {good : α → Prop} (ho : f.offset = off) (hc : P.cellsOf f.type = d.sz) (h : Opens P f.type d good) : OpensF P [f] off d good := by
  intro H enc w base fuel held cs hl hf _
  obtain ⟨z, hz⟩ := hf f (by simp)
  rw [ho, Nat.sub_self, List.drop_zero, hc, ← hl, List.take_length] at hz
  exact h hz
theorem opensF_cons {α β : Type} {P : Program} {f : Field} {fs : List Field} {off : Nat} {a : Kd α} {b : Kd β} {good : α → Prop} {good' : β → Prop} (ho : f.offset = off) (hc : P.cellsOf f.type = a.sz) (h : Opens P f.type a good)
    (hr : OpensF P fs (off + a.sz) b good') (hfs : ∀ g ∈ fs, off + a.sz ≤ g.offset) : OpensF P (f :: fs) off (Kd.pair a b) (fun x => good x.1 ∧ good' x.2) := by
  intro H enc w base fuel held cs hl hf _
  have hl2 : cs.length = a.sz + b.sz := hl
  obtain ⟨z, hz⟩ := hf f (by simp)
  rw [ho, Nat.sub_self, List.drop_zero, hc] at hz
  obtain ⟨y, hy, g1⟩ := h hz
  obtain ⟨y', hy', g2⟩ := hr (cs := cs.drop a.sz) (by rw [List.length_drop]; omega) (fun g hg => by
    obtain ⟨z, hz⟩ := hf g (List.mem_cons_of_mem _ hg)
    have := hfs g hg
    rw [List.drop_drop]
    have e : a.sz + (g.offset - (off + a.sz)) = g.offset - off := by omega
    rw [e]
    exact ⟨z, hz⟩) hfs
  exact ⟨(y, y'), ⟨cs.take a.sz, cs.drop a.sz, (List.take_append_drop _ _).symm, hy, hy'⟩, g1, g2⟩
theorem opens_struct {α β : Type} {P : Program} {t : TypeId} {fs : Array Field} {d : Kd α} {good : α → Prop} (f : β → α) (g : α → β) (hfg : ∀ x, f (g x) = x) (h : P.underlying t = some (.struct fs)) (hc : P.cellsOf t = d.sz)
    (hF : OpensF P fs.toList 0 d good) : Opens P t (Kd.iso d f) (fun x => good (f x)) := by
  intro H enc w base fuel held cs x hx
  obtain ⟨xs, n, rfl, rfl, hl, hxl, hall⟩ := DataW.trod_struct h hx
  obtain ⟨y, hy, hg⟩ := hF (cs := cs) (by rw [hl, hc]) (fun q hq => by
    obtain ⟨i, hi, rfl⟩ := List.mem_iff_getElem.1 hq
    have e := hall i fs[i] (by simp)
    have hi' : i < xs.length := by rw [hxl]; simpa using hi
    rw [List.getElem?_eq_getElem hi'] at e
    exact ⟨_, by simpa using e⟩) (fun _ _ => Nat.zero_le _)
  refine ⟨g y, ?_, ?_⟩
  · show d.K w (f (g y)) cs
    rw [hfg]; exact hy
  · show good (f (g y))
    rw [hfg]; exact hg
/-- An argument that is a slice. -/
theorem open_list {α : Type} {P : Program} {t e : TypeId} {d : Kd α} {good : List α → Prop} (ht : P.underlying t = some (.slice e)) (hO : Opens P t (Kd.slice e d) good) {H : Type} {enc : TypeId × Value → H} {w : World} {base b0 : Nat} {r : Reach} {held : Bool} {v : Value} {dt : DataW H} {ps : List MemPlace}
    (hv : Value.okWide P w r b0 t v) (h : DataW.Trod enc P w base (fun _ => true) held t v dt ps) : ∃ (A : Option Addr) (l : List α) (c : Nat), v = .slice A l.length c ∧ l.length ≤ c ∧ d.C w A l.length l ∧ good l := by
  obtain ⟨fuel, hf⟩ := h
  obtain ⟨l, ⟨A, c, hcs, hlc, hC⟩, hg⟩ := hO hf
  obtain ⟨a, n, c', rfl⟩ := okWide_slice ht hv
  simp [Value.cells] at hcs
  obtain ⟨rfl, rfl, rfl⟩ := hcs
  exact ⟨_, l, _, rfl, hlc, hC, hg⟩
end Go.Proofs.YtnknjhdpjjddeaaGreatDoor.Q
end
