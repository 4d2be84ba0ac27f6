/- Part 8 of this claim: several texts one behind the other: FlackBy, KBy, NSets, FlackMissing, KOf, PLack. What each shows stands in its theorems; conditions: sizes of texts and lists, as the functions' definitions say. -/
import Derived.Test.YtffcbfclpfchnaaGreatDoorMLackBy0
import Derived.Test.YtffcbfclpfchnaaGreatDoorMLackBy5
import Derived.Test.YtffcbfclpfchnaaGreatDoorMLackBy6
import Derived.Test.YtffcbfclpfchnaaGreatDoorMLackBy7
import Derived.Test.YtffcbfclpfchnaaGreatDoorMLackBy2
import Derived.Test.YtffcbfclpfchnaaGreatDoorMLackBy3
section
namespace Go.Proofs.YtffcbfclpfchnaaGreatDoor.Q
open Go.RowKit Go.Proofs.YtffcbfclpfchnaaGreatDoorW.PrintWords Go.Proofs.YtffcbfclpfchnaaGreatDoorW.PrintLast Go.Proofs.YtffcbfclpfchnaaGreatDoorW.PrintMore
attribute [local go_sem] max2_int min2_int max_two min_two max_three min_three max_four min_four   -- for this text's walks alone
set_option linter.unusedVariables false
set_option linter.unusedSimpArgs false
attribute [local go_sem high] eqA42
/-! ### lack_By: function 18 -/
mutual
def lack_By.j0 : Nat → List (S51) → Bool → ByteArray → ByteArray → Option ((List (S42)) × Bool × Int)
  | 0, _, _, _, _ => none
  | k + 1, x0, x19, x183000, x183001 => if x19 = true then (some (([] : List (S42)), false, 1)) else (lack_By.l0 k ([] : List (S42)) false x0 (x0.length : Int) 0 x183000 x183001)
def lack_By.l0 : Nat → List (S42) → Bool → List (S51) → Int → Int → ByteArray → ByteArray → Option ((List (S42)) × Bool × Int)
  | 0, _, _, _, _, _, _, _ => none
  | k + 1, x7, x8, x20, x21, x22, x183000, x183001 => if x22 < x21 then (if 0 ≤ x22 then (if x22 < (x20.length : Int) then (if (!((((rd_T51 x20 x22).f1.f0).toList) == x183000.toList) || (!((((rd_T51 x20 x22).f1.f1).toList) == x183001.toList))) = true then (lack_By.l0 k x7 x8 x20 x21 (wrap64 (x22 + 1)) x183000 x183001) else (if ((((rd_T51 x20 x22).f0.f0).toList) == ([] : List UInt8) && ((((rd_T51 x20 x22).f0.f1).toList) == ([] : List UInt8))) = true then (lack_By.l0 k x7 true x20 x21 (wrap64 (x22 + 1)) x183000 x183001) else (if x7.length < 4398046511104 then (lack_By.l0 k (x7 ++ [(⟨(rd_T51 x20 x22).f0.f0, (rd_T51 x20 x22).f0.f1⟩ : S42)]) x8 x20 x21 (wrap64 (x22 + 1)) x183000 x183001) else (none)))) else (none)) else (none)) else ((node_Set.f x7).bind fun bt185 => (some (bt185.1, x8, bt185.2)))
end
def lack_By.f (k : Nat) (l0 : List (S51)) (a1_0 : ByteArray) (a1_1 : ByteArray) : Option ((List (S42)) × Bool × Int) := (lack_Check.f l0).bind fun t183 => (if t183 = 0 then ((node_May.f k a1_0 a1_1).bind fun t184 => (lack_By.j0 k l0 (!t184) a1_0 a1_1)) else (lack_By.j0 k l0 true a1_0 a1_1))
theorem lack_By.mono_l : ∀ k, (∀ y0 y1 y2 y3, LeO (lack_By.j0 k y0 y1 y2 y3) (lack_By.j0 (k + 1) y0 y1 y2 y3)) ∧ (∀ y0 y1 y2 y3 y4 y5 y6, LeO (lack_By.l0 k y0 y1 y2 y3 y4 y5 y6) (lack_By.l0 (k + 1) y0 y1 y2 y3 y4 y5 y6))
  | 0 => ⟨fun _ _ _ _ r h => by simp [lack_By.j0] at h, fun _ _ _ _ _ _ _ r h => by simp [lack_By.l0] at h⟩
  | k + 1 => by
    obtain ⟨ih0, ih1⟩ := lack_By.mono_l k
    refine ⟨?_, ?_⟩
    · intro y0 y1 y2 y3
      unfold lack_By.j0
      repeat' first
      | (with_reducible exact ih0 _ _ _ _)
      | (with_reducible exact ih1 _ _ _ _ _ _ _)
      | (with_reducible exact node_May.mono _ _ _)
      | (with_reducible exact LeO.refl _)
      | (with_reducible exact LeO.none _)
      | (with_reducible refine LeO.ite ?_ ?_)
      | (with_reducible refine LeO.bind ?_ (fun _ => ?_))
      | exact ih0 _ _ _ _
      | exact ih1 _ _ _ _ _ _ _
      | exact node_May.mono _ _ _
      | exact LeO.none _
      | refine LeO.ite ?_ ?_
      | refine LeO.bind ?_ (fun _ => ?_)
    · intro y0 y1 y2 y3 y4 y5 y6
      unfold lack_By.l0
      repeat' first
      | (with_reducible exact ih0 _ _ _ _)
      | (with_reducible exact ih1 _ _ _ _ _ _ _)
      | (with_reducible exact node_May.mono _ _ _)
      | (with_reducible exact LeO.refl _)
      | (with_reducible exact LeO.none _)
      | (with_reducible refine LeO.ite ?_ ?_)
      | (with_reducible refine LeO.bind ?_ (fun _ => ?_))
      | exact ih0 _ _ _ _
      | exact ih1 _ _ _ _ _ _ _
      | exact node_May.mono _ _ _
      | exact LeO.none _
      | refine LeO.ite ?_ ?_
      | refine LeO.bind ?_ (fun _ => ?_)
theorem lack_By.mono : ∀ a0 a1 a2 k, LeO (lack_By.f k a0 a1 a2) (lack_By.f (k + 1) a0 a1 a2) := by
  intro a0 a1 a2 k
  obtain ⟨ih0, ih1⟩ := lack_By.mono_l k
  unfold lack_By.f
  repeat' first
      | (with_reducible exact ih0 _ _ _ _)
      | (with_reducible exact ih1 _ _ _ _ _ _ _)
      | (with_reducible exact node_May.mono _ _ _)
      | (with_reducible exact LeO.refl _)
      | (with_reducible exact LeO.none _)
      | (with_reducible refine LeO.ite ?_ ?_)
      | (with_reducible refine LeO.bind ?_ (fun _ => ?_))
      | exact ih0 _ _ _ _
      | exact ih1 _ _ _ _ _ _ _
      | exact node_May.mono _ _ _
      | exact LeO.none _
      | refine LeO.ite ?_ ?_
      | refine LeO.bind ?_ (fun _ => ?_)
set_option maxHeartbeats 8000000 in
set_option maxRecDepth 100000 in
theorem lack_By.calls (k : Nat) (A0 : Option Addr) (c0 : Nat) (l0 : List (S51)) (a1_0 : ByteArray) (a1_1 : ByteArray) (r1 : List (S42)) (r2 : Bool) (r3 : Int) (w : World) (hr0 : Kd.C k51 w A0 l0.length l0) (hc0 : l0.length ≤ c0) (h : lack_By.f k l0 a1_0 a1_1 = some (r1, r2, r3)) :
    Calls Tryz.prog 18 #[.slice A0 l0.length c0, .agg #[.string a1_0, .string a1_1]] w fun e w' => ∃ v0_ : Value, e = .returned (.tuple #[v0_, .bool r2, .int .i64 r3]) ∧ Kd.R k42 42 w' w.heap.size (fun _ => True) v0_ r1 ∧ Below w.heap.size w w' := by
  have hu42 := Tryz.underlying42
  have hu51 := Tryz.underlying51
  have HR0 := Aside0.mk hr0
  have HC0 := Aside0.mk hc0
  clear hr0 hc0
  have HB := Aside0.mk (Below.refl w.heap.size w)
  have H : ((lack_Check.f l0).bind fun t183 => (if t183 = 0 then ((node_May.f k a1_0 a1_1).bind fun t184 => (lack_By.j0 k l0 (!t184) a1_0 a1_1)) else (lack_By.j0 k l0 true a1_0 a1_1))) = some (r1, r2, r3) := h
  clear h
  have HC3 := Aside0.mk H
  clear H
  go_enter Tryz.func18, Tryz.ntmps18
  go_upto_region 1 with (first | ((with_reducible refine gate_dst (N := 3) rfl ?_); refine box_event ?hg (N := 3) ?hd (cs := #[.string a1_0, .string a1_1]) (t := 42) ?hr ?_; (case hd => rfl); (case hg => rfl); (case hr => first | (go_simp; done) | (go_simp; rfl)); intro gb182 hg w4 hbox hb; have n0_ := Aside0.mk (below_step (by repeat (first | (with_reducible first | exact HB.out | apply below_alloc | apply pw_below_drewN | apply below_drew1) | exact HB.out)) hb); have n1_ := Aside0.mk (hbox); have n2_ := Aside0.mk ((by rw [hg]; exact (below_size (by repeat (first | (with_reducible first | exact HB.out | apply below_alloc | apply pw_below_drewN | apply below_drew1) | exact HB.out))) : w.heap.size ≤ gb182)); have n3_ := Aside0.mk ((by rw [hg]; exact (below_size (by repeat (first | (with_reducible first | exact HB.out | apply below_alloc | apply pw_below_drewN | apply below_drew1) | exact HB.out))) : w.heap.size ≤ gb182)); clear HB; have HB := n0_; have BK182 := n1_; have GW182 := n2_; have GE182 := n3_; clear n0_ n1_ n2_ n3_; clear hb hbox hg))
  (try simp only [Act.put, List.setIfInBounds_toArray, List.set_cons_zero, List.set_cons_succ])
  go_cut [19] (fun v19 wc => ∃ (kq : Nat) (x19_2 : Bool), v19 = .bool x19_2 ∧ Aside0 (lack_By.j0 kq l0 x19_2 a1_0 a1_1 = some (r1, r2, r3)) ∧ Aside0 (kq ≤ k) ∧ Aside0 (wc.heap[gb182]? = some (.cells #[.string a1_0, .string a1_1] 42 (0, 0))) ∧ Aside0 (Below w.heap.size w wc))
  case first =>
    have H := HC3.out
    clear HC3
    replace H := Option.bind_eq_some_iff.mp H
    obtain ⟨t183, A50, H⟩ := H
    replace H : (if t183 = 0 then ((node_May.f k a1_0 a1_1).bind fun t184 => (lack_By.j0 k l0 (!t184) a1_0 a1_1)) else (lack_By.j0 k l0 true a1_0 a1_1)) = some (r1, r2, r3) := H
    have A5 := Aside0.mk A50
    clear A50
    by_cases c6 : t183 = 0
    · rw [if_pos c6] at H
      have c6b0 : (t183 == 0) = true := beq_iff_eq.mpr c6
      have c6b1 : (t183 != 0) = false := bne_eq_false_iff_eq.mpr c6
      clear c6
      (first | rw [c6b0] | (simp only [i64_w, i32_w]; rw [c6b0]) | skip)
      replace H := Option.bind_eq_some_iff.mp H
      obtain ⟨t184, A70, H⟩ := H
      replace H : (lack_By.j0 k l0 (!t184) a1_0 a1_1) = some (r1, r2, r3) := H
      have A7 := Aside0.mk A70
      clear A70
      have H' := Aside0.mk H
      clear H
      go_wp2_with (first | ((with_reducible refine gate_callee (f := 9) rfl ?_); refine goesL_ (some 13) rfl rfl Tryz.func9 (by kernel_rfl) rfl #[.slice A0 l0.length c0] rfl (by (try simp only [List.map_toArray, List.map_cons, List.map_nil]); first | done | rfl | (simp only [List.length_drop, List.length_take]; rfl)) ?_; (with_reducible refine (lack_Check.calls _ _ l0 t183 _ ?side1 ?side2 A5.out).mono ?_); (case side1 => repeat (first | exact (Kd.C_below HR0.out HB.out) | (with_reducible refine Kd.C_alloc ?_ _) | (with_reducible refine Kd.C_drewN ?_ _) | (with_reducible refine Kd.C_drew ?_))); (case side2 => exact HC0.out); rintro e w8 ⟨rfl, hb⟩; refine ⟨_, rfl, ?_⟩; have n0_ := Aside0.mk (blk_below (g := gb182) (o := .cells #[.string a1_0, .string a1_1] 42 (0, 0)) (by (with_reducible repeat (first | refine blk_drewN ?_ _ | refine blk_drew ?_ | refine blk_alloc ?_ _)); exact BK182.out) hb); have n1_ := Aside0.mk (below_step (by repeat (first | (with_reducible first | exact HB.out | apply below_alloc | apply pw_below_drewN | apply below_drew1 | refine below_set ?_ GE182.out) | exact HB.out)) hb); clear BK182; clear HB; have BK182 := n0_; have HB := n1_; clear n0_ n1_; (try clear hb); (try clear hb2); (try clear hk); (try clear hi); have hcz9_0 : w8.cell? ⟨gb182, 0, none⟩ = some (.string a1_0) := (blk_cell BK182.out 0).trans rfl; have hcz9_1 : w8.cell? ⟨gb182, 1, none⟩ = some (.string a1_1) := (blk_cell BK182.out 1).trans rfl; have hfz9_0 := blk_frozen BK182.out 0; have hfz9_1 := blk_frozen BK182.out 1) | (go_at_call 27; (with_reducible refine (node_May.calls k a1_0 a1_1 t184 _ A7.out).mono ?_); rintro e w10 ⟨rfl, hb⟩; have n0_ := Aside0.mk (blk_below (g := gb182) (o := .cells #[.string a1_0, .string a1_1] 42 (0, 0)) (by (with_reducible repeat (first | refine blk_drewN ?_ _ | refine blk_drew ?_ | refine blk_alloc ?_ _)); exact BK182.out) hb); have n1_ := Aside0.mk (below_step (by repeat (first | (with_reducible first | exact HB.out | apply below_alloc | apply pw_below_drewN | apply below_drew1 | refine below_set ?_ GE182.out) | exact HB.out)) hb); clear BK182; clear HB; have BK182 := n0_; have HB := n1_; clear n0_ n1_; (try clear hb); (try clear hb2); (try clear hk); (try clear hi)))
      go_meet
      case rel => exact ⟨_, (!t184), (by first | rfl | (simp; done) | (simp [*]; done)), H', ⟨by first | omega | exact Nat.le_refl _⟩, ⟨by (with_reducible repeat (first | refine blk_drewN ?_ _ | refine blk_drew ?_ | refine blk_alloc ?_ _)); exact BK182.out⟩, ⟨by repeat (first | (with_reducible first | exact HB.out | apply below_alloc | apply pw_below_drewN | apply below_drew1 | refine below_set ?_ GE182.out) | exact HB.out)⟩⟩
    · rw [if_neg c6] at H
      have c6b0 : (t183 == 0) = false := beq_eq_false_iff_ne.mpr c6
      have c6b1 : (t183 != 0) = true := bne_iff_ne.mpr c6
      (first | rw [c6b0] | (simp only [i64_w, i32_w]; rw [c6b0]) | skip)
      have H' := Aside0.mk H
      clear H
      go_wp2_with (first | ((with_reducible refine gate_callee (f := 9) rfl ?_); refine goesL_ (some 13) rfl rfl Tryz.func9 (by kernel_rfl) rfl #[.slice A0 l0.length c0] rfl (by (try simp only [List.map_toArray, List.map_cons, List.map_nil]); first | done | rfl | (simp only [List.length_drop, List.length_take]; rfl)) ?_; (with_reducible refine (lack_Check.calls _ _ l0 t183 _ ?side1 ?side2 A5.out).mono ?_); (case side1 => repeat (first | exact (Kd.C_below HR0.out HB.out) | (with_reducible refine Kd.C_alloc ?_ _) | (with_reducible refine Kd.C_drewN ?_ _) | (with_reducible refine Kd.C_drew ?_))); (case side2 => exact HC0.out); rintro e w11 ⟨rfl, hb⟩; refine ⟨_, rfl, ?_⟩; have n0_ := Aside0.mk (blk_below (g := gb182) (o := .cells #[.string a1_0, .string a1_1] 42 (0, 0)) (by (with_reducible repeat (first | refine blk_drewN ?_ _ | refine blk_drew ?_ | refine blk_alloc ?_ _)); exact BK182.out) hb); have n1_ := Aside0.mk (below_step (by repeat (first | (with_reducible first | exact HB.out | apply below_alloc | apply pw_below_drewN | apply below_drew1 | refine below_set ?_ GE182.out) | exact HB.out)) hb); clear BK182; clear HB; have BK182 := n0_; have HB := n1_; clear n0_ n1_; (try clear hb); (try clear hb2); (try clear hk); (try clear hi)))
      go_meet
      case rel => exact ⟨_, (true), (by first | rfl | (simp; done) | (simp [*]; done)), H', ⟨by first | omega | exact Nat.le_refl _⟩, ⟨by (with_reducible repeat (first | refine blk_drewN ?_ _ | refine blk_drew ?_ | refine blk_alloc ?_ _)); exact BK182.out⟩, ⟨by repeat (first | (with_reducible first | exact HB.out | apply below_alloc | apply pw_below_drewN | apply below_drew1 | refine below_set ?_ GE182.out) | exact HB.out)⟩⟩
  case rest =>
    clear HC3
    try clear c1
    try clear p2
    try clear c6
    try clear c6b0
    try clear c6b1
    try clear c9
    try clear hcz9_0
    try clear hcz9_1
    try clear hfz9_0
    try clear hfz9_1
    obtain ⟨kq, x19_2, rfl, HA, HJ2, BK182, HB⟩ := hcut
    cases kq with
    | zero => exact absurd HA.out (by simp [lack_By.j0])
    | succ kj2 =>
      have H := HA.out
      clear HA
      simp only [lack_By.j0] at H
      by_cases c12 : x19_2 = true
      · subst c12
        have H1 : (some (([] : List (S42)), false, 1)) = some (r1, r2, r3) := by rw [if_pos rfl] at H; exact H
        clear H
        have H := H1
        clear H1
        simp only [Option.some.injEq, Prod.mk.injEq] at H
        obtain ⟨rfl, rfl, rfl⟩ := H
        go_wp2
        go_ret3
        exact ⟨_, by first | rfl | (simp [errW_none, errW_some] <;> rfl) | (simp [*, errW_none, errW_some] <;> rfl), by first | exact Kd.R_nil _ _ _ _ _ | exact Kd.N_nil _ _ _ _ _ | exact Kd.V_nil _ _ _ _ _ | exact Kd.Q_nil _ _ _ _ _ | exact Kd.S_nil _ _ _ _ _, by repeat (first | (with_reducible first | exact HB.out | apply below_alloc | apply pw_below_drewN | apply below_drew1 | refine below_set ?_ GE182.out) | exact HB.out)⟩
      · replace c12 := Bool.eq_false_iff.mpr c12
        subst c12
        have H1 : (lack_By.l0 kj2 ([] : List (S42)) false l0 (l0.length : Int) 0 a1_0 a1_1) = some (r1, r2, r3) := by rw [if_neg (show ¬ (false = true) by decide)] at H; exact H
        clear H
        have H := H1
        clear H1
        have H' := Aside0.mk H
        clear H
        go_wp2
        go_loopg [7, 8, 22] kj2 (fun kq v7 v8 v22 w' => ∃ (x7_2 : List (S42)) (x8_2 : Bool) (x22_2 : Int), v8 = .bool x8_2 ∧ v22 = .int .i64 x22_2 ∧ Aside0 (lack_By.l0 kq x7_2 x8_2 l0 (l0.length : Int) x22_2 a1_0 a1_1 = some (r1, r2, r3)) ∧ Aside0 (kq ≤ kj2) ∧ Aside0 (Kd.R k42 42 w' w.heap.size (fun k_ => k_ ≠ gb182) v7 x7_2) ∧ Aside0 (w'.heap[gb182]? = some (.cells #[.string a1_0, .string a1_1] 42 (0, 0))) ∧ Aside0 (Below w.heap.size w w'))
        case atStart => exact ⟨(([] : List (S42))), (false), (0), (by first | rfl | (simp; done) | (simp [*]; done)), (by first | rfl | (simp; done) | (simp [*]; done)), H', ⟨Nat.le_refl _⟩, ⟨by first | exact Kd.R_nil _ _ _ _ _ | exact Kd.N_nil _ _ _ _ _ | exact Kd.V_nil _ _ _ _ _ | exact Kd.Q_nil _ _ _ _ _ | exact Kd.S_nil _ _ _ _ _⟩, ⟨by (with_reducible repeat (first | refine blk_drewN ?_ _ | refine blk_drew ?_ | refine blk_alloc ?_ _)); exact BK182.out⟩, ⟨by repeat (first | (with_reducible first | exact HB.out | apply below_alloc | apply pw_below_drewN | apply below_drew1 | refine below_set ?_ GE182.out) | exact HB.out)⟩⟩
        case round =>
          clear H'
          try clear c1
          try clear p2
          try clear c6
          try clear c6b0
          try clear c6b1
          try clear c9
          try clear c12
          try clear hcz9_0
          try clear hcz9_1
          try clear hfz9_0
          try clear hfz9_1
          try clear p2
          obtain ⟨x7_2, x8_2, x22_2, rfl, rfl, HA, HK2, HO_7, BK182, HB⟩ := hrel
          cases gk with
          | zero => exact absurd HA.out (by simp [lack_By.l0])
          | succ k2 =>
            have H := HA.out
            clear HA
            simp only [lack_By.l0] at H
            by_cases c13 : x22_2 < (l0.length : Int)
            · rw [if_pos c13] at H
              have c13b0 : decide (x22_2 < (l0.length : Int)) = true := decide_eq_true c13
              clear c13
              by_cases c14 : 0 ≤ x22_2
              · rw [if_pos c14] at H
                have c14b0 : decide (0 ≤ x22_2) = true := decide_eq_true c14
                clear c14
                by_cases c15 : x22_2 < (l0.length : Int)
                · rw [if_pos c15] at H
                  have c15b0 : decide (x22_2 < (l0.length : Int)) = true := decide_eq_true c15
                  clear c15
                  by_cases c16 : (!((((rd_T51 l0 x22_2).f1.f0).toList) == a1_0.toList) || (!((((rd_T51 l0 x22_2).f1.f1).toList) == a1_1.toList))) = true
                  · rw [if_pos c16] at H
                    have c16b0 : (!((((rd_T51 l0 x22_2).f1.f0).toList) == a1_0.toList) || (!((((rd_T51 l0 x22_2).f1.f1).toList) == a1_1.toList))) = true := c16
                    clear c16
                    have H' := Aside0.mk H
                    clear H
                    have p189 : 0 ≤ (x22_2 : Int) := of_decide_eq_true (by first | (with_reducible assumption) | assumption)
                    have q189 : x22_2 < (l0.length : Int) := of_decide_eq_true (by first | (with_reducible assumption) | assumption)
                    obtain ⟨ad189, e189, hx189_0, hx189_1, hx189_2, hx189_3⟩ := at_T51 HR0.out x22_2 p189 q189
                    cases e189
                    replace hx189_0 := (HB.out.cell (World.block_lt_of_cell? w _ hx189_0)).trans hx189_0
                    replace hx189_1 := (HB.out.cell (World.block_lt_of_cell? w _ hx189_1)).trans hx189_1
                    replace hx189_2 := (HB.out.cell (World.block_lt_of_cell? w _ hx189_2)).trans hx189_2
                    replace hx189_3 := (HB.out.cell (World.block_lt_of_cell? w _ hx189_3)).trans hx189_3
                    replace p189 := eq_true p189
                    replace q189 := eq_true q189
                    go_wp2_with (first | ((with_reducible refine gate_dst (N := 10) rfl ?_); refine box_event ?hg (N := 10) ?hd (cs := #[.string (⟨#[]⟩ : ByteArray), .string (⟨#[]⟩ : ByteArray), .string (⟨#[]⟩ : ByteArray), .string (⟨#[]⟩ : ByteArray)]) (t := 51) ?hr ?_; (case hd => rfl); (case hg => rfl); (case hr => first | (go_simp; done) | (go_simp; rfl)); intro gb190 hg w17 hbox hb; have n0_ := Aside0.mk (Kd.R_below (by (with_reducible repeat (first | apply Kd.R_alloc | apply Kd.R_drewN | apply Kd.R_drew)); exact HO_7.out) hb); have n1_ := Aside0.mk (blk_below (g := gb182) (o := .cells #[.string a1_0, .string a1_1] 42 (0, 0)) (by (with_reducible repeat (first | refine blk_drewN ?_ _ | refine blk_drew ?_ | refine blk_alloc ?_ _)); exact BK182.out) hb); have n2_ := Aside0.mk (below_step (by repeat (first | (with_reducible first | exact HB.out | apply below_alloc | apply pw_below_drewN | apply below_drew1 | refine below_set ?_ GE182.out) | exact HB.out)) hb); have n3_ := Aside0.mk (hbox); have n4_ := Aside0.mk ((by rw [hg]; exact (below_size (by repeat (first | (with_reducible first | exact HB.out | apply below_alloc | apply pw_below_drewN | apply below_drew1 | refine below_set ?_ GE182.out) | exact HB.out))) : w.heap.size ≤ gb190)); have n5_ := Aside0.mk ((by rw [hg]; exact (below_size (by repeat (first | (with_reducible first | exact HB.out | apply below_alloc | apply pw_below_drewN | apply below_drew1 | refine below_set ?_ GE182.out) | exact HB.out))) : w.heap.size ≤ gb190)); have n6_ := Aside0.mk ((by rw [hg]; exact Nat.ne_of_lt (blk_lt (g := gb182) (o := .cells #[.string a1_0, .string a1_1] 42 (0, 0)) (by (with_reducible repeat (first | refine blk_drewN ?_ _ | refine blk_drew ?_ | refine blk_alloc ?_ _)); exact BK182.out)) : gb182 ≠ gb190)); have n7_ := Aside0.mk ((by rw [hg]; exact Nat.ne_of_gt (blk_lt (g := gb182) (o := .cells #[.string a1_0, .string a1_1] 42 (0, 0)) (by (with_reducible repeat (first | refine blk_drewN ?_ _ | refine blk_drew ?_ | refine blk_alloc ?_ _)); exact BK182.out)) : gb190 ≠ gb182)); clear HO_7; clear BK182; clear HB; have HO_7 := n0_; have BK182 := n1_; have HB := n2_; have BK190 := n3_; have GW190 := n4_; have GE190 := n5_; have NB182_190 := n6_; have NB190_182 := n7_; clear n0_ n1_ n2_ n3_ n4_ n5_ n6_ n7_; clear hb hbox hg; have hnb18 := NB190_182.out; have hnc18 := NB182_190.out; have hcz19_0 : w17.cell? ⟨gb190, 0, none⟩ = some (.string (⟨#[]⟩ : ByteArray)) := (blk_cell BK190.out 0).trans rfl; have hcz19_1 : w17.cell? ⟨gb190, 1, none⟩ = some (.string (⟨#[]⟩ : ByteArray)) := (blk_cell BK190.out 1).trans rfl; have hcz19_2 : w17.cell? ⟨gb190, 2, none⟩ = some (.string (⟨#[]⟩ : ByteArray)) := (blk_cell BK190.out 2).trans rfl; have hcz19_3 : w17.cell? ⟨gb190, 3, none⟩ = some (.string (⟨#[]⟩ : ByteArray)) := (blk_cell BK190.out 3).trans rfl; have hfz19_0 := blk_frozen BK190.out 0; have hfz19_1 := blk_frozen BK190.out 1; have hfz19_2 := blk_frozen BK190.out 2; have hfz19_3 := blk_frozen BK190.out 3; have hcz20_0 : w17.cell? ⟨gb182, 0, none⟩ = some (.string a1_0) := (blk_cell BK182.out 0).trans rfl; have hcz20_1 : w17.cell? ⟨gb182, 1, none⟩ = some (.string a1_1) := (blk_cell BK182.out 1).trans rfl; have hfz20_0 := blk_frozen BK182.out 0; have hfz20_1 := blk_frozen BK182.out 1))
                    go_roundg k2
                    case measure => have := HJ2.out; have := HK2.out; omega
                    case rel => exact ⟨(x7_2), (x8_2), (wrap64 (x22_2 + 1)), (by first | rfl | (simp; done) | (simp [*]; done)), (by first | rfl | (simp; done) | (simp [*]; done)), H', ⟨by have := HJ2.out; have := HK2.out; omega⟩, ⟨by (with_reducible repeat (first | apply Kd.R_alloc | apply Kd.R_drewN | apply Kd.R_drew)); exact Kd.R_mono (Kd.R_far (p := ⟨gb190, 3, none⟩) (Kd.R_far (p := ⟨gb190, 2, none⟩) (Kd.R_far (p := ⟨gb190, 1, none⟩) (Kd.R_far (p := ⟨gb190, 0, none⟩) (Kd.R_types HO_7.out BK190.out (by decide)) (fun _ hk => hk.2) (.string ((rd_T51 l0 x22_2).f0.f0))) (fun _ hk => hk.2) (.string ((rd_T51 l0 x22_2).f0.f1))) (fun _ hk => hk.2) (.string ((rd_T51 l0 x22_2).f1.f0))) (fun _ hk => hk.2) (.string ((rd_T51 l0 x22_2).f1.f1))) (fun _ hk => hk.1)⟩, ⟨by (with_reducible repeat (first | refine blk_drewN ?_ _ | refine blk_drew ?_ | refine blk_alloc ?_ _)); refine blk_far ?_ NB182_190.out _; (with_reducible repeat (first | refine blk_drewN ?_ _ | refine blk_drew ?_ | refine blk_alloc ?_ _)); refine blk_far ?_ NB182_190.out _; (with_reducible repeat (first | refine blk_drewN ?_ _ | refine blk_drew ?_ | refine blk_alloc ?_ _)); refine blk_far ?_ NB182_190.out _; (with_reducible repeat (first | refine blk_drewN ?_ _ | refine blk_drew ?_ | refine blk_alloc ?_ _)); refine blk_far ?_ NB182_190.out _; (with_reducible repeat (first | refine blk_drewN ?_ _ | refine blk_drew ?_ | refine blk_alloc ?_ _)); exact BK182.out⟩, ⟨by repeat (first | (with_reducible first | exact HB.out | apply below_alloc | apply pw_below_drewN | apply below_drew1 | refine below_set ?_ GE182.out | refine below_set ?_ GE190.out) | exact HB.out)⟩⟩
                  · rw [if_neg c16] at H
                    have c16b0 : (!((((rd_T51 l0 x22_2).f1.f0).toList) == a1_0.toList) || (!((((rd_T51 l0 x22_2).f1.f1).toList) == a1_1.toList))) = false := by simpa using c16
                    clear c16
                    by_cases c21 : ((((rd_T51 l0 x22_2).f0.f0).toList) == ([] : List UInt8) && ((((rd_T51 l0 x22_2).f0.f1).toList) == ([] : List UInt8))) = true
                    · rw [if_pos c21] at H
                      have c21b0 : ((((rd_T51 l0 x22_2).f0.f0).toList) == ([] : List UInt8) && ((((rd_T51 l0 x22_2).f0.f1).toList) == ([] : List UInt8))) = true := c21
                      have c21b9e : ((((rd_T51 l0 x22_2).f0.f0).toList).isEmpty && ((((rd_T51 l0 x22_2).f0.f1).toList).isEmpty)) = true := by simpa using c21b0
                      (try (have c21b1 : decide ((((rd_T51 l0 x22_2).f0.f0).toList) = ([] : List UInt8) && ((((rd_T51 l0 x22_2).f0.f1).toList) == ([] : List UInt8))) = true := by simpa using c21))
                      (try (have c21b2 : ((((rd_T51 l0 x22_2).f0.f0).toList) == ([] : List UInt8) && ((((rd_T51 l0 x22_2).f0.f1).toList) == ([] : List UInt8))) = true := by simpa using c21))
                      clear c21
                      have H' := Aside0.mk H
                      clear H
                      have p189 : 0 ≤ (x22_2 : Int) := of_decide_eq_true (by first | (with_reducible assumption) | assumption)
                      have q189 : x22_2 < (l0.length : Int) := of_decide_eq_true (by first | (with_reducible assumption) | assumption)
                      obtain ⟨ad189, e189, hx189_0, hx189_1, hx189_2, hx189_3⟩ := at_T51 HR0.out x22_2 p189 q189
                      cases e189
                      replace hx189_0 := (HB.out.cell (World.block_lt_of_cell? w _ hx189_0)).trans hx189_0
                      replace hx189_1 := (HB.out.cell (World.block_lt_of_cell? w _ hx189_1)).trans hx189_1
                      replace hx189_2 := (HB.out.cell (World.block_lt_of_cell? w _ hx189_2)).trans hx189_2
                      replace hx189_3 := (HB.out.cell (World.block_lt_of_cell? w _ hx189_3)).trans hx189_3
                      replace p189 := eq_true p189
                      replace q189 := eq_true q189
                      go_wp2_with (first | ((with_reducible refine gate_dst (N := 10) rfl ?_); refine box_event ?hg (N := 10) ?hd (cs := #[.string (⟨#[]⟩ : ByteArray), .string (⟨#[]⟩ : ByteArray), .string (⟨#[]⟩ : ByteArray), .string (⟨#[]⟩ : ByteArray)]) (t := 51) ?hr ?_; (case hd => rfl); (case hg => rfl); (case hr => first | (go_simp; done) | (go_simp; rfl)); intro gb190 hg w22 hbox hb; have n0_ := Aside0.mk (Kd.R_below (by (with_reducible repeat (first | apply Kd.R_alloc | apply Kd.R_drewN | apply Kd.R_drew)); exact HO_7.out) hb); have n1_ := Aside0.mk (blk_below (g := gb182) (o := .cells #[.string a1_0, .string a1_1] 42 (0, 0)) (by (with_reducible repeat (first | refine blk_drewN ?_ _ | refine blk_drew ?_ | refine blk_alloc ?_ _)); exact BK182.out) hb); have n2_ := Aside0.mk (below_step (by repeat (first | (with_reducible first | exact HB.out | apply below_alloc | apply pw_below_drewN | apply below_drew1 | refine below_set ?_ GE182.out) | exact HB.out)) hb); have n3_ := Aside0.mk (hbox); have n4_ := Aside0.mk ((by rw [hg]; exact (below_size (by repeat (first | (with_reducible first | exact HB.out | apply below_alloc | apply pw_below_drewN | apply below_drew1 | refine below_set ?_ GE182.out) | exact HB.out))) : w.heap.size ≤ gb190)); have n5_ := Aside0.mk ((by rw [hg]; exact (below_size (by repeat (first | (with_reducible first | exact HB.out | apply below_alloc | apply pw_below_drewN | apply below_drew1 | refine below_set ?_ GE182.out) | exact HB.out))) : w.heap.size ≤ gb190)); have n6_ := Aside0.mk ((by rw [hg]; exact Nat.ne_of_lt (blk_lt (g := gb182) (o := .cells #[.string a1_0, .string a1_1] 42 (0, 0)) (by (with_reducible repeat (first | refine blk_drewN ?_ _ | refine blk_drew ?_ | refine blk_alloc ?_ _)); exact BK182.out)) : gb182 ≠ gb190)); have n7_ := Aside0.mk ((by rw [hg]; exact Nat.ne_of_gt (blk_lt (g := gb182) (o := .cells #[.string a1_0, .string a1_1] 42 (0, 0)) (by (with_reducible repeat (first | refine blk_drewN ?_ _ | refine blk_drew ?_ | refine blk_alloc ?_ _)); exact BK182.out)) : gb190 ≠ gb182)); clear HO_7; clear BK182; clear HB; have HO_7 := n0_; have BK182 := n1_; have HB := n2_; have BK190 := n3_; have GW190 := n4_; have GE190 := n5_; have NB182_190 := n6_; have NB190_182 := n7_; clear n0_ n1_ n2_ n3_ n4_ n5_ n6_ n7_; clear hb hbox hg; have hnb23 := NB190_182.out; have hnc23 := NB182_190.out; have hcz24_0 : w22.cell? ⟨gb190, 0, none⟩ = some (.string (⟨#[]⟩ : ByteArray)) := (blk_cell BK190.out 0).trans rfl; have hcz24_1 : w22.cell? ⟨gb190, 1, none⟩ = some (.string (⟨#[]⟩ : ByteArray)) := (blk_cell BK190.out 1).trans rfl; have hcz24_2 : w22.cell? ⟨gb190, 2, none⟩ = some (.string (⟨#[]⟩ : ByteArray)) := (blk_cell BK190.out 2).trans rfl; have hcz24_3 : w22.cell? ⟨gb190, 3, none⟩ = some (.string (⟨#[]⟩ : ByteArray)) := (blk_cell BK190.out 3).trans rfl; have hfz24_0 := blk_frozen BK190.out 0; have hfz24_1 := blk_frozen BK190.out 1; have hfz24_2 := blk_frozen BK190.out 2; have hfz24_3 := blk_frozen BK190.out 3; have hcz25_0 : w22.cell? ⟨gb182, 0, none⟩ = some (.string a1_0) := (blk_cell BK182.out 0).trans rfl; have hcz25_1 : w22.cell? ⟨gb182, 1, none⟩ = some (.string a1_1) := (blk_cell BK182.out 1).trans rfl; have hfz25_0 := blk_frozen BK182.out 0; have hfz25_1 := blk_frozen BK182.out 1))
                      go_roundg k2
                      case measure => have := HJ2.out; have := HK2.out; omega
                      case rel => exact ⟨(x7_2), (true), (wrap64 (x22_2 + 1)), (by first | rfl | (simp; done) | (simp [*]; done)), (by first | rfl | (simp; done) | (simp [*]; done)), H', ⟨by have := HJ2.out; have := HK2.out; omega⟩, ⟨by (with_reducible repeat (first | apply Kd.R_alloc | apply Kd.R_drewN | apply Kd.R_drew)); exact Kd.R_mono (Kd.R_far (p := ⟨gb190, 3, none⟩) (Kd.R_far (p := ⟨gb190, 2, none⟩) (Kd.R_far (p := ⟨gb190, 1, none⟩) (Kd.R_far (p := ⟨gb190, 0, none⟩) (Kd.R_types HO_7.out BK190.out (by decide)) (fun _ hk => hk.2) (.string ((rd_T51 l0 x22_2).f0.f0))) (fun _ hk => hk.2) (.string ((rd_T51 l0 x22_2).f0.f1))) (fun _ hk => hk.2) (.string ((rd_T51 l0 x22_2).f1.f0))) (fun _ hk => hk.2) (.string ((rd_T51 l0 x22_2).f1.f1))) (fun _ hk => hk.1)⟩, ⟨by (with_reducible repeat (first | refine blk_drewN ?_ _ | refine blk_drew ?_ | refine blk_alloc ?_ _)); refine blk_far ?_ NB182_190.out _; (with_reducible repeat (first | refine blk_drewN ?_ _ | refine blk_drew ?_ | refine blk_alloc ?_ _)); refine blk_far ?_ NB182_190.out _; (with_reducible repeat (first | refine blk_drewN ?_ _ | refine blk_drew ?_ | refine blk_alloc ?_ _)); refine blk_far ?_ NB182_190.out _; (with_reducible repeat (first | refine blk_drewN ?_ _ | refine blk_drew ?_ | refine blk_alloc ?_ _)); refine blk_far ?_ NB182_190.out _; (with_reducible repeat (first | refine blk_drewN ?_ _ | refine blk_drew ?_ | refine blk_alloc ?_ _)); exact BK182.out⟩, ⟨by repeat (first | (with_reducible first | exact HB.out | apply below_alloc | apply pw_below_drewN | apply below_drew1 | refine below_set ?_ GE182.out | refine below_set ?_ GE190.out) | exact HB.out)⟩⟩
                    · rw [if_neg c21] at H
                      have c21b0 : ((((rd_T51 l0 x22_2).f0.f0).toList) == ([] : List UInt8) && ((((rd_T51 l0 x22_2).f0.f1).toList) == ([] : List UInt8))) = false := by simpa using c21
                      have c21b9e : ((((rd_T51 l0 x22_2).f0.f0).toList).isEmpty && ((((rd_T51 l0 x22_2).f0.f1).toList).isEmpty)) = false := by simpa using c21b0
                      (try (have c21b1 : decide ((((rd_T51 l0 x22_2).f0.f0).toList) = ([] : List UInt8) && ((((rd_T51 l0 x22_2).f0.f1).toList) == ([] : List UInt8))) = false := by simpa using c21))
                      (try (have c21b2 : ((((rd_T51 l0 x22_2).f0.f0).toList) == ([] : List UInt8) && ((((rd_T51 l0 x22_2).f0.f1).toList) == ([] : List UInt8))) = false := by simpa using c21))
                      (try (have c21b3 : ¬ ((((rd_T51 l0 x22_2).f0.f0).toList) = ([] : List UInt8) && ((((rd_T51 l0 x22_2).f0.f1).toList) == ([] : List UInt8))) := by simpa using c21))
                      clear c21
                      by_cases c26 : x7_2.length < 4398046511104
                      · rw [if_pos c26] at H
                        have LMc26 := Aside0.mk c26
                        clear c26
                        obtain ⟨y191, hy191⟩ : ∃ y_ : List (S42), y_ = (x7_2 ++ [(⟨(rd_T51 l0 x22_2).f0.f0, (rd_T51 l0 x22_2).f0.f1⟩ : S42)]) := ⟨_, rfl⟩
                        replace H : (lack_By.l0 k2 y191 x8_2 l0 (l0.length : Int) (wrap64 (x22_2 + 1)) a1_0 a1_1) = some (r1, r2, r3) := by first | (rw [hy191]; with_reducible exact H) | (have H2_ := (Option.bind_some _ _).symm.trans H; rw [hy191]; with_reducible exact H2_) | (have H2_ := (Option.bind_some _ _).symm.trans H; with_reducible exact H2_) | with_reducible exact H | (rw [hy191]; exact H) | exact H
                        have Ny191 := Aside0.mk hy191
                        clear hy191
                        have H' := Aside0.mk H
                        clear H
                        have p189 : 0 ≤ (x22_2 : Int) := of_decide_eq_true (by first | (with_reducible assumption) | assumption)
                        have q189 : x22_2 < (l0.length : Int) := of_decide_eq_true (by first | (with_reducible assumption) | assumption)
                        obtain ⟨ad189, e189, hx189_0, hx189_1, hx189_2, hx189_3⟩ := at_T51 HR0.out x22_2 p189 q189
                        cases e189
                        replace hx189_0 := (HB.out.cell (World.block_lt_of_cell? w _ hx189_0)).trans hx189_0
                        replace hx189_1 := (HB.out.cell (World.block_lt_of_cell? w _ hx189_1)).trans hx189_1
                        replace hx189_2 := (HB.out.cell (World.block_lt_of_cell? w _ hx189_2)).trans hx189_2
                        replace hx189_3 := (HB.out.cell (World.block_lt_of_cell? w _ hx189_3)).trans hx189_3
                        replace p189 := eq_true p189
                        replace q189 := eq_true q189
                        go_wp2_with (first | ((with_reducible refine gate_dst (N := 10) rfl ?_); refine box_event ?hg (N := 10) ?hd (cs := #[.string (⟨#[]⟩ : ByteArray), .string (⟨#[]⟩ : ByteArray), .string (⟨#[]⟩ : ByteArray), .string (⟨#[]⟩ : ByteArray)]) (t := 51) ?hr ?_; (case hd => rfl); (case hg => rfl); (case hr => first | (go_simp; done) | (go_simp; rfl)); intro gb190 hg w27 hbox hb; have n0_ := Aside0.mk (Kd.R_below (by (with_reducible repeat (first | apply Kd.R_alloc | apply Kd.R_drewN | apply Kd.R_drew)); exact HO_7.out) hb); have n1_ := Aside0.mk (blk_below (g := gb182) (o := .cells #[.string a1_0, .string a1_1] 42 (0, 0)) (by (with_reducible repeat (first | refine blk_drewN ?_ _ | refine blk_drew ?_ | refine blk_alloc ?_ _)); exact BK182.out) hb); have n2_ := Aside0.mk (below_step (by repeat (first | (with_reducible first | exact HB.out | apply below_alloc | apply pw_below_drewN | apply below_drew1 | refine below_set ?_ GE182.out) | exact HB.out)) hb); have n3_ := Aside0.mk (hbox); have n4_ := Aside0.mk ((by rw [hg]; exact (below_size (by repeat (first | (with_reducible first | exact HB.out | apply below_alloc | apply pw_below_drewN | apply below_drew1 | refine below_set ?_ GE182.out) | exact HB.out))) : w.heap.size ≤ gb190)); have n5_ := Aside0.mk ((by rw [hg]; exact (below_size (by repeat (first | (with_reducible first | exact HB.out | apply below_alloc | apply pw_below_drewN | apply below_drew1 | refine below_set ?_ GE182.out) | exact HB.out))) : w.heap.size ≤ gb190)); have n6_ := Aside0.mk ((by rw [hg]; exact Nat.ne_of_lt (blk_lt (g := gb182) (o := .cells #[.string a1_0, .string a1_1] 42 (0, 0)) (by (with_reducible repeat (first | refine blk_drewN ?_ _ | refine blk_drew ?_ | refine blk_alloc ?_ _)); exact BK182.out)) : gb182 ≠ gb190)); have n7_ := Aside0.mk ((by rw [hg]; exact Nat.ne_of_gt (blk_lt (g := gb182) (o := .cells #[.string a1_0, .string a1_1] 42 (0, 0)) (by (with_reducible repeat (first | refine blk_drewN ?_ _ | refine blk_drew ?_ | refine blk_alloc ?_ _)); exact BK182.out)) : gb190 ≠ gb182)); clear HO_7; clear BK182; clear HB; have HO_7 := n0_; have BK182 := n1_; have HB := n2_; have BK190 := n3_; have GW190 := n4_; have GE190 := n5_; have NB182_190 := n6_; have NB190_182 := n7_; clear n0_ n1_ n2_ n3_ n4_ n5_ n6_ n7_; clear hb hbox hg; have hnb28 := NB190_182.out; have hnc28 := NB182_190.out; have hcz29_0 : w27.cell? ⟨gb190, 0, none⟩ = some (.string (⟨#[]⟩ : ByteArray)) := (blk_cell BK190.out 0).trans rfl; have hcz29_1 : w27.cell? ⟨gb190, 1, none⟩ = some (.string (⟨#[]⟩ : ByteArray)) := (blk_cell BK190.out 1).trans rfl; have hcz29_2 : w27.cell? ⟨gb190, 2, none⟩ = some (.string (⟨#[]⟩ : ByteArray)) := (blk_cell BK190.out 2).trans rfl; have hcz29_3 : w27.cell? ⟨gb190, 3, none⟩ = some (.string (⟨#[]⟩ : ByteArray)) := (blk_cell BK190.out 3).trans rfl; have hfz29_0 := blk_frozen BK190.out 0; have hfz29_1 := blk_frozen BK190.out 1; have hfz29_2 := blk_frozen BK190.out 2; have hfz29_3 := blk_frozen BK190.out 3; have hcz30_0 : w27.cell? ⟨gb182, 0, none⟩ = some (.string a1_0) := (blk_cell BK182.out 0).trans rfl; have hcz30_1 : w27.cell? ⟨gb182, 1, none⟩ = some (.string a1_1) := (blk_cell BK182.out 1).trans rfl; have hfz30_0 := blk_frozen BK182.out 0; have hfz30_1 := blk_frozen BK182.out 1) | ((with_reducible refine gate_builtin (b := .append) (xs := #[.tmp 26, .tmp 29]) rfl ?_); at_builtin; refine Kd.R_append k42 (w0 := w) w.heap.size rfl (.tmp 26) (.tmp 29) 22 42 (.agg #[(.string ⟨#[]⟩), (.string ⟨#[]⟩)]) 32 rfl Tryz.underlying22 info42 rfl (by decide) (by omega) u7 x7_2 (⟨(rd_T51 l0 x22_2).f0.f0, (rd_T51 l0 x22_2).f0.f1⟩ : S42) [.string ((rd_T51 l0 x22_2).f0.f0), .string ((rd_T51 l0 x22_2).f0.f1)] (fun k_ => k_ ≠ gb182) (fun _ => False) rfl (by first | (go_simp; done) | (go_simp; rfl)) ?aP (fun _ hk => hk.elim) ?aF ?aO ?aB ?aS ?aL ?_; (case aP => exact k42_mkM _ _ _ (⟨(rd_T51 l0 x22_2).f0.f0, (rd_T51 l0 x22_2).f0.f1⟩ : S42)); (case aB => exact (by repeat (first | (with_reducible first | exact HB.out | apply below_alloc | apply pw_below_drewN | apply below_drew1 | refine below_set ?_ GE182.out | refine below_set ?_ GE190.out) | exact HB.out))); (case aF => exact (fun k_ hk => Kd.freshB (g := gb182) (o := .cells #[.string a1_0, .string a1_1] 42 (0, 0)) (by (with_reducible repeat (first | refine blk_drewN ?_ _ | refine blk_drew ?_ | refine blk_alloc ?_ _)); refine blk_far ?_ NB182_190.out _; (with_reducible repeat (first | refine blk_drewN ?_ _ | refine blk_drew ?_ | refine blk_alloc ?_ _)); refine blk_far ?_ NB182_190.out _; (with_reducible repeat (first | refine blk_drewN ?_ _ | refine blk_drew ?_ | refine blk_alloc ?_ _)); refine blk_far ?_ NB182_190.out _; (with_reducible repeat (first | refine blk_drewN ?_ _ | refine blk_drew ?_ | refine blk_alloc ?_ _)); refine blk_far ?_ NB182_190.out _; (with_reducible repeat (first | refine blk_drewN ?_ _ | refine blk_drew ?_ | refine blk_alloc ?_ _)); exact BK182.out) k_ hk)); (case aO => exact (by (with_reducible repeat (first | apply Kd.R_alloc | apply Kd.R_drewN | apply Kd.R_drew)); exact Kd.R_mono (Kd.R_far (p := ⟨gb190, 3, none⟩) (Kd.R_far (p := ⟨gb190, 2, none⟩) (Kd.R_far (p := ⟨gb190, 1, none⟩) (Kd.R_far (p := ⟨gb190, 0, none⟩) (Kd.R_types HO_7.out BK190.out (by decide)) (fun _ hk => hk.2) (.string ((rd_T51 l0 x22_2).f0.f0))) (fun _ hk => hk.2) (.string ((rd_T51 l0 x22_2).f0.f1))) (fun _ hk => hk.2) (.string ((rd_T51 l0 x22_2).f1.f0))) (fun _ hk => hk.2) (.string ((rd_T51 l0 x22_2).f1.f1))) (fun _ hk => hk.1))); (case aS => exact (below_size (by repeat (first | (with_reducible first | exact HB.out | apply below_alloc | apply pw_below_drewN | apply below_drew1 | refine below_set ?_ GE182.out | refine below_set ?_ GE190.out) | exact HB.out)))); (case aL => have := LMc26.out; omega); intro v192 w31 ho hb hg hat; rw [← Ny191.out] at ho; have n0_ := Aside0.mk (blk_grown (g := gb182) (o := .cells #[.string a1_0, .string a1_1] 42 (0, 0)) (by (with_reducible repeat (first | refine blk_drewN ?_ _ | refine blk_drew ?_ | refine blk_alloc ?_ _)); refine blk_far ?_ NB182_190.out _; (with_reducible repeat (first | refine blk_drewN ?_ _ | refine blk_drew ?_ | refine blk_alloc ?_ _)); refine blk_far ?_ NB182_190.out _; (with_reducible repeat (first | refine blk_drewN ?_ _ | refine blk_drew ?_ | refine blk_alloc ?_ _)); refine blk_far ?_ NB182_190.out _; (with_reducible repeat (first | refine blk_drewN ?_ _ | refine blk_drew ?_ | refine blk_alloc ?_ _)); refine blk_far ?_ NB182_190.out _; (with_reducible repeat (first | refine blk_drewN ?_ _ | refine blk_drew ?_ | refine blk_alloc ?_ _)); exact BK182.out) hg (Kd.R_away HO_7.out (fun _ hk => hk))); have n1_ := Aside0.mk (blk_grown (g := gb190) (o := .cells #[.string ((rd_T51 l0 x22_2).f0.f0), .string ((rd_T51 l0 x22_2).f0.f1), .string ((rd_T51 l0 x22_2).f1.f0), .string ((rd_T51 l0 x22_2).f1.f1)] 51 (0, 0)) (by (with_reducible repeat (first | refine blk_drewN ?_ _ | refine blk_drew ?_ | refine blk_alloc ?_ _)); refine blk_put (cs := #[.string ((rd_T51 l0 x22_2).f0.f0), .string ((rd_T51 l0 x22_2).f0.f1), .string ((rd_T51 l0 x22_2).f1.f0), .string (⟨#[]⟩ : ByteArray)]) ?_ 3 _ rfl; (with_reducible repeat (first | refine blk_drewN ?_ _ | refine blk_drew ?_ | refine blk_alloc ?_ _)); refine blk_put (cs := #[.string ((rd_T51 l0 x22_2).f0.f0), .string ((rd_T51 l0 x22_2).f0.f1), .string (⟨#[]⟩ : ByteArray), .string (⟨#[]⟩ : ByteArray)]) ?_ 2 _ rfl; (with_reducible repeat (first | refine blk_drewN ?_ _ | refine blk_drew ?_ | refine blk_alloc ?_ _)); refine blk_put (cs := #[.string ((rd_T51 l0 x22_2).f0.f0), .string (⟨#[]⟩ : ByteArray), .string (⟨#[]⟩ : ByteArray), .string (⟨#[]⟩ : ByteArray)]) ?_ 1 _ rfl; (with_reducible repeat (first | refine blk_drewN ?_ _ | refine blk_drew ?_ | refine blk_alloc ?_ _)); refine blk_put (cs := #[.string (⟨#[]⟩ : ByteArray), .string (⟨#[]⟩ : ByteArray), .string (⟨#[]⟩ : ByteArray), .string (⟨#[]⟩ : ByteArray)]) ?_ 0 _ rfl; (with_reducible repeat (first | refine blk_drewN ?_ _ | refine blk_drew ?_ | refine blk_alloc ?_ _)); exact BK190.out) hg (Kd.R_ne HO_7.out BK190.out (by decide))); have n2_ := Aside0.mk (hb); have n3_ := Aside0.mk (ho); clear BK182; clear BK190; clear HB; clear HO_7; have BK182 := n0_; have BK190 := n1_; have HB := n2_; have HO193 := n3_; clear n0_ n1_ n2_ n3_; clear ho hb hg hat))
                        go_roundg k2
                        case measure => have := HJ2.out; have := HK2.out; omega
                        case rel => exact ⟨(y191), (x8_2), (wrap64 (x22_2 + 1)), (by first | rfl | (simp; done) | (simp [*]; done)), (by first | rfl | (simp; done) | (simp [*]; done)), H', ⟨by have := HJ2.out; have := HK2.out; omega⟩, ⟨by (with_reducible repeat (first | apply Kd.R_alloc | apply Kd.R_drewN | apply Kd.R_drew)); exact HO193.out⟩, ⟨by (with_reducible repeat (first | refine blk_drewN ?_ _ | refine blk_drew ?_ | refine blk_alloc ?_ _)); exact BK182.out⟩, ⟨by repeat (first | (with_reducible first | exact HB.out | apply below_alloc | apply pw_below_drewN | apply below_drew1 | refine below_set ?_ GE182.out | refine below_set ?_ GE190.out) | exact HB.out)⟩⟩
                      · rw [if_neg c26] at H
                        exact absurd H (by simp)
                · rw [if_neg c15] at H
                  exact absurd H (by simp)
              · rw [if_neg c14] at H
                exact absurd H (by simp)
            · rw [if_neg c13] at H
              have c13b0 : decide (x22_2 < (l0.length : Int)) = false := decide_eq_false c13
              clear c13
              replace H := Option.bind_eq_some_iff.mp H
              obtain ⟨⟨t185, t186⟩, A320, H⟩ := H
              replace H : (some (t185, x8_2, t186)) = some (r1, r2, r3) := H
              have A32 := Aside0.mk A320
              clear A320
              simp only [Option.some.injEq, Prod.mk.injEq] at H
              obtain ⟨rfl, rfl, rfl⟩ := H
              obtain ⟨Ao33, co33, eo33⟩ := Kd.R_slice HO_7.out
              subst eo33
              go_wp2_with (first | ((with_reducible refine gate_callee (f := 31) rfl ?_); refine goesL_ (some 44) rfl rfl Tryz.func31 (by kernel_rfl) rfl #[.slice Ao33 x7_2.length co33] rfl (by (try simp only [List.map_toArray, List.map_cons, List.map_nil]); first | done | rfl | (simp only [List.length_drop, List.length_take]; rfl)) ?_; (with_reducible refine (node_Set.calls _ _ x7_2 t185 t186 _ ?side1 ?side2 A32.out).mono ?_); (case side1 => repeat (first | exact (Kd.R_reads' HO_7.out).2.2 | (with_reducible refine Kd.C_alloc ?_ _) | (with_reducible refine Kd.C_drewN ?_ _) | (with_reducible refine Kd.C_drew ?_))); (case side2 => exact (Kd.R_reads' HO_7.out).2.1); rintro e w34 ⟨v187, rfl, ho0, hb⟩; refine ⟨_, rfl, ?_⟩; have n0_ := Aside0.mk (Kd.R_elder' (by (with_reducible repeat (first | apply Kd.R_alloc | apply Kd.R_drewN | apply Kd.R_drew)); exact HO_7.out) (Kd.R_base ho0) hb); have n1_ := Aside0.mk (Kd.R_lower (Kd.R_newB (Kd.R_new' ho0 (Kd.R_lt (by (with_reducible repeat (first | apply Kd.R_alloc | apply Kd.R_drewN | apply Kd.R_drew)); exact HO_7.out))) (g := gb182) (o := .cells #[.string a1_0, .string a1_1] 42 (0, 0)) (by (with_reducible repeat (first | refine blk_drewN ?_ _ | refine blk_drew ?_ | refine blk_alloc ?_ _)); exact BK182.out)) (below_size (by repeat (first | (with_reducible first | exact HB.out | apply below_alloc | apply pw_below_drewN | apply below_drew1 | refine below_set ?_ GE182.out) | exact HB.out)))); have n2_ := Aside0.mk (blk_below (g := gb182) (o := .cells #[.string a1_0, .string a1_1] 42 (0, 0)) (by (with_reducible repeat (first | refine blk_drewN ?_ _ | refine blk_drew ?_ | refine blk_alloc ?_ _)); exact BK182.out) hb); have n3_ := Aside0.mk (below_step (by repeat (first | (with_reducible first | exact HB.out | apply below_alloc | apply pw_below_drewN | apply below_drew1 | refine below_set ?_ GE182.out) | exact HB.out)) hb); clear HO_7; clear BK182; clear HB; have HO_7 := n0_; have HO188 := n1_; have BK182 := n2_; have HB := n3_; clear n0_ n1_ n2_ n3_; (try clear hb); (try clear hb2); (try clear hk); (try clear hi); (try clear ho0)))
              go_ret3
              exact ⟨_, by first | rfl | (simp [errW_none, errW_some] <;> rfl) | (simp [*, errW_none, errW_some] <;> rfl), by (with_reducible repeat (first | apply Kd.R_alloc | apply Kd.R_drewN | apply Kd.R_drew)); exact Kd.R_mono HO188.out (fun _ hk => trivial), by repeat (first | (with_reducible first | exact HB.out | apply below_alloc | apply pw_below_drewN | apply below_drew1 | refine below_set ?_ GE182.out) | exact HB.out)⟩
end Go.Proofs.YtffcbfclpfchnaaGreatDoor.Q
end

section
namespace Go.Proofs.YtffcbfclpfchnaaGreatDoor.Q
open Go.Proofs.YtffcbfclpfchnaaGreatDoor.QB.D
open Go Go.RowKit Go.Lib Go.Proofs.YtffcbfclpfchnaaGreatDoorW.PrintWords Go.Proofs.YtffcbfclpfchnaaGreatDoorW.PrintLast Go.Proofs.YtffcbfclpfchnaaGreatDoorW.PrintMore Gw
set_option linter.unusedVariables false
set_option linter.unusedSimpArgs false
theorem node_eqr (x : S42) : (x.f0.toList == ([] : List UInt8) && x.f1.toList == ([] : List UInt8)) = decide (x = z42) := by
  rw [← node_eqz]
  have e : (⟨#[]⟩ : ByteArray).toList = [] := by rw [ByteArray.toList_eq]
  rw [e]
/-- The nodes that need n, one by one. -/
def needF (l : List S51) (n : S42) : List S42 := (l.filter (fun e => decide (e.f1 = n) && !decide (e.f0 = z42))).map (·.f0)
def rootF (l : List S51) (n : S42) : Bool := l.any (fun e => decide (e.f1 = n) && decide (e.f0 = z42))
def byF (l : List S51) (n : S42) : List S42 := setN (needF l n)
theorem need_len (l : List S51) (n : S42) : (needF l n).length ≤ l.length := by
  unfold needF; rw [List.length_map]; exact List.length_filter_le _ _
theorem mem_need {l : List S51} {n x : S42} : x ∈ needF l n ↔ x ≠ z42 ∧ ⟨x, n⟩ ∈ l := by
  unfold needF
  rw [List.mem_map]
  constructor
  · rintro ⟨e, he, rfl⟩
    obtain ⟨h1, h2⟩ := List.mem_filter.1 he
    simp only [Bool.and_eq_true, decide_eq_true_eq, Bool.not_eq_true', decide_eq_false_iff_not] at h2
    refine ⟨h2.2, ?_⟩
    have : (⟨e.f0, n⟩ : S51) = e := by cases e; simp only at h2; rw [h2.1]
    rw [this]; exact h1
  · rintro ⟨h1, h2⟩
    exact ⟨_, List.mem_filter.2 ⟨h2, by simp [h1]⟩, rfl⟩
theorem mem_root {l : List S51} {n : S42} : rootF l n = true ↔ ⟨z42, n⟩ ∈ l := by
  unfold rootF
  rw [List.any_eq_true]
  constructor
  · rintro ⟨e, h1, h2⟩
    simp only [Bool.and_eq_true, decide_eq_true_eq] at h2
    have : (⟨z42, n⟩ : S51) = e := by cases e; simp only at h2; rw [h2.1, h2.2]
    rw [this]; exact h1
  · intro h; exact ⟨_, h, by simp⟩
theorem okBy_each {l : List S51} (h : okE l = true) {e : S51} (he : e ∈ l) : mayN e.f1 = true ∧ (e.f0 = z42 ∨ mayN e.f0 = true) := by
  unfold okE at h
  have h1 : l.any badE = false := by simpa using h
  have h2 : badE e = false := by
    rw [List.any_eq_false] at h1
    simpa using h1 e he
  unfold badE at h2
  simp only [Bool.or_eq_false_iff, Bool.not_eq_false', Bool.and_eq_false_iff, decide_eq_true_eq] at h2
  exact h2
theorem need_may {l : List S51} (h : okE l = true) {n x : S42} (hx : x ∈ needF l n) : mayN x = true := by
  obtain ⟨h1, h2⟩ := mem_need.1 hx
  exact ((okBy_each h h2).2).resolve_left h1
theorem by_l0 (l : List S51) (hl : l.length ≤ 65536) (hb : ∀ e ∈ l, Brief e.f0 ∧ Brief e.f1) (hok : okE l = true) (n : S42) : ∀ (r i k : Nat), i + r = l.length → r + 1 ≤ k →
    lack_By.l0 k (needF (l.take i) n) (rootF (l.take i) n) l (l.length : Int) (i : Int) n.f0 n.f1 = some (byF l n, rootF l n, 0) := by
  intro r
  induction r with
  | zero =>
    intro i k hi hk
    obtain ⟨j, rfl⟩ : ∃ j, k = j + 1 := ⟨k - 1, by omega⟩
    simp only [lack_By.l0]
    rw [if_neg (by omega), List.take_of_length_le (by omega)]
    have hs : node_Set.f (needF l n) = some (setN (needF l n), 0) := by
      unfold node_Set.f
      rw [if_pos ⟨by have := need_len l n; omega, fun x hx => (hb _ (mem_need.1 hx).2).1.tiny⟩, if_pos (List.all_eq_true.2 fun x hx => need_may hok hx)]
    rw [hs]
    rfl
  | succ r ih =>
    intro i k hi hk
    obtain ⟨j, rfl⟩ : ∃ j, k = j + 1 := ⟨k - 1, by omega⟩
    have hil : i < l.length := by omega
    have hwr : wrap64 ((i : Int) + 1) = ((i + 1 : Nat) : Int) := by unfold wrap64; omega
    have hnl : (needF (l.take i) n).length ≤ 65536 := by have := need_len (l.take i) n; rw [List.length_take] at this; omega
    have hneq : (!(l[i].f1.f0.toList == n.f0.toList) || !(l[i].f1.f1.toList == n.f1.toList)) = !decide (l[i].f1 = n) := by rw [← node_eqb, Bool.not_and]
    have h1 : needF (l.take (i + 1)) n = if (decide (l[i].f1 = n) && !decide (l[i].f0 = z42)) = true then needF (l.take i) n ++ [l[i].f0] else needF (l.take i) n := by
      unfold needF
      rw [List.take_succ_eq_append_getElem hil, List.filter_append, List.map_append]
      split
      · rename_i e; rw [List.filter_cons_of_pos (by exact e)]; rfl
      · rename_i e; rw [List.filter_cons_of_neg (by exact e)]; simp
    have h2 : rootF (l.take (i + 1)) n = (rootF (l.take i) n || (decide (l[i].f1 = n) && decide (l[i].f0 = z42))) := by
      unfold rootF
      rw [List.take_succ_eq_append_getElem hil, List.any_append]
      simp
    have h9 := ih (i + 1) j (by omega) (by omega)
    rw [h1, h2] at h9
    simp only [lack_By.l0]
    rw [if_pos (by omega), if_pos (by omega), if_pos (by omega), rd_needs hil, hneq, node_eqr, hwr]
    by_cases e1 : l[i].f1 = n
    · rw [decide_eq_true e1] at h9 ⊢
      rw [if_neg (by decide)]
      by_cases e0 : l[i].f0 = z42
      · rw [decide_eq_true e0] at h9 ⊢
        rw [if_pos rfl]
        simpa using h9
      · rw [decide_eq_false e0] at h9 ⊢
        rw [if_neg (by decide), if_pos (by omega)]
        simpa using h9
    · rw [decide_eq_false e1] at h9 ⊢
      rw [if_pos (by rfl)]
      simpa using h9
theorem by_val (l : List S51) (hl : l.length ≤ 65536) (hb : ∀ e ∈ l, Brief e.f0 ∧ Brief e.f1) (n : S42) (hn : Brief n) (k : Nat) (hk : l.length + 500 ≤ k) :
    lack_By.f k l n.f0 n.f1 = some (if okE l = true ∧ mayN n = true then (byF l n, rootF l n, 0) else ([], false, 1)) := by
  have hK : lack_Check.f l = some (kI (okE l)) := if_pos ⟨by omega, fun x hx => ⟨(hb x hx).1.tiny, (hb x hx).2.tiny⟩⟩
  have hm := node_May_val k n hn.tiny (by have := hn.1; omega)
  obtain ⟨j, rfl⟩ : ∃ j, k = j + 2 := ⟨k - 2, by omega⟩
  unfold lack_By.f
  rw [hK]
  simp only [Option.bind_some]
  cases hok : okE l with
  | false =>
    rw [if_neg (by decide), if_neg (fun h => by cases h.1)]
    simp only [lack_By.j0]
    rw [if_pos trivial]
  | true =>
    rw [if_pos (by rfl), hm]
    simp only [Option.bind_some, lack_By.j0]
    cases hmn : mayN n with
    | false => rw [if_pos (by rfl), if_neg (fun h => by cases h.2)]
    | true =>
      rw [if_neg (by decide), if_pos ⟨trivial, rfl⟩]
      exact by_l0 l hl hb hok n l.length 0 (j + 1) (by omega) (by omega)
structure IsSet (l : List S42) : Prop where
  good : ∀ x ∈ l, GoodN x
  may : ∀ x ∈ l, mayN x = true
  lt : l.Pairwise (fun x y => ordN x y < 0)
theorem ordN_self {x : S42} (h : GoodN x) : ordN x x = 0 := (ordN_to.eq x x h h).2 rfl
theorem ordN_ne {x y : S42} (hx : GoodN x) (h : ordN x y < 0) : x ≠ y := fun e => by
  subst e
  rw [ordN_self hx] at h
  omega
theorem IsSet.nodup {l : List S42} (h : IsSet l) : l.Nodup := List.Pairwise.imp_of_mem (fun hx _ hxy => ordN_ne (h.good _ hx) hxy) h.lt
theorem IsSet.nil : IsSet [] := ⟨fun x h => by (cases h), fun x h => by (cases h), List.Pairwise.nil⟩
theorem IsSet.tail {x : S42} {l : List S42} (h : IsSet (x :: l)) : IsSet l := ⟨fun y hy => h.good y (List.mem_cons_of_mem _ hy), fun y hy => h.may y (List.mem_cons_of_mem _ hy), (List.pairwise_cons.1 h.lt).2⟩
/-- Two sets with the same nodes are the same list. -/
theorem IsSet.ext : ∀ {l m : List S42}, IsSet l → IsSet m → (∀ x, x ∈ l ↔ x ∈ m) → l = m
  | [], [], _, _, _ => rfl
  | [], y :: m, _, _, h => absurd ((h y).2 List.mem_cons_self) (by simp)
  | x :: l, [], _, _, h => absurd ((h x).1 List.mem_cons_self) (by simp)
  | x :: l, y :: m, hl, hm, h => by
    have gx := hl.good x List.mem_cons_self
    have gy := hm.good y List.mem_cons_self
    have e : x = y := by
      rcases List.mem_cons.1 ((h x).1 List.mem_cons_self) with e | e
      · exact e
      · rcases List.mem_cons.1 ((h y).2 List.mem_cons_self) with e2 | e2
        · exact e2.symm
        · have h1 := (List.pairwise_cons.1 hm.lt).1 x e
          have h2 := (List.pairwise_cons.1 hl.lt).1 y e2
          have := ordN_to.sym x y gx gy
          omega
    subst e
    have hx1 : x ∉ l := (List.nodup_cons.1 hl.nodup).1
    have hx2 : x ∉ m := (List.nodup_cons.1 hm.nodup).1
    rw [IsSet.ext hl.tail hm.tail (fun z => ⟨fun hz => by
      rcases List.mem_cons.1 ((h z).1 (List.mem_cons_of_mem _ hz)) with e | e
      · subst e; exact absurd hz hx1
      · exact e, fun hz => by
      rcases List.mem_cons.1 ((h z).2 (List.mem_cons_of_mem _ hz)) with e | e
      · subst e; exact absurd hz hx2
      · exact e⟩)]
theorem IsSet.filter {l : List S42} (h : IsSet l) (p : S42 → Bool) : IsSet (l.filter p) :=
  ⟨fun x hx => h.good x (List.mem_filter.1 hx).1, fun x hx => h.may x (List.mem_filter.1 hx).1, h.lt.filter p⟩
theorem chk_of : ∀ (l : List S42) (p : Option S42), (∀ x ∈ l, mayN x = true) → l.Pairwise (fun x y => ordN x y < 0) → (∀ q, p = some q → ∀ x ∈ l, ordN q x < 0) → chk p l = true
  | [], p, _, _, _ => by cases p <;> rfl
  | x :: r, p, hm, hs, hp => by
    rw [List.pairwise_cons] at hs
    simp only [chk, Bool.and_eq_true]
    refine ⟨⟨hm x List.mem_cons_self, ?_⟩, chk_of r (some x) (fun y hy => hm y (List.mem_cons_of_mem _ hy)) hs.2 (fun q e y hy => by injection e with e; rw [← e]; exact hs.1 y hy)⟩
    cases p with
    | none => rfl
    | some q => exact decide_eq_true (hp q rfl x List.mem_cons_self)
theorem check_set {l : List S42} (ht : ∀ x ∈ l, TinyN x) : checkN l = true ↔ IsSet l :=
  ⟨fun h => ⟨(check_good ht h).1, fun x hx => List.all_eq_true.1 (chk_facts l _ h) x hx, (check_good ht h).2⟩, fun h => chk_of l none h.may h.lt (fun q e => by cases e)⟩
theorem IsSet.check {l : List S42} (h : IsSet l) : checkN l = true := chk_of l none h.may h.lt (fun q e => by cases e)
theorem mem_ded (l : List S42) (x : S42) : x ∈ ded l ↔ x ∈ l := by
  have h := ded_mem l x l.length (Nat.le_refl _)
  rwa [List.take_length] at h
theorem mem_setN (l : List S42) (x : S42) : x ∈ setN l ↔ x ∈ l := (sortN_perm _).mem_iff.trans (mem_ded l x)
theorem ded_nodup : ∀ (l : List S42), (ded l).Nodup := by
  intro l
  have h : ∀ (l acc : List S42), acc.Nodup → (l.foldl (fun acc x => if x ∈ acc then acc else acc ++ [x]) acc).Nodup := by
    intro l
    induction l with
    | nil => intro acc h; exact h
    | cons x r ih =>
      intro acc h
      rw [List.foldl_cons]
      refine ih _ ?_
      split
      · exact h
      · rename_i hx
        refine List.nodup_append.2 ⟨h, List.nodup_cons.2 ⟨by simp, List.nodup_nil⟩, fun a ha b hb => ?_⟩
        simp at hb
        subst hb
        intro e
        subst e
        exact hx ha
  exact h l [] List.nodup_nil
theorem setN_set {l : List S42} (ht : ∀ x ∈ l, TinyN x) (hm : ∀ x ∈ l, mayN x = true) : IsSet (setN l) := by
  have hg : ∀ x ∈ setN l, GoodN x := fun x hx => mayN_good (ht x ((mem_setN l x).1 hx)) (hm x ((mem_setN l x).1 hx))
  refine ⟨hg, fun x hx => hm x ((mem_setN l x).1 hx), ?_⟩
  have hnd : (setN l).Nodup := (sortN_perm _).nodup_iff.2 (ded_nodup l)
  have hs := sortN_sorted (ded l) (fun y hy => mayN_good (ht y ((mem_ded l y).1 hy)) (hm y ((mem_ded l y).1 hy)))
  refine List.Pairwise.imp_of_mem (fun hx hy h => ?_) (List.Pairwise.and hs hnd)
  have := ordN_to.eq _ _ (hg _ hx) (hg _ hy)
  rcases Int.lt_or_eq_of_le h.1 with h1 | h1
  · exact h1
  · exact absurd (this.1 h1) h.2
theorem split_ahead (t : S42) (gt : GoodN t) : ∀ (l : List S42), (∀ x ∈ l, GoodN x) → l.Pairwise (fun x y => ordN x y < 0) →
    l.take (ahead l t) = l.filter (fun x => decide (ordN x t < 0)) ∧ l.drop (ahead l t) = l.filter (fun x => !decide (ordN x t < 0))
  | [], _, _ => ⟨by simp, by simp⟩
  | x :: r, hg, hs => by
    rw [List.pairwise_cons] at hs
    have ih := split_ahead t gt r (fun y hy => hg y (List.mem_cons_of_mem _ hy)) hs.2
    by_cases h : ordN x t < 0
    · have e : ahead (x :: r) t = ahead r t + 1 := by unfold ahead; rw [List.filter_cons_of_pos (by simp [h])]; rfl
      rw [e, List.take_succ_cons, List.drop_succ_cons, ih.1, ih.2, List.filter_cons_of_pos (by simp [h]), List.filter_cons_of_neg (by simp [h])]
      exact ⟨rfl, rfl⟩
    · have hn : ∀ y ∈ r, ¬ ordN y t < 0 := fun y hy h2 => h (ordN_to.tr x y t (hg x List.mem_cons_self) (hg y (List.mem_cons_of_mem _ hy)) gt (hs.1 y hy) h2)
      have f0 : (x :: r).filter (fun x => decide (ordN x t < 0)) = [] := by
        rw [List.filter_eq_nil_iff]
        intro y hy
        rcases List.mem_cons.1 hy with rfl | hy
        · simp only [decide_eq_true_eq]; exact h
        · simp only [decide_eq_true_eq]; exact hn y hy
      have e : ahead (x :: r) t = 0 := by unfold ahead; rw [f0]; rfl
      rw [e, f0]
      refine ⟨rfl, ?_⟩
      rw [List.drop_zero]
      refine (List.filter_eq_self.2 fun y hy => ?_).symm
      rcases List.mem_cons.1 hy with rfl | hy
      · simp [h]
      · simp [hn y hy]
/-- The reference's set with a node. -/
def rwithN (l : List S42) (t : S42) : List S42 := l.filter (fun x => decide (ordN x t < 0)) ++ [t] ++ l.filter (fun x => decide (ordN t x < 0))
theorem mem_rwithN {l : List S42} {t : S42} (hg : ∀ x ∈ l, GoodN x) (gt : GoodN t) (x : S42) : x ∈ rwithN l t ↔ x ∈ l ∨ x = t := by
  unfold rwithN
  simp only [List.mem_append, List.mem_filter, List.mem_singleton, decide_eq_true_eq]
  constructor
  · rintro ((h | h) | h)
    · exact Or.inl h.1
    · exact Or.inr h
    · exact Or.inl h.1
  · rintro (h | h)
    · have h1 := ordN_to.sym x t (hg x h) gt
      have h2 := ordN_to.eq x t (hg x h) gt
      rcases ordN_to.tri x t with e | e | e
      · exact Or.inl (Or.inl ⟨h, by omega⟩)
      · exact Or.inl (Or.inr (h2.1 e))
      · exact Or.inr ⟨h, by omega⟩
    · exact Or.inl (Or.inr h)
theorem rwithN_set {l : List S42} {t : S42} (h : IsSet l) (gt : GoodN t) (mt : mayN t = true) : IsSet (rwithN l t) := by
  refine ⟨fun x hx => ?_, fun x hx => ?_, ?_⟩
  · rcases (mem_rwithN h.good gt x).1 hx with e | e
    · exact h.good x e
    · subst e; exact gt
  · rcases (mem_rwithN h.good gt x).1 hx with e | e
    · exact h.may x e
    · subst e; exact mt
  · unfold rwithN
    rw [List.pairwise_append, List.pairwise_append]
    refine ⟨⟨h.lt.filter _, List.pairwise_singleton _ _, fun a ha b hb => ?_⟩, h.lt.filter _, fun a ha b hb => ?_⟩
    · simp only [List.mem_singleton] at hb
      subst hb
      exact of_decide_eq_true (List.mem_filter.1 ha).2
    · have hb1 := List.mem_filter.1 hb
      have hb2 : ordN t b < 0 := of_decide_eq_true hb1.2
      rcases List.mem_append.1 ha with ha | ha
      · have ha1 := List.mem_filter.1 ha
        exact ordN_to.tr a t b (h.good a ha1.1) gt (h.good b hb1.1) (of_decide_eq_true ha1.2) hb2
      · simp only [List.mem_singleton] at ha
        subst ha
        exact hb2
/-- The reference's set of a list. -/
def rsetN (l : List S42) : List S42 := l.foldl rwithN []
theorem rsetN_facts (l : List S42) (ht : ∀ x ∈ l, TinyN x) (hm : ∀ x ∈ l, mayN x = true) : ∀ (acc : List S42), IsSet acc → IsSet (l.foldl rwithN acc) ∧ ∀ x, x ∈ l.foldl rwithN acc ↔ x ∈ acc ∨ x ∈ l := by
  induction l with
  | nil => intro acc h; exact ⟨h, fun x => by simp⟩
  | cons y r ih =>
    intro acc h
    have my := hm y List.mem_cons_self
    have gy := mayN_good (ht y List.mem_cons_self) my
    rw [List.foldl_cons]
    have h2 := ih (fun x hx => ht x (List.mem_cons_of_mem _ hx)) (fun x hx => hm x (List.mem_cons_of_mem _ hx)) _ (rwithN_set h gy my)
    refine ⟨h2.1, fun x => (h2.2 x).trans ?_⟩
    rw [mem_rwithN h.good gy, List.mem_cons, or_assoc]
theorem setN_ref {l : List S42} (ht : ∀ x ∈ l, TinyN x) (hm : ∀ x ∈ l, mayN x = true) : setN l = rsetN l := by
  have h2 := rsetN_facts l ht hm [] IsSet.nil
  exact (setN_set ht hm).ext h2.1 (fun x => (mem_setN l x).trans (by rw [show rsetN l = l.foldl rwithN [] from rfl, h2.2 x]; simp))
end Go.Proofs.YtffcbfclpfchnaaGreatDoor.Q
end

section
namespace Go.Proofs.YtffcbfclpfchnaaGreatDoor.Q
open Go.RowKit Go.Proofs.YtffcbfclpfchnaaGreatDoorW.PrintWords Go.Proofs.YtffcbfclpfchnaaGreatDoorW.PrintLast Go.Proofs.YtffcbfclpfchnaaGreatDoorW.PrintMore
attribute [local go_sem] max2_int min2_int max_two min_two max_three min_three max_four min_four   -- for this text's walks alone
set_option linter.unusedVariables false
set_option linter.unusedSimpArgs false
/-! ### lack_Missing: function 7 -/
def lack_Missing.f (l0 : List (S42)) (l1 : List (S42)) : Option ((List (S42)) × Int) := (node_Minus.f l0 l1).bind fun bt178 => (some (bt178.1, bt178.2))
set_option maxHeartbeats 8000000 in
set_option maxRecDepth 100000 in
theorem lack_Missing.calls (A0 : Option Addr) (c0 : Nat) (l0 : List (S42)) (A1 : Option Addr) (c1 : Nat) (l1 : List (S42)) (r1 : List (S42)) (r2 : Int) (w : World) (hr0 : Kd.C k42 w A0 l0.length l0) (hc0 : l0.length ≤ c0) (hr1 : Kd.C k42 w A1 l1.length l1) (hc1 : l1.length ≤ c1) (h : lack_Missing.f l0 l1 = some (r1, r2)) :
    Calls Tryz.prog 7 #[.slice A0 l0.length c0, .slice A1 l1.length c1] w fun e w' => ∃ v0_ : Value, e = .returned (.tuple #[v0_, .int .i64 r2]) ∧ Kd.R k42 42 w' w.heap.size (fun _ => True) v0_ r1 ∧ Below w.heap.size w w' := by
  have HR0 := Aside0.mk hr0
  have HC0 := Aside0.mk hc0
  clear hr0 hc0
  have HR1 := Aside0.mk hr1
  have HC1 := Aside0.mk hc1
  clear hr1 hc1
  have HB := Aside0.mk (Below.refl w.heap.size w)
  have H : ((node_Minus.f l0 l1).bind fun bt178 => (some (bt178.1, bt178.2))) = some (r1, r2) := h
  clear h
  replace H := Option.bind_eq_some_iff.mp H
  obtain ⟨⟨t178, t179⟩, A30, H⟩ := H
  replace H : (some (t178, t179)) = some (r1, r2) := H
  have A3 := Aside0.mk A30
  clear A30
  simp only [Option.some.injEq, Prod.mk.injEq] at H
  obtain ⟨rfl, rfl⟩ := H
  go_enter Tryz.func7, Tryz.ntmps7
  go_wp2_with (first | ((with_reducible refine gate_callee (f := 21) rfl ?_); refine goesL_ (some 8) rfl rfl Tryz.func21 (by kernel_rfl) rfl #[.slice A0 l0.length c0, .slice A1 l1.length c1] rfl (by (try simp only [List.map_toArray, List.map_cons, List.map_nil]); first | done | rfl | (simp only [List.length_drop, List.length_take]; rfl)) ?_; (with_reducible refine (node_Minus.calls _ _ l0 _ _ l1 t178 t179 _ ?side1 ?side2 ?side3 ?side4 A3.out).mono ?_); (case side1 => repeat (first | exact HR0.out | (with_reducible refine Kd.C_alloc ?_ _) | (with_reducible refine Kd.C_drewN ?_ _) | (with_reducible refine Kd.C_drew ?_))); (case side2 => exact HC0.out); (case side3 => repeat (first | exact HR1.out | (with_reducible refine Kd.C_alloc ?_ _) | (with_reducible refine Kd.C_drewN ?_ _) | (with_reducible refine Kd.C_drew ?_))); (case side4 => exact HC1.out); rintro e w4 ⟨v180, rfl, ho0, hb⟩; refine ⟨_, rfl, ?_⟩; have n0_ := Aside0.mk (Kd.R_lower ho0 (below_size (by repeat (first | (with_reducible first | exact HB.out | apply below_alloc | apply pw_below_drewN | apply below_drew1) | exact HB.out)))); have n1_ := Aside0.mk (below_step (by repeat (first | (with_reducible first | exact HB.out | apply below_alloc | apply pw_below_drewN | apply below_drew1) | exact HB.out)) hb); clear HB; have HO181 := n0_; have HB := n1_; clear n0_ n1_; (try clear hb); (try clear hb2); (try clear hk); (try clear hi); (try clear ho0)))
  go_ret2
  exact ⟨_, by first | rfl | (simp [errW_none, errW_some] <;> rfl) | (simp [*, errW_none, errW_some] <;> rfl), by (with_reducible repeat (first | apply Kd.R_alloc | apply Kd.R_drewN | apply Kd.R_drew)); exact HO181.out, by repeat (first | (with_reducible first | exact HB.out | apply below_alloc | apply pw_below_drewN | apply below_drew1) | exact HB.out)⟩
end Go.Proofs.YtffcbfclpfchnaaGreatDoor.Q
end

section
namespace Go.Proofs.YtffcbfclpfchnaaGreatDoor.Q
open Go.Proofs.YtffcbfclpfchnaaGreatDoor.QB.D
open Go Go.RowKit Go.Lib Go.Proofs.YtffcbfclpfchnaaGreatDoorW.PrintWords Go.Proofs.YtffcbfclpfchnaaGreatDoorW.PrintLast Go.Proofs.YtffcbfclpfchnaaGreatDoorW.PrintMore Gw
set_option linter.unusedVariables false
set_option linter.unusedSimpArgs false
def lackOf (live : List S42) (l : List S51) (n : S42) : S55 := ⟨n, (byF l n).filter (fun x => !(!decide (x ∈ live))), rootF l n⟩
def goneF (live keys : List S42) : List S42 := live.filter (fun x => !decide (x ∈ keys))
def ofF (live keys : List S42) (l : List S51) : List S55 := (goneF live keys).map (lackOf live l)
def lack_Of.f (live keys : List S42) (l : List S51) : Option (List S55 × Int) :=
  if live.length ≤ 65536 ∧ keys.length ≤ 65536 ∧ l.length ≤ 65536 ∧ (∀ x ∈ live, Brief x) ∧ (∀ x ∈ keys, Brief x) ∧ (∀ e ∈ l, Brief e.f0 ∧ Brief e.f1) then
    some (if checkN live = true ∧ checkN keys = true ∧ okE l = true then (ofF live keys l, 0) else ([], 1)) else none
theorem by_len (l : List S51) (n : S42) : (byF l n).length ≤ l.length := by
  unfold byF setN
  rw [(sortN_perm _).length_eq]
  have h1 := ded_len (needF l n) (needF l n).length (Nat.le_refl _)
  rw [List.take_length] at h1
  exact Nat.le_trans h1 (need_len l n)
set_option maxHeartbeats 4000000 in
set_option maxRecDepth 100000 in
theorem of_bad (A0 : Option Addr) (c0 : Nat) (l0 : List S42) (A1 : Option Addr) (c1 : Nat) (l1 : List S42) (A2 : Option Addr) (c2 : Nat) (l2 : List S51) (w : World) (hr0 : Kd.C k42 w A0 l0.length l0) (hc0 : l0.length ≤ c0) (hr1 : Kd.C k42 w A1 l1.length l1) (hc1 : l1.length ≤ c1) (hr2 : Kd.C k51 w A2 l2.length l2) (hc2 : l2.length ≤ c2)
    (h0 : l0.length ≤ 65536) (h1 : l1.length ≤ 65536) (h2 : l2.length ≤ 65536) (b0 : ∀ x ∈ l0, Brief x) (b1 : ∀ x ∈ l1, Brief x) (b2 : ∀ e ∈ l2, Brief e.f0 ∧ Brief e.f1) (hk : ¬ (checkN l0 = true ∧ checkN l1 = true)) :
    Calls Tryz.prog 8 #[.slice A0 l0.length c0, .slice A1 l1.length c1, .slice A2 l2.length c2] w fun e w' => e = .returned (.tuple #[.slice none 0 0, .int .i64 1]) ∧ Below w.heap.size w w' := by
  have hM : lack_Missing.f l0 l1 = some ([], 1) := by
    unfold lack_Missing.f node_Minus.f
    rw [if_pos ⟨by omega, by omega, fun x hx => (b0 x hx).tiny, fun x hx => (b1 x hx).tiny⟩, if_neg hk]
    rfl
  have CM := fun (W : World) (h : Kd.C k42 W A0 l0.length l0) (h' : Kd.C k42 W A1 l1.length l1) => lack_Missing.calls A0 c0 l0 A1 c1 l1 [] 1 W h hc0 h' hc1 hM
  have HR0 := Aside0.mk hr0
  have HR1 := Aside0.mk hr1
  clear hr0 hr1 hr2 hM hk b0 b1 b2
  go_enter Tryz.func8, Tryz.ntmps8
  go_wp2_with fail
  refine (CM _ (Kd.C_alloc HR0.out _) (Kd.C_alloc HR1.out _)).mono ?_
  rintro e w1 ⟨v, rfl, ho, hb1⟩
  have HB1 : Aside0 (Below w.heap.size w w1) := ⟨(below_alloc (Below.refl _ _) _).trans (hb1.mono (by simp))⟩
  clear hb1 CM ho
  go_wp2
  go_ret2
  exact ⟨rfl, HB1.out⟩
set_option maxHeartbeats 4000000 in
set_option maxRecDepth 100000 in
theorem of_not (A0 : Option Addr) (c0 : Nat) (l0 : List S42) (A1 : Option Addr) (c1 : Nat) (l1 : List S42) (A2 : Option Addr) (c2 : Nat) (l2 : List S51) (w : World) (hr0 : Kd.C k42 w A0 l0.length l0) (hc0 : l0.length ≤ c0) (hr1 : Kd.C k42 w A1 l1.length l1) (hc1 : l1.length ≤ c1) (hr2 : Kd.C k51 w A2 l2.length l2) (hc2 : l2.length ≤ c2)
    (h0 : l0.length ≤ 65536) (h1 : l1.length ≤ 65536) (h2 : l2.length ≤ 65536) (b0 : ∀ x ∈ l0, Brief x) (b1 : ∀ x ∈ l1, Brief x) (b2 : ∀ e ∈ l2, Brief e.f0 ∧ Brief e.f1) (hk : checkN l0 = true ∧ checkN l1 = true) (hk2 : okE l2 = false) :
    Calls Tryz.prog 8 #[.slice A0 l0.length c0, .slice A1 l1.length c1, .slice A2 l2.length c2] w fun e w' => e = .returned (.tuple #[.slice none 0 0, .int .i64 1]) ∧ Below w.heap.size w w' := by
  have hM : lack_Missing.f l0 l1 = some (goneF l0 l1, 0) := by
    unfold lack_Missing.f node_Minus.f
    rw [if_pos ⟨by omega, by omega, fun x hx => (b0 x hx).tiny, fun x hx => (b1 x hx).tiny⟩, if_pos hk]
    rfl
  have hK : lack_Check.f l2 = some 1 := by
    have h : lack_Check.f l2 = some (kI (okE l2)) := if_pos ⟨by omega, fun x hx => ⟨(b2 x hx).1.tiny, (b2 x hx).2.tiny⟩⟩
    rw [hk2] at h; exact h
  have CM := fun (W : World) (h : Kd.C k42 W A0 l0.length l0) (h' : Kd.C k42 W A1 l1.length l1) => lack_Missing.calls A0 c0 l0 A1 c1 l1 _ 0 W h hc0 h' hc1 hM
  have CK := fun (W : World) (h : Kd.C k51 W A2 l2.length l2) => lack_Check.calls A2 c2 l2 1 W h hc2 hK
  have HR0 := Aside0.mk hr0
  have HR1 := Aside0.mk hr1
  have HR2 := Aside0.mk hr2
  clear hr0 hr1 hr2 hM hK hk hk2 b0 b1 b2
  go_enter Tryz.func8, Tryz.ntmps8
  go_wp2_with fail
  refine (CM _ (Kd.C_alloc HR0.out _) (Kd.C_alloc HR1.out _)).mono ?_
  rintro e w1 ⟨v, rfl, ho, hb1⟩
  have HB1 : Aside0 (Below w.heap.size w w1) := ⟨(below_alloc (Below.refl _ _) _).trans (hb1.mono (by simp))⟩
  clear hb1 CM ho
  go_wp2_with fail
  refine (CK _ (Kd.C_below HR2.out HB1.out)).mono ?_
  rintro e w2 ⟨rfl, hb2⟩
  have HB2 : Aside0 (Below w.heap.size w w2) := ⟨HB1.out.trans (hb2.mono HB1.out.size)⟩
  clear hb2 CK
  go_wp2
  go_ret2
  exact ⟨rfl, HB2.out⟩
set_option maxHeartbeats 8000000 in
set_option maxRecDepth 100000 in
theorem of_go (A0 : Option Addr) (c0 : Nat) (l0 : List S42) (A1 : Option Addr) (c1 : Nat) (l1 : List S42) (A2 : Option Addr) (c2 : Nat) (l2 : List S51) (w : World) (hr0 : Kd.C k42 w A0 l0.length l0) (hc0 : l0.length ≤ c0) (hr1 : Kd.C k42 w A1 l1.length l1) (hc1 : l1.length ≤ c1) (hr2 : Kd.C k51 w A2 l2.length l2) (hc2 : l2.length ≤ c2)
    (h0 : l0.length ≤ 65536) (h1 : l1.length ≤ 65536) (h2 : l2.length ≤ 65536) (b0 : ∀ x ∈ l0, Brief x) (b1 : ∀ x ∈ l1, Brief x) (b2 : ∀ e ∈ l2, Brief e.f0 ∧ Brief e.f1) (hk : checkN l0 = true ∧ checkN l1 = true) (hk2 : okE l2 = true) :
    Calls Tryz.prog 8 #[.slice A0 l0.length c0, .slice A1 l1.length c1, .slice A2 l2.length c2] w fun e w' => ∃ v, e = .returned (.tuple #[v, .int .i64 0]) ∧ Kd.S k55 55 w' w.heap.size (fun _ => True) v (ofF l0 l1 l2) ∧ Below w.heap.size w w' := by
  have hu24 := Tryz.underlying42
  have hu37 := Tryz.underlying55
  have hM : lack_Missing.f l0 l1 = some (goneF l0 l1, 0) := by
    unfold lack_Missing.f node_Minus.f
    rw [if_pos ⟨by omega, by omega, fun x hx => (b0 x hx).tiny, fun x hx => (b1 x hx).tiny⟩, if_pos hk]
    rfl
  have hK : lack_Check.f l2 = some 0 := by
    have h : lack_Check.f l2 = some (kI (okE l2)) := if_pos ⟨by omega, fun x hx => ⟨(b2 x hx).1.tiny, (b2 x hx).2.tiny⟩⟩
    rw [hk2] at h; exact h
  have hgm : ∀ x ∈ goneF l0 l1, Brief x ∧ mayN x = true := fun x hx => by
    have hx0 := (List.mem_filter.1 hx).1
    exact ⟨b0 x hx0, List.all_eq_true.1 (chk_facts l0 _ hk.1) x hx0⟩
  have hgl : (goneF l0 l1).length ≤ 65536 := Nat.le_trans (List.length_filter_le _ _) h0
  have CM := fun (W : World) (h : Kd.C k42 W A0 l0.length l0) (h' : Kd.C k42 W A1 l1.length l1) => lack_Missing.calls A0 c0 l0 A1 c1 l1 _ 0 W h hc0 h' hc1 hM
  have CK := fun (W : World) (h : Kd.C k51 W A2 l2.length l2) => lack_Check.calls A2 c2 l2 0 W h hc2 hK
  have CB := fun (n : S42) (hn : n ∈ goneF l0 l1) (W : World) (h : Kd.C k51 W A2 l2.length l2) => lack_By.calls (l2.length + 500) A2 c2 l2 n.f0 n.f1 (byF l2 n) (rootF l2 n) 0 W h hc2 (by rw [by_val l2 h2 b2 n (hgm n hn).1 _ (Nat.le_refl _), if_pos ⟨hk2, (hgm n hn).2⟩])
  have HR0 := Aside0.mk hr0
  have HR1 := Aside0.mk hr1
  have HR2 := Aside0.mk hr2
  have HGM := Aside0.mk hgm
  have HCB := Aside0.mk CB
  clear hr0 hr1 hr2 hM hK hk hk2 b0 b1 b2 hgm CB
  go_enter Tryz.func8, Tryz.ntmps8
  go_wp2_with fail
  refine (CM _ (Kd.C_alloc HR0.out _) (Kd.C_alloc HR1.out _)).mono ?_
  rintro e w1 ⟨vg, rfl, ho, hb1⟩
  have HX1 := Aside0.mk (blk_below (blk_new w (.cells #[.slice A0 l0.length c0] 22 (0, 0))) hb1)
  have HB1 : Aside0 (Below w.heap.size w w1) := ⟨(below_alloc (Below.refl _ _) _).trans (hb1.mono (by simp))⟩
  have HG1 : Aside0 (Kd.R k42 42 w1 w.heap.size (fun j => j ≠ w.heap.size) vg (goneF l0 l1)) := ⟨Kd.R_mono (Kd.R_lower (Kd.R_bound ho) (by simp)) (fun j hj => by have := hj.2.1; simp at this; omega)⟩
  obtain ⟨Ag, cg, eg⟩ := Kd.R_slice HG1.out
  subst eg
  have hz1 : w.heap.size + 1 ≤ w1.heap.size := by have := hb1.size; simp at this; omega
  clear hb1 CM ho
  go_wp2_with fail
  refine (CK _ (Kd.C_below HR2.out HB1.out)).mono ?_
  rintro e w2 ⟨rfl, hb2⟩
  have HB2 : Aside0 (Below w.heap.size w w2) := ⟨HB1.out.trans (hb2.mono HB1.out.size)⟩
  have HX2 := Aside0.mk (blk_below HX1.out hb2)
  have HG2 := Aside0.mk (Kd.R_below HG1.out hb2)
  have hz2 : w.heap.size + 1 ≤ w2.heap.size := Nat.le_trans hz1 hb2.size
  have hgl1 : ((goneF l0 l1).length : Int) ≤ 65536 := by omega
  clear hb2 CK HX1 HG1 HB1
  go_wp2_with fail
  go_loopw [10, 12, 13, 14, 15, 31] (fun v10 _ _ _ _ v31 wr => ∃ i : Nat, i ≤ (goneF l0 l1).length ∧ v31 = .int .i64 (i : Int) ∧ Aside0 (Kd.S k55 55 wr w.heap.size (fun j => j ≠ w.heap.size ∧ some j ≠ (Value.slice Ag (goneF l0 l1).length cg).ownBlock) v10 (((goneF l0 l1).take i).map (lackOf l0 l2))) ∧ Aside0 (Kd.R k42 42 wr w.heap.size (fun j => j ≠ w.heap.size ∧ some j ≠ v10.ownBlock) (.slice Ag (goneF l0 l1).length cg) (goneF l0 l1)) ∧ Aside0 (wr.heap[w.heap.size]? = some (.cells #[.slice A0 l0.length c0] 22 (0, 0))) ∧ Aside0 (Below w.heap.size w wr) ∧ w.heap.size + 1 ≤ wr.heap.size) (fun _ _ _ _ _ v31 _ => (goneF l0 l1).length - (RowKit.intOf v31).toNat)
  case atStart => exact ⟨0, Nat.zero_le _, rfl, ⟨Kd.S_nil _ _ _ _ _⟩, ⟨Kd.R_mono HG2.out (fun j hj => ⟨hj, by simp [Value.ownBlock]⟩)⟩, HX2, HB2, hz2⟩
  case round =>
    clear HG2 HX2 HB2 hz2
    obtain ⟨i, hi, rfl, HO, HG, HX, HB, hws⟩ := hrel
    by_cases hil : i < (goneF l0 l1).length
    · have j1 : (i : Int) < ((goneF l0 l1).length : Int) := by omega
      have hdi : decide ((i : Int) < ((goneF l0 l1).length : Int)) = true := decide_eq_true j1
      obtain ⟨n, hn⟩ : ∃ n, n = (goneF l0 l1)[i] := ⟨_, rfl⟩
      have hmem : n ∈ goneF l0 l1 := by rw [hn]; exact List.getElem_mem hil
      obtain ⟨gg, gc, hvv, _, _, _⟩ := Kd.R_form HG.out (by omega)
      injection hvv with f1 f2 f3
      subst f1
      have hrc := rowcells HG.out i hil
      rw [← hn] at hrc
      have x0 := hrc.1
      have x1 := hrc.2
      have htk : (goneF l0 l1).take (i + 1) = (goneF l0 l1).take i ++ [n] := by rw [hn]; exact List.take_succ_eq_append_getElem hil
      have HTK := Aside0.mk htk
      have HB3 := Aside0.mk (below_alloc HB.out (.cells #[.string n.f0, .string n.f1] 42 (0, 0)))
      have HO3 := Aside0.mk (Kd.S_alloc HO.out (.cells #[.string n.f0, .string n.f1] 42 (0, 0)))
      have HG3 := Aside0.mk (Kd.R_alloc HG.out (.cells #[.string n.f0, .string n.f1] 42 (0, 0)))
      have HX3 := Aside0.mk (blk_alloc HX.out (.cells #[.string n.f0, .string n.f1] 42 (0, 0)))
      have HN3 := Aside0.mk (blk_new wr (.cells #[.string n.f0, .string n.f1] 42 (0, 0)))
      have n0 : (wr.alloc (.cells #[.string n.f0, .string n.f1] 42 (0, 0))).cell? ⟨wr.heap.size, 0, none⟩ = some (.string n.f0) := (blk_cell HN3.out 0).trans rfl
      have n1 : (wr.alloc (.cells #[.string n.f0, .string n.f1] 42 (0, 0))).cell? ⟨wr.heap.size, 1, none⟩ = some (.string n.f1) := (blk_cell HN3.out 1).trans rfl
      have hcall := HCB.out n hmem (wr.alloc (.cells #[.string n.f0, .string n.f1] 42 (0, 0))) (Kd.C_below HR2.out HB3.out)
      have hbl := by_len l2 n
      have hol : (((goneF l0 l1).take i).map (lackOf l0 l2)).length ≤ 65536 := by rw [List.length_map, List.length_take]; omega
      clear hn hrc htk hmem f2 f3 HO HG HX
      go_wp2_with fail
      refine hcall.mono ?_
      rintro e w4 ⟨vb, rfl, ho4, hb4⟩
      have hdel := delF_calls (byF l2 n) (by omega) (fun x => !decide (x ∈ l0)) w.heap.size w4 _ vb ho4 hb4.size (fun x _ W' hW => of1_calls x l0 h0 A0 c0 hc0 w.heap.size W' ((blk_cell (blk_below HX3.out (hb4.trans hW)) 0).trans rfl) (blk_lt (blk_below HX3.out (hb4.trans hW))) (Kd.C_below HR0.out (below_step HB3.out (hb4.trans hW))))
      obtain ⟨rt, hrt⟩ : ∃ b, b = rootF l2 n := ⟨_, rfl⟩
      obtain ⟨bl, hbb⟩ : ∃ b, b = (byF l2 n).filter (fun x => !(!decide (x ∈ l0))) := ⟨_, rfl⟩
      have hlk : (⟨n, bl, rt⟩ : S55) = lackOf l0 l2 n := by rw [hbb, hrt]; rfl
      have HLK := Aside0.mk hlk
      rw [← hrt]
      rw [← hbb] at hdel
      have HB4 := Aside0.mk hb4
      clear hcall hrt hbb hlk ho4 hb4
      go_wp2_with fail
      refine hdel.mono ?_
      rintro e w5 ⟨vv, rfl, ho5, hb5⟩
      have hb45 := HB4.out.trans hb5
      have HO5 := Aside0.mk (Kd.S_old HO3.out hb45)
      have HG5 := Aside0.mk (Kd.R_below HG3.out hb45)
      have HX5 := Aside0.mk (blk_below HX3.out hb45)
      have HB5 := Aside0.mk (below_step HB3.out hb45)
      have p0 := (hb45.cell (p := ⟨wr.heap.size, 0, none⟩) (by simp)).trans n0
      have p1 := (hb45.cell (p := ⟨wr.heap.size, 1, none⟩) (by simp)).trans n1
      have hz5 : wr.heap.size + 1 ≤ w5.heap.size := by have := hb45.size; simp at this; omega
      have HBY : Aside0 (Kd.R k42 42 w5 w.heap.size (fun j => j ≠ w.heap.size ∧ some j ≠ (Value.slice (some ⟨gg, 0, none⟩) (goneF l0 l1).length cg).ownBlock ∧ some j ≠ u10.ownBlock) vv bl) := ⟨Kd.R_mono (Kd.R_lower (Kd.R_bound ho5) (by simp; omega)) (fun j hj => by
        have h9 := hj.2.1
        simp at h9
        refine ⟨by omega, fun e => ?_, fun e => ?_⟩
        · have h8 := Kd.R_lt HG3.out j e.symm
          have h7 := hj.2.1
          omega
        · have h8 := Kd.S_lt HO3.out j e.symm
          have h7 := hj.2.1
          omega)⟩
      have HVB := Aside0.mk (Kd.R_base ho5)
      obtain ⟨Av, cv, ev⟩ := Kd.R_slice HBY.out
      subst ev
      clear hdel ho5 hb5 hb45 n0 n1 HO3 HG3 HX3 HB3 HN3 HB4
      go_wp2_with (first
        | ((with_reducible refine gate_builtin (b := .append) (xs := #[.tmp 48, .tmp 53]) rfl ?_); at_builtin; refine Kd.S_append k55 (w0 := w) w.heap.size rfl (.tmp 48) (.tmp 53) 29 55 (.agg #[(.string ⟨#[]⟩), (.string ⟨#[]⟩), (.slice none 0 0), (.bool false)]) 64 rfl Tryz.underlying29 info55 rfl (by decide) (by omega) u10 (((goneF l0 l1).take i).map (lackOf l0 l2)) ⟨n, bl, rt⟩ [.string n.f0, .string n.f1, .slice Av bl.length cv, .bool rt] (fun j => j ≠ w.heap.size ∧ some j ≠ (Value.slice (some ⟨gg, 0, none⟩) (goneF l0 l1).length cg).ownBlock) (fun j => some j = (Value.slice Av bl.length cv).ownBlock) rfl rfl ?aP (fun k hk => ⟨⟨(HBY.out.1 k hk.symm).1, (HBY.out.1 k hk.symm).2.1⟩, (HBY.out.1 k hk.symm).2.2⟩) ?aF ?aO ?aB ?aS ?aL ?_; (case aP => exact k55_mkM _ _ _ ⟨n, bl, rt⟩ (Kd.R_mono (Kd.R_tight rfl HBY.out) (fun _ h => h))); (case aB => exact HB5.out); (case aF => exact (fun j hj => ⟨by omega, fun e => absurd (Kd.R_lt HG5.out j e.symm) (by omega)⟩)); (case aO => exact Kd.S_mono HO5.out (fun k hk => ⟨hk.1, fun e => absurd (HVB.out k e.symm) (by have := hk.2; omega)⟩)); (case aS => exact HB5.out.size); (case aL => omega); intro v9 w9 ho9 hb9 hg9 hat9)
        | fail)
      have HO9 := Aside0.mk ho9
      have HB9 := Aside0.mk hb9
      have HX9 := Aside0.mk (blk_grown HX5.out hg9 (Kd.S_ne HO5.out HX5.out (by decide)))
      have HG9 := Aside0.mk (Kd.R_after (ok := fun j => j ≠ w.heap.size) HG5.out hg9 hat9)
      have hz9 := hg9.size
      clear ho9 hb9 hg9 hat9
      go_roundw
      case rel => exact ⟨i + 1, by omega, by go_num, ⟨by rw [HTK.out, List.map_append, List.map_cons, List.map_nil, ← HLK.out]; exact HO9.out⟩, HG9, HX9, HB9, by omega⟩
      case measure => simp [RowKit.intOf]; omega
    · obtain rfl : i = (goneF l0 l1).length := by omega
      have hdi : decide (((goneF l0 l1).length : Int) < ((goneF l0 l1).length : Int)) = false := decide_eq_false (by omega)
      have ho := HO.out
      rw [List.take_length] at ho
      have HOF := Aside0.mk ho
      clear ho HO HG HX
      go_wp2
      go_ret2
      exact ⟨_, rfl, Kd.S_mono HOF.out (fun _ _ => trivial), HB.out⟩
theorem lack_Of.calls (A0 : Option Addr) (c0 : Nat) (l0 : List S42) (A1 : Option Addr) (c1 : Nat) (l1 : List S42) (A2 : Option Addr) (c2 : Nat) (l2 : List S51) (r1 : List S55) (r2 : Int) (w : World) (hr0 : Kd.C k42 w A0 l0.length l0) (hc0 : l0.length ≤ c0) (hr1 : Kd.C k42 w A1 l1.length l1) (hc1 : l1.length ≤ c1) (hr2 : Kd.C k51 w A2 l2.length l2) (hc2 : l2.length ≤ c2) (h : lack_Of.f l0 l1 l2 = some (r1, r2)) :
    Calls Tryz.prog 8 #[.slice A0 l0.length c0, .slice A1 l1.length c1, .slice A2 l2.length c2] w fun e w' => ∃ v, e = .returned (.tuple #[v, .int .i64 r2]) ∧ Kd.S k55 55 w' w.heap.size (fun _ => True) v r1 ∧ Below w.heap.size w w' := by
  unfold lack_Of.f at h
  split at h
  case isFalse => cases h
  case isTrue hc =>
    obtain ⟨h0, h1, h2, b0, b1, b2⟩ := hc
    injection h with h
    split at h
    case isTrue hk =>
      injection h with e1 e2
      subst e1 e2
      exact of_go A0 c0 l0 A1 c1 l1 A2 c2 l2 w hr0 hc0 hr1 hc1 hr2 hc2 h0 h1 h2 b0 b1 b2 ⟨hk.1, hk.2.1⟩ hk.2.2
    case isFalse hk =>
      injection h with e1 e2
      subst e1 e2
      by_cases hk2 : checkN l0 = true ∧ checkN l1 = true
      · have hk3 : okE l2 = false := by
          cases h9 : okE l2 with
          | false => rfl
          | true => exact absurd ⟨hk2.1, hk2.2, h9⟩ hk
        refine (of_not A0 c0 l0 A1 c1 l1 A2 c2 l2 w hr0 hc0 hr1 hc1 hr2 hc2 h0 h1 h2 b0 b1 b2 hk2 hk3).mono ?_
        rintro e w' ⟨rfl, hb⟩
        exact ⟨_, rfl, Kd.S_nil _ _ _ _ _, hb⟩
      · refine (of_bad A0 c0 l0 A1 c1 l1 A2 c2 l2 w hr0 hc0 hr1 hc1 hr2 hc2 h0 h1 h2 b0 b1 b2 hk2).mono ?_
        rintro e w' ⟨rfl, hb⟩
        exact ⟨_, rfl, Kd.S_nil _ _ _ _ _, hb⟩
theorem mem_byF {l : List S51} {n x : S42} : x ∈ byF l n ↔ x ≠ z42 ∧ ⟨x, n⟩ ∈ l := (mem_setN _ _).trans mem_need
theorem byF_set {l : List S51} (n : S42) (hb : ∀ e ∈ l, Brief e.f0 ∧ Brief e.f1) (hok : okE l = true) : IsSet (byF l n) := setN_set (fun x hx => (hb _ (mem_need.1 hx).2).1.tiny) (fun x hx => need_may hok hx)
theorem byF_same {l m : List S51} (n : S42) (h : ∀ e, e ∈ l ↔ e ∈ m) (hb : ∀ e ∈ l, Brief e.f0 ∧ Brief e.f1) (hok : okE l = true) : byF l n = byF m n :=
  (byF_set n hb hok).ext (byF_set n (fun e he => hb e ((h e).2 he)) (by rw [← okE_same h]; exact hok)) (fun x => by rw [mem_byF, mem_byF, h])
theorem rootF_same {l m : List S51} (n : S42) (h : ∀ e, e ∈ l ↔ e ∈ m) : rootF l n = rootF m n := by rw [Bool.eq_iff_iff, mem_root, mem_root, h]
theorem ofF_same (live keys : List S42) {l m : List S51} (h : ∀ e, e ∈ l ↔ e ∈ m) (hb : ∀ e ∈ l, Brief e.f0 ∧ Brief e.f1) (hok : okE l = true) : ofF live keys l = ofF live keys m := by
  unfold ofF
  refine List.map_congr_left fun n _ => ?_
  unfold lackOf
  rw [byF_same n h hb hok, rootF_same n h]
theorem byF_root (l : List S51) (n n0 : S42) : byF (l ++ [⟨z42, n0⟩]) n = byF l n := by
  unfold byF needF
  rw [List.filter_append, List.filter_cons_of_neg (by simp), List.filter_nil, List.append_nil]
theorem rootF_root (l : List S51) (n n0 : S42) : rootF (l ++ [⟨z42, n0⟩]) n = (rootF l n || decide (n0 = n)) := by
  unfold rootF
  rw [List.any_append]
  simp
theorem lackOf_root (live : List S42) (l : List S51) (n : S42) : lackOf live (l ++ [⟨z42, n⟩]) n = ⟨n, (lackOf live l n).f1, true⟩ := by
  unfold lackOf
  rw [byF_root, rootF_root, decide_eq_true rfl, Bool.or_true]
theorem lackOf_other (live : List S42) (l : List S51) (n n0 : S42) (h : n0 ≠ n) : lackOf live (l ++ [⟨z42, n0⟩]) n = lackOf live l n := by
  unfold lackOf
  rw [byF_root, rootF_root, decide_eq_false h, Bool.or_false]
theorem okE_root (l : List S51) (n : S42) (hok : okE l = true) (hn : mayN n = true) : okE (l ++ [⟨z42, n⟩]) = true := by
  rw [okE_iff] at hok ⊢
  intro e he
  rcases List.mem_append.1 he with h | h
  · exact hok e h
  · rw [List.mem_singleton] at h
    subst h
    unfold badE
    simp [hn]
theorem goneF_set {live : List S42} (keys : List S42) (h : IsSet live) : IsSet (goneF live keys) := h.filter _
theorem mem_goneF {live keys : List S42} {x : S42} : x ∈ goneF live keys ↔ x ∈ live ∧ x ∉ keys := by
  unfold goneF
  rw [List.mem_filter]
  simp
theorem goneF_nil (live : List S42) : goneF live [] = live := List.filter_eq_self.2 fun x _ => by simp
theorem goneF_self (live : List S42) : goneF live live = [] := List.filter_eq_nil_iff.2 fun x hx => by simp [hx]
theorem goneF_len (live keys : List S42) : (goneF live keys).length ≤ live.length := List.length_filter_le _ _
theorem ofF_len (live keys : List S42) (l : List S51) : (ofF live keys l).length = (goneF live keys).length := List.length_map _
theorem lackBy_len (live : List S42) (l : List S51) (n : S42) : (lackOf live l n).f1.length ≤ l.length := Nat.le_trans (List.length_filter_le _ _) (by_len l n)
theorem ofF_by (live keys : List S42) (l : List S51) : ∀ x ∈ ofF live keys l, x.f1.length ≤ l.length := fun x hx => by
  obtain ⟨n, _, rfl⟩ := List.mem_map.1 hx
  exact lackBy_len live l n
/-- What lack.Of yields of brief lists. -/
theorem lackOf_val (live keys : List S42) (l : List S51) (h0 : live.length ≤ 65536) (h1 : keys.length ≤ 65536) (h2 : l.length ≤ 65536) (b0 : ∀ x ∈ live, Brief x) (b1 : ∀ x ∈ keys, Brief x) (b2 : ∀ e ∈ l, Brief e.f0 ∧ Brief e.f1) :
    lack_Of.f live keys l = some (if checkN live = true ∧ checkN keys = true ∧ okE l = true then (ofF live keys l, 0) else ([], 1)) := if_pos ⟨h0, h1, h2, b0, b1, b2⟩
theorem missing_val (live keys : List S42) (h0 : live.length ≤ 65536) (h1 : keys.length ≤ 65536) (b0 : ∀ x ∈ live, Brief x) (b1 : ∀ x ∈ keys, Brief x) :
    lack_Missing.f live keys = some (if checkN live = true ∧ checkN keys = true then (goneF live keys, 0) else ([], 1)) := by
  unfold lack_Missing.f node_Minus.f
  rw [if_pos ⟨by omega, by omega, fun x hx => (b0 x hx).tiny, fun x hx => (b1 x hx).tiny⟩]
  rfl
end Go.Proofs.YtffcbfclpfchnaaGreatDoor.Q
end
