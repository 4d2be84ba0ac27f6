/- Word: the printed functions of this seat and their contracts: what each answers, at arguments that its contract names (text Q3 of the print). Written by my program wip/tools/myprint.py out of the kit's print and my own contracts. -/
import Derived.Test.YtbkcjgjcnnggbaaQ0
import Derived.Test.YtbkcjgjcnnggbaaQ1
import Derived.Test.YtbkcjgjcnnggbaaQ2
namespace Go.Proofs.Ytbkcjgjcnnggbaa.Q
open Go.RowKit Go.Proofs.YtbkcjgjcnnggbaaW.PrintWords Go.Proofs.YtbkcjgjcnnggbaaW.PrintLast Go.Proofs.YtbkcjgjcnnggbaaW.PrintMore
attribute [local go_sem] max2_int min2_int max_two min_two max_three min_three max_four min_four   -- for this text's walks alone
set_option linter.unusedVariables false
set_option linter.unusedSimpArgs false

/-! ### graftwoodref04_May: function 21 -/
def graftwoodref04_May.l0 : Nat → List ByteArray → Int → Option (Bool)
  | 0, _, _ => none
  | k + 1, x3, x4 => if x4 < (x3.length : Int) then (if 0 ≤ x4 then ((graftwoodref04_Element.f k (rdOf ByteArray.empty x3 x4)).bind fun t132 => (if t132 = true then (graftwoodref04_May.l0 k x3 (wrap64 (x4 + 1))) else (some false))) else (none)) else (some true)
def graftwoodref04_May.f (k : Nat) (a0 : ByteArray) : Option (Bool) := (graftwoodref01_Parts.f k a0 47).bind fun t128 => (graftwoodref04_May.l0 k t128 0)
theorem graftwoodref04_May.mono_l : ∀ k, (∀ y0 y1, LeO (graftwoodref04_May.l0 k y0 y1) (graftwoodref04_May.l0 (k + 1) y0 y1))
  | 0 => fun _ _ r h => by simp [graftwoodref04_May.l0] at h
  | k + 1 => by
    have ih0 := graftwoodref04_May.mono_l k
    · intro y0 y1
      unfold graftwoodref04_May.l0
      repeat' first
      | (with_reducible exact ih0 _ _)
      | (with_reducible exact graftwoodref01_Parts.mono _ _ _)
      | (with_reducible exact graftwoodref04_Element.mono _ _)
      | (with_reducible exact LeO.refl _)
      | (with_reducible exact LeO.none _)
      | (with_reducible refine LeO.ite ?_ ?_)
      | (with_reducible refine LeO.bind ?_ (fun _ => ?_))
      | exact ih0 _ _
      | exact graftwoodref01_Parts.mono _ _ _
      | exact graftwoodref04_Element.mono _ _
      | exact LeO.none _
      | refine LeO.ite ?_ ?_
      | refine LeO.bind ?_ (fun _ => ?_)
theorem graftwoodref04_May.mono : ∀ a0 k, LeO (graftwoodref04_May.f k a0) (graftwoodref04_May.f (k + 1) a0) := by
  intro a0 k
  have ih0 := graftwoodref04_May.mono_l k
  unfold graftwoodref04_May.f
  repeat' first
      | (with_reducible exact ih0 _ _)
      | (with_reducible exact graftwoodref01_Parts.mono _ _ _)
      | (with_reducible exact graftwoodref04_Element.mono _ _)
      | (with_reducible exact LeO.refl _)
      | (with_reducible exact LeO.none _)
      | (with_reducible refine LeO.ite ?_ ?_)
      | (with_reducible refine LeO.bind ?_ (fun _ => ?_))
      | exact ih0 _ _
      | exact graftwoodref01_Parts.mono _ _ _
      | exact graftwoodref04_Element.mono _ _
      | exact LeO.none _
      | refine LeO.ite ?_ ?_
      | refine LeO.bind ?_ (fun _ => ?_)
set_option maxHeartbeats 8000000 in
set_option maxRecDepth 100000 in
theorem graftwoodref04_May.calls (k : Nat) (a0 : ByteArray) (r : Bool) (w : World) (h : graftwoodref04_May.f k a0 = some r) :
    Calls Try.prog 21 #[.string a0] w fun e w' => e = .returned (.bool r) ∧ Below w.heap.size w w' := by
  have HB := Aside0.mk (Below.refl w.heap.size w)
  have H : ((graftwoodref01_Parts.f k a0 47).bind fun t128 => (graftwoodref04_May.l0 k t128 0)) = some r := h
  clear h
  replace H := Option.bind_eq_some_iff.mp H
  obtain ⟨t128, A20, H⟩ := H
  replace H : (graftwoodref04_May.l0 k t128 0) = some r := H
  have A2 := Aside0.mk A20
  clear A20
  have H' := Aside0.mk H
  clear H
  go_enter Try.func21, Try.ntmps21
  go_wp2_with (first | ((with_reducible refine gate_callee (f := 23) rfl ?_); refine goesL_ (some 6) rfl rfl Try.func23 (by kernel_rfl) rfl #[.string a0, .int .u8 47] rfl (by (try simp only [List.map_toArray, List.map_cons, List.map_nil]); first | done | rfl | (simp only [List.length_drop, List.length_take]; rfl)) ?_; (with_reducible refine (graftwoodref01_Parts.calls k a0 47 t128 _ A2.out).mono ?_); rintro e w3 ⟨v129, rfl, ho0, hb⟩; refine ⟨_, rfl, ?_⟩; have n0_ := Aside0.mk (Kd.R_lower ho0 (below_size (by repeat (first | (with_reducible first | exact HB.out | apply below_alloc | apply pw_below_drewN | apply below_drew1) | exact HB.out)))); have n1_ := Aside0.mk (below_step (by repeat (first | (with_reducible first | exact HB.out | apply below_alloc | apply pw_below_drewN | apply below_drew1) | exact HB.out)) hb); clear HB; have HO130 := n0_; have HB := n1_; clear n0_ n1_; (try clear hb); (try clear hb2); (try clear hk); (try clear hi); (try clear ho0)))
  go_loopg [4] k (fun kq v4 w' => ∃ (x4_1 : Int), v4 = .int .i64 x4_1 ∧ Aside0 (graftwoodref04_May.l0 kq t128 x4_1 = some r) ∧ Aside0 (kq ≤ k) ∧ Aside0 (Kd.R Kd.string 9 w' w.heap.size (fun _ => True) v129 t128) ∧ Aside0 (Below w.heap.size w w'))
  case atStart => exact ⟨(0), (by first | rfl | (simp; done) | (simp [*]; done)), H', ⟨Nat.le_refl _⟩, ⟨by (with_reducible repeat (first | apply Kd.R_alloc | apply Kd.R_drewN | apply Kd.R_drew)); exact HO130.out⟩, ⟨by repeat (first | (with_reducible first | exact HB.out | apply below_alloc | apply pw_below_drewN | apply below_drew1) | exact HB.out)⟩⟩
  case round =>
    clear H'
    try clear c2
    try clear p2
    obtain ⟨x4_1, rfl, HA, HK1, HO_3, HB⟩ := hrel
    cases gk with
    | zero => exact absurd HA.out (by simp [graftwoodref04_May.l0])
    | succ k1 =>
      have H := HA.out
      clear HA
      simp only [graftwoodref04_May.l0] at H
      by_cases c4 : x4_1 < (t128.length : Int)
      · rw [if_pos c4] at H
        have c4b0 : decide (x4_1 < (t128.length : Int)) = true := decide_eq_true c4
        clear c4
        by_cases c5 : 0 ≤ x4_1
        · rw [if_pos c5] at H
          have c5b0 : decide (0 ≤ x4_1) = true := decide_eq_true c5
          clear c5
          replace H := Option.bind_eq_some_iff.mp H
          obtain ⟨t132, A60, H⟩ := H
          replace H : (if t132 = true then (graftwoodref04_May.l0 k1 t128 (wrap64 (x4_1 + 1))) else (some false)) = some r := H
          have A6 := Aside0.mk A60
          clear A60
          by_cases c7 : t132 = true
          · subst c7
            have H1 : (graftwoodref04_May.l0 k1 t128 (wrap64 (x4_1 + 1))) = some r := by rw [if_pos rfl] at H; exact H
            clear H
            have H := H1
            clear H1
            have H' := Aside0.mk H
            clear H
            obtain ⟨Ao8, co8, eo8⟩ := Kd.R_slice HO_3.out
            subst eo8
            have p131 : 0 ≤ (x4_1 : Int) := of_decide_eq_true (by first | (with_reducible assumption) | assumption)
            have q131 : x4_1 < (t128.length : Int) := of_decide_eq_true (by first | (with_reducible assumption) | assumption)
            obtain ⟨ad131, e131, hx131_0⟩ := Kd.at_string (Kd.R_reads' HO_3.out).2.2 x4_1 p131 q131
            cases e131
            replace p131 := eq_true p131
            replace q131 := eq_true q131
            go_wp2_with (first | ((with_reducible refine gate_callee (f := 29) rfl ?_); refine goesL_ (some 17) rfl rfl Try.func29 (by kernel_rfl) rfl #[.string (rdOf ByteArray.empty t128 x4_1)] rfl (by (try simp only [List.map_toArray, List.map_cons, List.map_nil]); first | done | rfl | (simp only [List.length_drop, List.length_take]; rfl)) ?_; (with_reducible refine (graftwoodref04_Element.calls k1 (rdOf ByteArray.empty t128 x4_1) true _ A6.out).mono ?_); rintro e w' ⟨rfl, ⟨nd, rfl⟩⟩; refine ⟨_, rfl, ?_⟩))
            go_roundg k1
            case measure => have := HK1.out; omega
            case rel => exact ⟨(wrap64 (x4_1 + 1)), (by first | rfl | (simp; done) | (simp [*]; done)), H', ⟨by have := HK1.out; omega⟩, ⟨by (with_reducible repeat (first | apply Kd.R_alloc | apply Kd.R_drewN | apply Kd.R_drew)); exact HO_3.out⟩, ⟨by repeat (first | (with_reducible first | exact HB.out | apply below_alloc | apply pw_below_drewN | apply below_drew1) | exact HB.out)⟩⟩
          · replace c7 := Bool.eq_false_iff.mpr c7
            subst c7
            have H1 : (some false) = some r := by rw [if_neg (show ¬ (false = true) by decide)] at H; exact H
            clear H
            have H := H1
            clear H1
            obtain rfl := Option.some.inj H
            obtain ⟨Ao9, co9, eo9⟩ := Kd.R_slice HO_3.out
            subst eo9
            have p131 : 0 ≤ (x4_1 : Int) := of_decide_eq_true (by first | (with_reducible assumption) | assumption)
            have q131 : x4_1 < (t128.length : Int) := of_decide_eq_true (by first | (with_reducible assumption) | assumption)
            obtain ⟨ad131, e131, hx131_0⟩ := Kd.at_string (Kd.R_reads' HO_3.out).2.2 x4_1 p131 q131
            cases e131
            replace p131 := eq_true p131
            replace q131 := eq_true q131
            go_wp2_with (first | ((with_reducible refine gate_callee (f := 29) rfl ?_); refine goesL_ (some 17) rfl rfl Try.func29 (by kernel_rfl) rfl #[.string (rdOf ByteArray.empty t128 x4_1)] rfl (by (try simp only [List.map_toArray, List.map_cons, List.map_nil]); first | done | rfl | (simp only [List.length_drop, List.length_take]; rfl)) ?_; (with_reducible refine (graftwoodref04_Element.calls k1 (rdOf ByteArray.empty t128 x4_1) false _ A6.out).mono ?_); rintro e w' ⟨rfl, ⟨nd, rfl⟩⟩; refine ⟨_, rfl, ?_⟩))
            go_ret
            exact ⟨by first | rfl | (simp [errW_none, errW_some] <;> rfl) | (simp [*, errW_none, errW_some] <;> rfl), by repeat (first | (with_reducible first | exact HB.out | apply below_alloc | apply pw_below_drewN | apply below_drew1) | exact HB.out)⟩
        · rw [if_neg c5] at H
          exact absurd H (by simp)
      · rw [if_neg c4] at H
        have c4b0 : decide (x4_1 < (t128.length : Int)) = false := decide_eq_false c4
        clear c4
        obtain rfl := Option.some.inj H
        obtain ⟨Ao10, co10, eo10⟩ := Kd.R_slice HO_3.out
        subst eo10
        go_wp2
        go_ret
        exact ⟨by first | rfl | (simp [errW_none, errW_some] <;> rfl) | (simp [*, errW_none, errW_some] <;> rfl), by repeat (first | (with_reducible first | exact HB.out | apply below_alloc | apply pw_below_drewN | apply below_drew1) | exact HB.out)⟩

/-! ### graftwoodref02_digit: function 31 -/
def graftwoodref02_digit.f (a0 : Int) : Option (Int) := if a0 < 48 then (some (-1)) else (if a0 > 57 then (some (-1)) else (some (wrap64 ((wrap64 (a0)) - 48))))
set_option maxHeartbeats 8000000 in
set_option maxRecDepth 100000 in
theorem graftwoodref02_digit.calls (a0 : Int) (r : Int) (w : World) (h : graftwoodref02_digit.f a0 = some r) :
    Calls Try.prog 31 #[.int .u8 a0] w fun e w' => e = .returned (.int .i64 r) ∧ Drawn0 w w' := by
  have H : (if a0 < 48 then (some (-1)) else (if a0 > 57 then (some (-1)) else (some (wrap64 ((wrap64 (a0)) - 48))))) = some r := h
  clear h
  by_cases c2 : a0 < 48
  · rw [if_pos c2] at H
    have c2b0 : decide (a0 < 48) = true := decide_eq_true c2
    clear c2
    obtain rfl := Option.some.inj H
    go_enter Try.func31, Try.ntmps31
    go_wp2
    go_ret
    exact ⟨by first | rfl | (simp; done) | (simp [*]; done), by repeat (first | exact Drawn0.refl _ | apply Drawn0.step)⟩
  · rw [if_neg c2] at H
    have c2b0 : decide (a0 < 48) = false := decide_eq_false c2
    clear c2
    by_cases c3 : a0 > 57
    · rw [if_pos c3] at H
      have c3b0 : decide (57 < a0) = true := decide_eq_true c3
      clear c3
      obtain rfl := Option.some.inj H
      go_enter Try.func31, Try.ntmps31
      go_wp2
      go_ret
      exact ⟨by first | rfl | (simp; done) | (simp [*]; done), by repeat (first | exact Drawn0.refl _ | apply Drawn0.step)⟩
    · rw [if_neg c3] at H
      have c3b0 : decide (57 < a0) = false := decide_eq_false c3
      clear c3
      obtain rfl := Option.some.inj H
      go_enter Try.func31, Try.ntmps31
      go_wp2
      go_ret
      exact ⟨by first | rfl | (simp; done) | (simp [*]; done), by repeat (first | exact Drawn0.refl _ | apply Drawn0.step)⟩

/-! ### graftwoodref02_May: function 24 -/
def graftwoodref02_May.l0 : Nat → ByteArray → Int → Option (Bool)
  | 0, _, _ => none
  | k + 1, x0, x3 => if x3 < (x0.size : Int) then (if 0 ≤ x3 then ((graftwoodref02_digit.f (bt x0 x3)).bind fun t133 => (if t133 < 0 then (some false) else (graftwoodref02_May.l0 k x0 (wrap64 (x3 + 1))))) else (none)) else (if (x0.size : Int) = 1 then (some true) else (if (x0.size : Int) > 1 then (if 0 < (x0.size : Int) then (some ((bt x0 0) != 48)) else (none)) else (some false)))
def graftwoodref02_May.f (k : Nat) (a0 : ByteArray) : Option (Bool) := graftwoodref02_May.l0 k a0 0
theorem graftwoodref02_May.mono_l : ∀ k, (∀ y0 y1, LeO (graftwoodref02_May.l0 k y0 y1) (graftwoodref02_May.l0 (k + 1) y0 y1))
  | 0 => fun _ _ r h => by simp [graftwoodref02_May.l0] at h
  | k + 1 => by
    have ih0 := graftwoodref02_May.mono_l k
    · intro y0 y1
      unfold graftwoodref02_May.l0
      repeat' first
      | (with_reducible exact ih0 _ _)
      | (with_reducible exact LeO.refl _)
      | (with_reducible exact LeO.none _)
      | (with_reducible refine LeO.ite ?_ ?_)
      | (with_reducible refine LeO.bind ?_ (fun _ => ?_))
      | exact ih0 _ _
      | exact LeO.none _
      | refine LeO.ite ?_ ?_
      | refine LeO.bind ?_ (fun _ => ?_)
theorem graftwoodref02_May.mono : ∀ a0 k, LeO (graftwoodref02_May.f k a0) (graftwoodref02_May.f (k + 1) a0) := by
  intro a0 k
  have ih0 := graftwoodref02_May.mono_l k
  unfold graftwoodref02_May.f
  repeat' first
      | (with_reducible exact ih0 _ _)
      | (with_reducible exact LeO.refl _)
      | (with_reducible exact LeO.none _)
      | (with_reducible refine LeO.ite ?_ ?_)
      | (with_reducible refine LeO.bind ?_ (fun _ => ?_))
      | exact ih0 _ _
      | exact LeO.none _
      | refine LeO.ite ?_ ?_
      | refine LeO.bind ?_ (fun _ => ?_)
set_option maxHeartbeats 8000000 in
set_option maxRecDepth 100000 in
theorem graftwoodref02_May.calls (k : Nat) (a0 : ByteArray) (r : Bool) (w : World) (h : graftwoodref02_May.f k a0 = some r) :
    Calls Try.prog 24 #[.string a0] w fun e w' => e = .returned (.bool r) ∧ Drawn0 w w' := by
  have H : (graftwoodref02_May.l0 k a0 0) = some r := h
  clear h
  have H' := Aside0.mk H
  clear H
  go_enter Try.func24, Try.ntmps24
  go_wp2
  go_loopg [3] k (fun kq v3 w' => ∃ (x3_1 : Int), v3 = .int .i64 x3_1 ∧ Aside0 (graftwoodref02_May.l0 kq a0 x3_1 = some r) ∧ Aside0 (kq ≤ k) ∧ Drawn0 w w')
  case atStart => exact ⟨(0), (by first | rfl | (simp; done) | (simp [*]; done)), H', ⟨Nat.le_refl _⟩, by repeat (first | exact Drawn0.refl _ | apply Drawn0.step)⟩
  case round =>
    clear H'
    obtain ⟨x3_1, rfl, HA, HK1, ⟨m1, rfl⟩⟩ := hrel
    cases gk with
    | zero => exact absurd HA.out (by simp [graftwoodref02_May.l0])
    | succ k1 =>
      have H := HA.out
      clear HA
      simp only [graftwoodref02_May.l0] at H
      by_cases c2 : x3_1 < (a0.size : Int)
      · rw [if_pos c2] at H
        have c2b0 : decide (x3_1 < (a0.size : Int)) = true := decide_eq_true c2
        clear c2
        by_cases c3 : 0 ≤ x3_1
        · rw [if_pos c3] at H
          have c3b0 : decide (0 ≤ x3_1) = true := decide_eq_true c3
          clear c3
          replace H := Option.bind_eq_some_iff.mp H
          obtain ⟨t133, A50, H⟩ := H
          replace H : (if t133 < 0 then (some false) else (graftwoodref02_May.l0 k1 a0 (wrap64 (x3_1 + 1)))) = some r := H
          have A5 := Aside0.mk A50
          clear A50
          by_cases c6 : t133 < 0
          · rw [if_pos c6] at H
            have c6b0 : decide (t133 < 0) = true := decide_eq_true c6
            clear c6
            obtain rfl := Option.some.inj H
            have p4 : 0 ≤ (x3_1 : Int) := of_decide_eq_true (by first | (with_reducible assumption) | assumption)
            have q4 : x3_1 < (a0.size : Int) := of_decide_eq_true (by first | (with_reducible assumption) | assumption)
            have hx4 := bt_at a0 x3_1
            replace p4 := eq_true p4
            replace q4 := eq_true q4
            go_wp2_with (first | ((with_reducible refine gate_callee (f := 31) rfl ?_); refine goesL_ (some 13) rfl rfl Try.func31 (by kernel_rfl) rfl #[.int .u8 (bt a0 x3_1)] rfl (by (try simp only [List.map_toArray, List.map_cons, List.map_nil]); first | done | rfl | (simp only [List.length_drop, List.length_take]; rfl)) ?_; (with_reducible refine (graftwoodref02_digit.calls (bt a0 x3_1) t133 _ A5.out).mono ?_); rintro e w' ⟨rfl, ⟨nd, rfl⟩⟩; refine ⟨_, rfl, ?_⟩))
            go_ret
            exact ⟨by first | rfl | (simp; done) | (simp [*]; done), by repeat (first | exact Drawn0.refl _ | apply Drawn0.step)⟩
          · rw [if_neg c6] at H
            have c6b0 : decide (t133 < 0) = false := decide_eq_false c6
            clear c6
            have H' := Aside0.mk H
            clear H
            have p4 : 0 ≤ (x3_1 : Int) := of_decide_eq_true (by first | (with_reducible assumption) | assumption)
            have q4 : x3_1 < (a0.size : Int) := of_decide_eq_true (by first | (with_reducible assumption) | assumption)
            have hx4 := bt_at a0 x3_1
            replace p4 := eq_true p4
            replace q4 := eq_true q4
            go_wp2_with (first | ((with_reducible refine gate_callee (f := 31) rfl ?_); refine goesL_ (some 13) rfl rfl Try.func31 (by kernel_rfl) rfl #[.int .u8 (bt a0 x3_1)] rfl (by (try simp only [List.map_toArray, List.map_cons, List.map_nil]); first | done | rfl | (simp only [List.length_drop, List.length_take]; rfl)) ?_; (with_reducible refine (graftwoodref02_digit.calls (bt a0 x3_1) t133 _ A5.out).mono ?_); rintro e w' ⟨rfl, ⟨nd, rfl⟩⟩; refine ⟨_, rfl, ?_⟩))
            go_roundg k1
            case measure => have := HK1.out; omega
            case rel => exact ⟨(wrap64 (x3_1 + 1)), (by first | rfl | (simp; done) | (simp [*]; done)), H', ⟨by have := HK1.out; omega⟩, by repeat (first | exact Drawn0.refl _ | apply Drawn0.step)⟩
        · rw [if_neg c3] at H
          exact absurd H (by simp)
      · rw [if_neg c2] at H
        have c2b0 : decide (x3_1 < (a0.size : Int)) = false := decide_eq_false c2
        clear c2
        by_cases c7 : (a0.size : Int) = 1
        · rw [if_pos c7] at H
          have c7b0 : ((a0.size : Int) == 1) = true := beq_iff_eq.mpr c7
          have c7b1 : ((a0.size : Int) != 1) = false := bne_eq_false_iff_eq.mpr c7
          clear c7
          obtain rfl := Option.some.inj H
          go_wp2
          go_ret
          exact ⟨by first | rfl | (simp; done) | (simp [*]; done), by repeat (first | exact Drawn0.refl _ | apply Drawn0.step)⟩
        · rw [if_neg c7] at H
          have c7b0 : ((a0.size : Int) == 1) = false := beq_eq_false_iff_ne.mpr c7
          have c7b1 : ((a0.size : Int) != 1) = true := bne_iff_ne.mpr c7
          by_cases c8 : (a0.size : Int) > 1
          · rw [if_pos c8] at H
            have c8b0 : decide (1 < (a0.size : Int)) = true := decide_eq_true c8
            have c8b1 : decide (1 < a0.size) = true := decide_eq_true (by omega)
            clear c8
            by_cases c9 : 0 < (a0.size : Int)
            · rw [if_pos c9] at H
              have c9b0 : decide (0 < (a0.size : Int)) = true := decide_eq_true c9
              have c9b1 : decide (0 < a0.size) = true := decide_eq_true (by omega)
              clear c9
              obtain rfl := Option.some.inj H
              have p10 : 0 ≤ (0 : Int) := (by omega)
              have q10 : 0 < a0.size := (by have : (0 : Int) < (a0.size : Int) := of_decide_eq_true (by first | (with_reducible assumption) | assumption); omega)
              have hx10 : ∀ h : 0 < a0.size, ((a0[0]'h).toNat : Int) = bt a0 0 := bt_at a0 0
              clear p10
              have qi10 : (0 < (a0.size : Int)) = True := eq_true (of_decide_eq_true (by first | (with_reducible assumption) | assumption))
              replace q10 := eq_true q10
              go_wp2
              go_ret
              exact ⟨by first | rfl | (simp; done) | (simp [*]; done), by repeat (first | exact Drawn0.refl _ | apply Drawn0.step)⟩
            · rw [if_neg c9] at H
              exact absurd H (by simp)
          · rw [if_neg c8] at H
            have c8b0 : decide (1 < (a0.size : Int)) = false := decide_eq_false c8
            have c8b1 : decide (1 < a0.size) = false := decide_eq_false (by omega)
            clear c8
            obtain rfl := Option.some.inj H
            go_wp2
            go_ret
            exact ⟨by first | rfl | (simp; done) | (simp [*]; done), by repeat (first | exact Drawn0.refl _ | apply Drawn0.step)⟩

/-! ### graftwoodref03_Word: function 37 -/
def graftwoodref03_Word.l0 : Nat → ByteArray → Bool → Int → Option (Bool)
  | 0, _, _, _ => none
  | k + 1, x0, x3, x4 => if x4 < (x0.size : Int) then (if 0 ≤ x4 then ((graftwoodref01_Class.f k (bt x0 x4)).bind fun t135 => (if t135 = 1 then (graftwoodref03_Word.l0 k x0 x3 (wrap64 (x4 + 1))) else (if t135 = 2 then (graftwoodref03_Word.l0 k x0 false (wrap64 (x4 + 1))) else (if (bt x0 x4) = 45 then (graftwoodref03_Word.l0 k x0 false (wrap64 (x4 + 1))) else (some false))))) else (none)) else (if (x0.size : Int) > 0 then (if x3 = true then ((graftwoodref02_May.f k x0).bind fun t134 => (some t134)) else (some true)) else (some false))
def graftwoodref03_Word.f (k : Nat) (a0 : ByteArray) : Option (Bool) := graftwoodref03_Word.l0 k a0 true 0
theorem graftwoodref03_Word.mono_l : ∀ k, (∀ y0 y1 y2, LeO (graftwoodref03_Word.l0 k y0 y1 y2) (graftwoodref03_Word.l0 (k + 1) y0 y1 y2))
  | 0 => fun _ _ _ r h => by simp [graftwoodref03_Word.l0] at h
  | k + 1 => by
    have ih0 := graftwoodref03_Word.mono_l k
    · intro y0 y1 y2
      unfold graftwoodref03_Word.l0
      repeat' first
      | (with_reducible exact ih0 _ _ _)
      | (with_reducible exact graftwoodref01_Class.mono _ _)
      | (with_reducible exact graftwoodref02_May.mono _ _)
      | (with_reducible exact LeO.refl _)
      | (with_reducible exact LeO.none _)
      | (with_reducible refine LeO.ite ?_ ?_)
      | (with_reducible refine LeO.bind ?_ (fun _ => ?_))
      | exact ih0 _ _ _
      | exact graftwoodref01_Class.mono _ _
      | exact graftwoodref02_May.mono _ _
      | exact LeO.none _
      | refine LeO.ite ?_ ?_
      | refine LeO.bind ?_ (fun _ => ?_)
theorem graftwoodref03_Word.mono : ∀ a0 k, LeO (graftwoodref03_Word.f k a0) (graftwoodref03_Word.f (k + 1) a0) := by
  intro a0 k
  have ih0 := graftwoodref03_Word.mono_l k
  unfold graftwoodref03_Word.f
  repeat' first
      | (with_reducible exact ih0 _ _ _)
      | (with_reducible exact graftwoodref01_Class.mono _ _)
      | (with_reducible exact graftwoodref02_May.mono _ _)
      | (with_reducible exact LeO.refl _)
      | (with_reducible exact LeO.none _)
      | (with_reducible refine LeO.ite ?_ ?_)
      | (with_reducible refine LeO.bind ?_ (fun _ => ?_))
      | exact ih0 _ _ _
      | exact graftwoodref01_Class.mono _ _
      | exact graftwoodref02_May.mono _ _
      | exact LeO.none _
      | refine LeO.ite ?_ ?_
      | refine LeO.bind ?_ (fun _ => ?_)
set_option maxHeartbeats 8000000 in
set_option maxRecDepth 100000 in
theorem graftwoodref03_Word.calls (k : Nat) (a0 : ByteArray) (r : Bool) (w : World) (h : graftwoodref03_Word.f k a0 = some r) :
    Calls Try.prog 37 #[.string a0] w fun e w' => e = .returned (.bool r) ∧ Drawn0 w w' := by
  have H : (graftwoodref03_Word.l0 k a0 true 0) = some r := h
  clear h
  have H' := Aside0.mk H
  clear H
  go_enter Try.func37, Try.ntmps37
  go_wp2
  go_loopg [3, 4] k (fun kq v3 v4 w' => ∃ (x3_1 : Bool) (x4_1 : Int), v3 = .bool x3_1 ∧ v4 = .int .i64 x4_1 ∧ Aside0 (graftwoodref03_Word.l0 kq a0 x3_1 x4_1 = some r) ∧ Aside0 (kq ≤ k) ∧ Drawn0 w w')
  case atStart => exact ⟨(true), (0), (by first | rfl | (simp; done) | (simp [*]; done)), (by first | rfl | (simp; done) | (simp [*]; done)), H', ⟨Nat.le_refl _⟩, by repeat (first | exact Drawn0.refl _ | apply Drawn0.step)⟩
  case round =>
    clear H'
    obtain ⟨x3_1, x4_1, rfl, rfl, HA, HK1, ⟨m1, rfl⟩⟩ := hrel
    cases gk with
    | zero => exact absurd HA.out (by simp [graftwoodref03_Word.l0])
    | succ k1 =>
      have H := HA.out
      clear HA
      simp only [graftwoodref03_Word.l0] at H
      by_cases c2 : x4_1 < (a0.size : Int)
      · rw [if_pos c2] at H
        have c2b0 : decide (x4_1 < (a0.size : Int)) = true := decide_eq_true c2
        clear c2
        by_cases c3 : 0 ≤ x4_1
        · rw [if_pos c3] at H
          have c3b0 : decide (0 ≤ x4_1) = true := decide_eq_true c3
          clear c3
          replace H := Option.bind_eq_some_iff.mp H
          obtain ⟨t135, A50, H⟩ := H
          replace H : (if t135 = 1 then (graftwoodref03_Word.l0 k1 a0 x3_1 (wrap64 (x4_1 + 1))) else (if t135 = 2 then (graftwoodref03_Word.l0 k1 a0 false (wrap64 (x4_1 + 1))) else (if (bt a0 x4_1) = 45 then (graftwoodref03_Word.l0 k1 a0 false (wrap64 (x4_1 + 1))) else (some false)))) = some r := H
          have A5 := Aside0.mk A50
          clear A50
          by_cases c6 : t135 = 1
          · rw [if_pos c6] at H
            have c6b0 : (t135 == 1) = true := beq_iff_eq.mpr c6
            have c6b1 : (t135 != 1) = false := bne_eq_false_iff_eq.mpr c6
            clear c6
            have H' := Aside0.mk H
            clear H
            have p4 : 0 ≤ (x4_1 : Int) := of_decide_eq_true (by first | (with_reducible assumption) | assumption)
            have q4 : x4_1 < (a0.size : Int) := of_decide_eq_true (by first | (with_reducible assumption) | assumption)
            have hx4 := bt_at a0 x4_1
            replace p4 := eq_true p4
            replace q4 := eq_true q4
            go_wp2_with (first | ((with_reducible refine gate_callee (f := 36) rfl ?_); refine goesL_ (some 15) rfl rfl Try.func36 (by kernel_rfl) rfl #[.int .u8 (bt a0 x4_1)] rfl (by (try simp only [List.map_toArray, List.map_cons, List.map_nil]); first | done | rfl | (simp only [List.length_drop, List.length_take]; rfl)) ?_; (with_reducible refine (graftwoodref01_Class.calls k1 (bt a0 x4_1) t135 _ A5.out).mono ?_); rintro e w' ⟨rfl, ⟨nd, rfl⟩⟩; refine ⟨_, rfl, ?_⟩))
            go_roundg k1
            case measure => have := HK1.out; omega
            case rel => exact ⟨(x3_1), (wrap64 (x4_1 + 1)), (by first | rfl | (simp; done) | (simp [*]; done)), (by first | rfl | (simp; done) | (simp [*]; done)), H', ⟨by have := HK1.out; omega⟩, by repeat (first | exact Drawn0.refl _ | apply Drawn0.step)⟩
          · rw [if_neg c6] at H
            have c6b0 : (t135 == 1) = false := beq_eq_false_iff_ne.mpr c6
            have c6b1 : (t135 != 1) = true := bne_iff_ne.mpr c6
            by_cases c7 : t135 = 2
            · rw [if_pos c7] at H
              have c7b0 : (t135 == 2) = true := beq_iff_eq.mpr c7
              have c7b1 : (t135 != 2) = false := bne_eq_false_iff_eq.mpr c7
              clear c7
              have H' := Aside0.mk H
              clear H
              have p4 : 0 ≤ (x4_1 : Int) := of_decide_eq_true (by first | (with_reducible assumption) | assumption)
              have q4 : x4_1 < (a0.size : Int) := of_decide_eq_true (by first | (with_reducible assumption) | assumption)
              have hx4 := bt_at a0 x4_1
              replace p4 := eq_true p4
              replace q4 := eq_true q4
              go_wp2_with (first | ((with_reducible refine gate_callee (f := 36) rfl ?_); refine goesL_ (some 15) rfl rfl Try.func36 (by kernel_rfl) rfl #[.int .u8 (bt a0 x4_1)] rfl (by (try simp only [List.map_toArray, List.map_cons, List.map_nil]); first | done | rfl | (simp only [List.length_drop, List.length_take]; rfl)) ?_; (with_reducible refine (graftwoodref01_Class.calls k1 (bt a0 x4_1) t135 _ A5.out).mono ?_); rintro e w' ⟨rfl, ⟨nd, rfl⟩⟩; refine ⟨_, rfl, ?_⟩))
              go_roundg k1
              case measure => have := HK1.out; omega
              case rel => exact ⟨(false), (wrap64 (x4_1 + 1)), (by first | rfl | (simp; done) | (simp [*]; done)), (by first | rfl | (simp; done) | (simp [*]; done)), H', ⟨by have := HK1.out; omega⟩, by repeat (first | exact Drawn0.refl _ | apply Drawn0.step)⟩
            · rw [if_neg c7] at H
              have c7b0 : (t135 == 2) = false := beq_eq_false_iff_ne.mpr c7
              have c7b1 : (t135 != 2) = true := bne_iff_ne.mpr c7
              by_cases c9 : (bt a0 x4_1) = 45
              · rw [if_pos c9] at H
                have c9b0 : ((bt a0 x4_1) == 45) = true := beq_iff_eq.mpr c9
                have c9b1 : ((bt a0 x4_1) != 45) = false := bne_eq_false_iff_eq.mpr c9
                clear c9
                have H' := Aside0.mk H
                clear H
                have p4 : 0 ≤ (x4_1 : Int) := of_decide_eq_true (by first | (with_reducible assumption) | assumption)
                have q4 : x4_1 < (a0.size : Int) := of_decide_eq_true (by first | (with_reducible assumption) | assumption)
                have hx4 := bt_at a0 x4_1
                replace p4 := eq_true p4
                replace q4 := eq_true q4
                go_wp2_with (first | ((with_reducible refine gate_callee (f := 36) rfl ?_); refine goesL_ (some 15) rfl rfl Try.func36 (by kernel_rfl) rfl #[.int .u8 (bt a0 x4_1)] rfl (by (try simp only [List.map_toArray, List.map_cons, List.map_nil]); first | done | rfl | (simp only [List.length_drop, List.length_take]; rfl)) ?_; (with_reducible refine (graftwoodref01_Class.calls k1 (bt a0 x4_1) t135 _ A5.out).mono ?_); rintro e w' ⟨rfl, ⟨nd, rfl⟩⟩; refine ⟨_, rfl, ?_⟩; have p8 : 0 ≤ (x4_1 : Int) := of_decide_eq_true (by first | (with_reducible assumption) | assumption); have q8 : x4_1 < (a0.size : Int) := of_decide_eq_true (by first | (with_reducible assumption) | assumption); have hx8 := bt_at a0 x4_1; replace p8 := eq_true p8; replace q8 := eq_true q8))
                go_roundg k1
                case measure => have := HK1.out; omega
                case rel => exact ⟨(false), (wrap64 (x4_1 + 1)), (by first | rfl | (simp; done) | (simp [*]; done)), (by first | rfl | (simp; done) | (simp [*]; done)), H', ⟨by have := HK1.out; omega⟩, by repeat (first | exact Drawn0.refl _ | apply Drawn0.step)⟩
              · rw [if_neg c9] at H
                have c9b0 : ((bt a0 x4_1) == 45) = false := beq_eq_false_iff_ne.mpr c9
                have c9b1 : ((bt a0 x4_1) != 45) = true := bne_iff_ne.mpr c9
                obtain rfl := Option.some.inj H
                have p4 : 0 ≤ (x4_1 : Int) := of_decide_eq_true (by first | (with_reducible assumption) | assumption)
                have q4 : x4_1 < (a0.size : Int) := of_decide_eq_true (by first | (with_reducible assumption) | assumption)
                have hx4 := bt_at a0 x4_1
                replace p4 := eq_true p4
                replace q4 := eq_true q4
                go_wp2_with (first | ((with_reducible refine gate_callee (f := 36) rfl ?_); refine goesL_ (some 15) rfl rfl Try.func36 (by kernel_rfl) rfl #[.int .u8 (bt a0 x4_1)] rfl (by (try simp only [List.map_toArray, List.map_cons, List.map_nil]); first | done | rfl | (simp only [List.length_drop, List.length_take]; rfl)) ?_; (with_reducible refine (graftwoodref01_Class.calls k1 (bt a0 x4_1) t135 _ A5.out).mono ?_); rintro e w' ⟨rfl, ⟨nd, rfl⟩⟩; refine ⟨_, rfl, ?_⟩; have p8 : 0 ≤ (x4_1 : Int) := of_decide_eq_true (by first | (with_reducible assumption) | assumption); have q8 : x4_1 < (a0.size : Int) := of_decide_eq_true (by first | (with_reducible assumption) | assumption); have hx8 := bt_at a0 x4_1; replace p8 := eq_true p8; replace q8 := eq_true q8))
                go_ret
                exact ⟨by first | rfl | (simp; done) | (simp [*]; done), by repeat (first | exact Drawn0.refl _ | apply Drawn0.step)⟩
        · rw [if_neg c3] at H
          exact absurd H (by simp)
      · rw [if_neg c2] at H
        have c2b0 : decide (x4_1 < (a0.size : Int)) = false := decide_eq_false c2
        clear c2
        by_cases c10 : (a0.size : Int) > 0
        · rw [if_pos c10] at H
          have c10b0 : decide (0 < (a0.size : Int)) = true := decide_eq_true c10
          have c10b1 : decide (0 < a0.size) = true := decide_eq_true (by omega)
          clear c10
          by_cases c11 : x3_1 = true
          · subst c11
            have H1 : ((graftwoodref02_May.f k1 a0).bind fun t134 => (some t134)) = some r := by rw [if_pos rfl] at H; exact H
            clear H
            have H := H1
            clear H1
            replace H := Option.bind_eq_some_iff.mp H
            obtain ⟨t134, A120, H⟩ := H
            replace H : (some t134) = some r := H
            have A12 := Aside0.mk A120
            clear A120
            obtain rfl := Option.some.inj H
            go_wp2_with (first | (go_at_call 24; (with_reducible refine (graftwoodref02_May.calls k1 a0 t134 _ A12.out).mono ?_); rintro e w' ⟨rfl, ⟨nd, rfl⟩⟩))
            go_ret
            exact ⟨by first | rfl | (simp; done) | (simp [*]; done), by repeat (first | exact Drawn0.refl _ | apply Drawn0.step)⟩
          · replace c11 := Bool.eq_false_iff.mpr c11
            subst c11
            have H1 : (some true) = some r := by rw [if_neg (show ¬ (false = true) by decide)] at H; exact H
            clear H
            have H := H1
            clear H1
            obtain rfl := Option.some.inj H
            go_wp2
            go_ret
            exact ⟨by first | rfl | (simp; done) | (simp [*]; done), by repeat (first | exact Drawn0.refl _ | apply Drawn0.step)⟩
        · rw [if_neg c10] at H
          have c10b0 : decide (0 < (a0.size : Int)) = false := decide_eq_false c10
          have c10b1 : decide (0 < a0.size) = false := decide_eq_false (by omega)
          clear c10
          obtain rfl := Option.some.inj H
          go_wp2
          go_ret
          exact ⟨by first | rfl | (simp; done) | (simp [*]; done), by repeat (first | exact Drawn0.refl _ | apply Drawn0.step)⟩

end Go.Proofs.Ytbkcjgjcnnggbaa.Q
