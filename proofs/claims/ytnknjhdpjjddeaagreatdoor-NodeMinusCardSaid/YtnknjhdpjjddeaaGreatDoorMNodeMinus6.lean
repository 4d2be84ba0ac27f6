/- Part 6 of this claim: several texts one behind the other: Fgraftwoodref03Word, Fgraftwoodref04Element, Fgraftwoodref04May, RefB, Split, SplitP, RVal. What each shows stands in its theorems; conditions: sizes of texts and lists, as the functions' definitions say. -/
import Derived.Test.YtnknjhdpjjddeaaGreatDoorMNodeMinus5
import Derived.Test.YtnknjhdpjjddeaaGreatDoorMNodeMinus0
import Derived.RegionTactic
import Derived.BigRegion
import Derived.ChangeAlike
import Derived.Test.YtnknjhdpjjddeaaGreatDoorMNodeMinus3
section
namespace Go.Proofs.YtnknjhdpjjddeaaGreatDoor.Q
open Go.RowKit Go.Proofs.YtnknjhdpjjddeaaGreatDoorW.PrintWords Go.Proofs.YtnknjhdpjjddeaaGreatDoorW.PrintLast Go.Proofs.YtnknjhdpjjddeaaGreatDoorW.PrintMore
attribute [local go_sem] max2_int min2_int max_two min_two max_three min_three max_four min_four   -- for this text's walks alone
set_option linter.unusedVariables false
set_option linter.unusedSimpArgs false

/-! ### graftwoodref03_Word: function 52 -/
def graftwoodref03_Word.l0 : Nat → ByteArray → Bool → Int → Option (Bool)
  | 0, _, _, _ => none
  | k + 1, x0, x3, x4 => if x4 < (x0.size : Int) then (if 0 ≤ x4 then ((graftwoodref01_Class.f k (bt x0 x4)).bind fun t183 => (if t183 = 1 then (graftwoodref03_Word.l0 k x0 x3 (wrap64 (x4 + 1))) else (if t183 = 2 then (graftwoodref03_Word.l0 k x0 false (wrap64 (x4 + 1))) else (if (bt x0 x4) = 45 then (graftwoodref03_Word.l0 k x0 false (wrap64 (x4 + 1))) else (some false))))) else (none)) else (if (x0.size : Int) > 0 then (if x3 = true then ((graftwoodref02_May.f k x0).bind fun t182 => (some t182)) else (some true)) else (some false))
def graftwoodref03_Word.f (k : Nat) (a0 : ByteArray) : Option (Bool) := graftwoodref03_Word.l0 k a0 true 0
theorem graftwoodref03_Word.mono_l : ∀ k, (∀ y0 y1 y2, LeO (graftwoodref03_Word.l0 k y0 y1 y2) (graftwoodref03_Word.l0 (k + 1) y0 y1 y2))
  | 0 => fun _ _ _ r h => by simp [graftwoodref03_Word.l0] at h
  | k + 1 => by
    have ih0 := graftwoodref03_Word.mono_l k
    · intro y0 y1 y2
      unfold graftwoodref03_Word.l0
      repeat' first
      | (with_reducible exact ih0 _ _ _)
      | (with_reducible exact graftwoodref01_Class.mono _ _)
      | (with_reducible exact graftwoodref02_May.mono _ _)
      | (with_reducible exact LeO.refl _)
      | (with_reducible exact LeO.none _)
      | (with_reducible refine LeO.ite ?_ ?_)
      | (with_reducible refine LeO.bind ?_ (fun _ => ?_))
      | exact ih0 _ _ _
      | exact graftwoodref01_Class.mono _ _
      | exact graftwoodref02_May.mono _ _
      | exact LeO.none _
      | refine LeO.ite ?_ ?_
      | refine LeO.bind ?_ (fun _ => ?_)
theorem graftwoodref03_Word.mono : ∀ a0 k, LeO (graftwoodref03_Word.f k a0) (graftwoodref03_Word.f (k + 1) a0) := by
  intro a0 k
  have ih0 := graftwoodref03_Word.mono_l k
  unfold graftwoodref03_Word.f
  repeat' first
      | (with_reducible exact ih0 _ _ _)
      | (with_reducible exact graftwoodref01_Class.mono _ _)
      | (with_reducible exact graftwoodref02_May.mono _ _)
      | (with_reducible exact LeO.refl _)
      | (with_reducible exact LeO.none _)
      | (with_reducible refine LeO.ite ?_ ?_)
      | (with_reducible refine LeO.bind ?_ (fun _ => ?_))
      | exact ih0 _ _ _
      | exact graftwoodref01_Class.mono _ _
      | exact graftwoodref02_May.mono _ _
      | exact LeO.none _
      | refine LeO.ite ?_ ?_
      | refine LeO.bind ?_ (fun _ => ?_)
set_option maxHeartbeats 8000000 in
set_option maxRecDepth 100000 in
theorem graftwoodref03_Word.calls (k : Nat) (a0 : ByteArray) (r : Bool) (w : World) (h : graftwoodref03_Word.f k a0 = some r) :
    Calls Tryz.prog 52 #[.string a0] w fun e w' => e = .returned (.bool r) ∧ Drawn0 w w' := by
  have H : (graftwoodref03_Word.l0 k a0 true 0) = some r := h
  clear h
  have H' := Aside0.mk H
  clear H
  go_enter Tryz.func52, Tryz.ntmps52
  go_wp2
  go_loopg [3, 4] k (fun kq v3 v4 w' => ∃ (x3_1 : Bool) (x4_1 : Int), v3 = .bool x3_1 ∧ v4 = .int .i64 x4_1 ∧ Aside0 (graftwoodref03_Word.l0 kq a0 x3_1 x4_1 = some r) ∧ Aside0 (kq ≤ k) ∧ Drawn0 w w')
  case atStart => exact ⟨(true), (0), (by first | rfl | (simp; done) | (simp [*]; done)), (by first | rfl | (simp; done) | (simp [*]; done)), H', ⟨Nat.le_refl _⟩, by repeat (first | exact Drawn0.refl _ | apply Drawn0.step)⟩
  case round =>
    clear H'
    obtain ⟨x3_1, x4_1, rfl, rfl, HA, HK1, ⟨m1, rfl⟩⟩ := hrel
    cases gk with
    | zero => exact absurd HA.out (by simp [graftwoodref03_Word.l0])
    | succ k1 =>
      have H := HA.out
      clear HA
      simp only [graftwoodref03_Word.l0] at H
      by_cases c2 : x4_1 < (a0.size : Int)
      · rw [if_pos c2] at H
        have c2b0 : decide (x4_1 < (a0.size : Int)) = true := decide_eq_true c2
        clear c2
        by_cases c3 : 0 ≤ x4_1
        · rw [if_pos c3] at H
          have c3b0 : decide (0 ≤ x4_1) = true := decide_eq_true c3
          clear c3
          replace H := Option.bind_eq_some_iff.mp H
          obtain ⟨t183, A50, H⟩ := H
          replace H : (if t183 = 1 then (graftwoodref03_Word.l0 k1 a0 x3_1 (wrap64 (x4_1 + 1))) else (if t183 = 2 then (graftwoodref03_Word.l0 k1 a0 false (wrap64 (x4_1 + 1))) else (if (bt a0 x4_1) = 45 then (graftwoodref03_Word.l0 k1 a0 false (wrap64 (x4_1 + 1))) else (some false)))) = some r := H
          have A5 := Aside0.mk A50
          clear A50
          by_cases c6 : t183 = 1
          · rw [if_pos c6] at H
            have c6b0 : (t183 == 1) = true := beq_iff_eq.mpr c6
            have c6b1 : (t183 != 1) = false := bne_eq_false_iff_eq.mpr c6
            clear c6
            have H' := Aside0.mk H
            clear H
            have p4 : 0 ≤ (x4_1 : Int) := of_decide_eq_true (by first | (with_reducible assumption) | assumption)
            have q4 : x4_1 < (a0.size : Int) := of_decide_eq_true (by first | (with_reducible assumption) | assumption)
            have hx4 := bt_at a0 x4_1
            replace p4 := eq_true p4
            replace q4 := eq_true q4
            go_wp2_with (first | ((with_reducible refine gate_callee (f := 50) rfl ?_); refine goesL_ (some 15) rfl rfl Tryz.func50 (by kernel_rfl) rfl #[.int .u8 (bt a0 x4_1)] rfl (by (try simp only [List.map_toArray, List.map_cons, List.map_nil]); first | done | rfl | (simp only [List.length_drop, List.length_take]; rfl)) ?_; (with_reducible refine (graftwoodref01_Class.calls k1 (bt a0 x4_1) t183 _ A5.out).mono ?_); rintro e w' ⟨rfl, ⟨nd, rfl⟩⟩; refine ⟨_, rfl, ?_⟩))
            go_roundg k1
            case measure => have := HK1.out; omega
            case rel => exact ⟨(x3_1), (wrap64 (x4_1 + 1)), (by first | rfl | (simp; done) | (simp [*]; done)), (by first | rfl | (simp; done) | (simp [*]; done)), H', ⟨by have := HK1.out; omega⟩, by repeat (first | exact Drawn0.refl _ | apply Drawn0.step)⟩
          · rw [if_neg c6] at H
            have c6b0 : (t183 == 1) = false := beq_eq_false_iff_ne.mpr c6
            have c6b1 : (t183 != 1) = true := bne_iff_ne.mpr c6
            by_cases c7 : t183 = 2
            · rw [if_pos c7] at H
              have c7b0 : (t183 == 2) = true := beq_iff_eq.mpr c7
              have c7b1 : (t183 != 2) = false := bne_eq_false_iff_eq.mpr c7
              clear c7
              have H' := Aside0.mk H
              clear H
              have p4 : 0 ≤ (x4_1 : Int) := of_decide_eq_true (by first | (with_reducible assumption) | assumption)
              have q4 : x4_1 < (a0.size : Int) := of_decide_eq_true (by first | (with_reducible assumption) | assumption)
              have hx4 := bt_at a0 x4_1
              replace p4 := eq_true p4
              replace q4 := eq_true q4
              go_wp2_with (first | ((with_reducible refine gate_callee (f := 50) rfl ?_); refine goesL_ (some 15) rfl rfl Tryz.func50 (by kernel_rfl) rfl #[.int .u8 (bt a0 x4_1)] rfl (by (try simp only [List.map_toArray, List.map_cons, List.map_nil]); first | done | rfl | (simp only [List.length_drop, List.length_take]; rfl)) ?_; (with_reducible refine (graftwoodref01_Class.calls k1 (bt a0 x4_1) t183 _ A5.out).mono ?_); rintro e w' ⟨rfl, ⟨nd, rfl⟩⟩; refine ⟨_, rfl, ?_⟩))
              go_roundg k1
              case measure => have := HK1.out; omega
              case rel => exact ⟨(false), (wrap64 (x4_1 + 1)), (by first | rfl | (simp; done) | (simp [*]; done)), (by first | rfl | (simp; done) | (simp [*]; done)), H', ⟨by have := HK1.out; omega⟩, by repeat (first | exact Drawn0.refl _ | apply Drawn0.step)⟩
            · rw [if_neg c7] at H
              have c7b0 : (t183 == 2) = false := beq_eq_false_iff_ne.mpr c7
              have c7b1 : (t183 != 2) = true := bne_iff_ne.mpr c7
              by_cases c9 : (bt a0 x4_1) = 45
              · rw [if_pos c9] at H
                have c9b0 : ((bt a0 x4_1) == 45) = true := beq_iff_eq.mpr c9
                have c9b1 : ((bt a0 x4_1) != 45) = false := bne_eq_false_iff_eq.mpr c9
                clear c9
                have H' := Aside0.mk H
                clear H
                have p4 : 0 ≤ (x4_1 : Int) := of_decide_eq_true (by first | (with_reducible assumption) | assumption)
                have q4 : x4_1 < (a0.size : Int) := of_decide_eq_true (by first | (with_reducible assumption) | assumption)
                have hx4 := bt_at a0 x4_1
                replace p4 := eq_true p4
                replace q4 := eq_true q4
                go_wp2_with (first | ((with_reducible refine gate_callee (f := 50) rfl ?_); refine goesL_ (some 15) rfl rfl Tryz.func50 (by kernel_rfl) rfl #[.int .u8 (bt a0 x4_1)] rfl (by (try simp only [List.map_toArray, List.map_cons, List.map_nil]); first | done | rfl | (simp only [List.length_drop, List.length_take]; rfl)) ?_; (with_reducible refine (graftwoodref01_Class.calls k1 (bt a0 x4_1) t183 _ A5.out).mono ?_); rintro e w' ⟨rfl, ⟨nd, rfl⟩⟩; refine ⟨_, rfl, ?_⟩; have p8 : 0 ≤ (x4_1 : Int) := of_decide_eq_true (by first | (with_reducible assumption) | assumption); have q8 : x4_1 < (a0.size : Int) := of_decide_eq_true (by first | (with_reducible assumption) | assumption); have hx8 := bt_at a0 x4_1; replace p8 := eq_true p8; replace q8 := eq_true q8))
                go_roundg k1
                case measure => have := HK1.out; omega
                case rel => exact ⟨(false), (wrap64 (x4_1 + 1)), (by first | rfl | (simp; done) | (simp [*]; done)), (by first | rfl | (simp; done) | (simp [*]; done)), H', ⟨by have := HK1.out; omega⟩, by repeat (first | exact Drawn0.refl _ | apply Drawn0.step)⟩
              · rw [if_neg c9] at H
                have c9b0 : ((bt a0 x4_1) == 45) = false := beq_eq_false_iff_ne.mpr c9
                have c9b1 : ((bt a0 x4_1) != 45) = true := bne_iff_ne.mpr c9
                obtain rfl := Option.some.inj H
                have p4 : 0 ≤ (x4_1 : Int) := of_decide_eq_true (by first | (with_reducible assumption) | assumption)
                have q4 : x4_1 < (a0.size : Int) := of_decide_eq_true (by first | (with_reducible assumption) | assumption)
                have hx4 := bt_at a0 x4_1
                replace p4 := eq_true p4
                replace q4 := eq_true q4
                go_wp2_with (first | ((with_reducible refine gate_callee (f := 50) rfl ?_); refine goesL_ (some 15) rfl rfl Tryz.func50 (by kernel_rfl) rfl #[.int .u8 (bt a0 x4_1)] rfl (by (try simp only [List.map_toArray, List.map_cons, List.map_nil]); first | done | rfl | (simp only [List.length_drop, List.length_take]; rfl)) ?_; (with_reducible refine (graftwoodref01_Class.calls k1 (bt a0 x4_1) t183 _ A5.out).mono ?_); rintro e w' ⟨rfl, ⟨nd, rfl⟩⟩; refine ⟨_, rfl, ?_⟩; have p8 : 0 ≤ (x4_1 : Int) := of_decide_eq_true (by first | (with_reducible assumption) | assumption); have q8 : x4_1 < (a0.size : Int) := of_decide_eq_true (by first | (with_reducible assumption) | assumption); have hx8 := bt_at a0 x4_1; replace p8 := eq_true p8; replace q8 := eq_true q8))
                go_ret
                exact ⟨by first | rfl | (simp; done) | (simp [*]; done), by repeat (first | exact Drawn0.refl _ | apply Drawn0.step)⟩
        · rw [if_neg c3] at H
          exact absurd H (by simp)
      · rw [if_neg c2] at H
        have c2b0 : decide (x4_1 < (a0.size : Int)) = false := decide_eq_false c2
        clear c2
        by_cases c10 : (a0.size : Int) > 0
        · rw [if_pos c10] at H
          have c10b0 : decide (0 < (a0.size : Int)) = true := decide_eq_true c10
          have c10b1 : decide (0 < a0.size) = true := decide_eq_true (by omega)
          clear c10
          by_cases c11 : x3_1 = true
          · subst c11
            have H1 : ((graftwoodref02_May.f k1 a0).bind fun t182 => (some t182)) = some r := by rw [if_pos rfl] at H; exact H
            clear H
            have H := H1
            clear H1
            replace H := Option.bind_eq_some_iff.mp H
            obtain ⟨t182, A120, H⟩ := H
            replace H : (some t182) = some r := H
            have A12 := Aside0.mk A120
            clear A120
            obtain rfl := Option.some.inj H
            go_wp2_with (first | (go_at_call 51; (with_reducible refine (graftwoodref02_May.calls k1 a0 t182 _ A12.out).mono ?_); rintro e w' ⟨rfl, ⟨nd, rfl⟩⟩))
            go_ret
            exact ⟨by first | rfl | (simp; done) | (simp [*]; done), by repeat (first | exact Drawn0.refl _ | apply Drawn0.step)⟩
          · replace c11 := Bool.eq_false_iff.mpr c11
            subst c11
            have H1 : (some true) = some r := by rw [if_neg (show ¬ (false = true) by decide)] at H; exact H
            clear H
            have H := H1
            clear H1
            obtain rfl := Option.some.inj H
            go_wp2
            go_ret
            exact ⟨by first | rfl | (simp; done) | (simp [*]; done), by repeat (first | exact Drawn0.refl _ | apply Drawn0.step)⟩
        · rw [if_neg c10] at H
          have c10b0 : decide (0 < (a0.size : Int)) = false := decide_eq_false c10
          have c10b1 : decide (0 < a0.size) = false := decide_eq_false (by omega)
          clear c10
          obtain rfl := Option.some.inj H
          go_wp2
          go_ret
          exact ⟨by first | rfl | (simp; done) | (simp [*]; done), by repeat (first | exact Drawn0.refl _ | apply Drawn0.step)⟩

end Go.Proofs.YtnknjhdpjjddeaaGreatDoor.Q
end

section
namespace Go.Proofs.YtnknjhdpjjddeaaGreatDoor.Q
open Go.RowKit Go.Proofs.YtnknjhdpjjddeaaGreatDoorW.PrintWords Go.Proofs.YtnknjhdpjjddeaaGreatDoorW.PrintLast Go.Proofs.YtnknjhdpjjddeaaGreatDoorW.PrintMore
attribute [local go_sem] max2_int min2_int max_two min_two max_three min_three max_four min_four   -- for this text's walks alone
set_option linter.unusedVariables false
set_option linter.unusedSimpArgs false

/-! ### graftwoodref04_Element: function 37 -/
mutual
def graftwoodref04_Element.j0 : Nat → ByteArray → Bool → Option (Bool)
  | 0, _, _ => none
  | k + 1, x0, x20 => if x20 = true then (some false) else (graftwoodref04_Element.l0 k x0 0)
def graftwoodref04_Element.l0 : Nat → ByteArray → Int → Option (Bool)
  | 0, _, _ => none
  | k + 1, x0, x3 => if x3 < (x0.size : Int) then (if 0 ≤ x3 then ((graftwoodref01_Class.f k (bt x0 x3)).bind fun t175 => (if t175 < 1 then (some false) else (if t175 > 3 then (some false) else (graftwoodref04_Element.l0 k x0 (wrap64 (x3 + 1)))))) else (none)) else (some true)
end
def graftwoodref04_Element.f (k : Nat) (a0 : ByteArray) : Option (Bool) := if (a0.size : Int) = 0 then (graftwoodref04_Element.j0 k a0 true) else (if 0 < (a0.size : Int) then (if (bt a0 0) = 46 then (graftwoodref04_Element.j0 k a0 true) else (if 0 ≤ (wrap64 ((a0.size : Int) - 1)) then (if (wrap64 ((a0.size : Int) - 1)) < (a0.size : Int) then (graftwoodref04_Element.j0 k a0 ((bt a0 (wrap64 ((a0.size : Int) - 1))) == 46)) else (none)) else (none))) else (none))
theorem graftwoodref04_Element.mono_l : ∀ k, (∀ y0 y1, LeO (graftwoodref04_Element.j0 k y0 y1) (graftwoodref04_Element.j0 (k + 1) y0 y1)) ∧ (∀ y0 y1, LeO (graftwoodref04_Element.l0 k y0 y1) (graftwoodref04_Element.l0 (k + 1) y0 y1))
  | 0 => ⟨fun _ _ r h => by simp [graftwoodref04_Element.j0] at h, fun _ _ r h => by simp [graftwoodref04_Element.l0] at h⟩
  | k + 1 => by
    obtain ⟨ih0, ih1⟩ := graftwoodref04_Element.mono_l k
    refine ⟨?_, ?_⟩
    · intro y0 y1
      unfold graftwoodref04_Element.j0
      repeat' first
      | (with_reducible exact ih0 _ _)
      | (with_reducible exact ih1 _ _)
      | (with_reducible exact graftwoodref01_Class.mono _ _)
      | (with_reducible exact LeO.refl _)
      | (with_reducible exact LeO.none _)
      | (with_reducible refine LeO.ite ?_ ?_)
      | (with_reducible refine LeO.bind ?_ (fun _ => ?_))
      | exact ih0 _ _
      | exact ih1 _ _
      | exact graftwoodref01_Class.mono _ _
      | exact LeO.none _
      | refine LeO.ite ?_ ?_
      | refine LeO.bind ?_ (fun _ => ?_)
    · intro y0 y1
      unfold graftwoodref04_Element.l0
      repeat' first
      | (with_reducible exact ih0 _ _)
      | (with_reducible exact ih1 _ _)
      | (with_reducible exact graftwoodref01_Class.mono _ _)
      | (with_reducible exact LeO.refl _)
      | (with_reducible exact LeO.none _)
      | (with_reducible refine LeO.ite ?_ ?_)
      | (with_reducible refine LeO.bind ?_ (fun _ => ?_))
      | exact ih0 _ _
      | exact ih1 _ _
      | exact graftwoodref01_Class.mono _ _
      | exact LeO.none _
      | refine LeO.ite ?_ ?_
      | refine LeO.bind ?_ (fun _ => ?_)
theorem graftwoodref04_Element.mono : ∀ a0 k, LeO (graftwoodref04_Element.f k a0) (graftwoodref04_Element.f (k + 1) a0) := by
  intro a0 k
  obtain ⟨ih0, ih1⟩ := graftwoodref04_Element.mono_l k
  unfold graftwoodref04_Element.f
  repeat' first
      | (with_reducible exact ih0 _ _)
      | (with_reducible exact ih1 _ _)
      | (with_reducible exact graftwoodref01_Class.mono _ _)
      | (with_reducible exact LeO.refl _)
      | (with_reducible exact LeO.none _)
      | (with_reducible refine LeO.ite ?_ ?_)
      | (with_reducible refine LeO.bind ?_ (fun _ => ?_))
      | exact ih0 _ _
      | exact ih1 _ _
      | exact graftwoodref01_Class.mono _ _
      | exact LeO.none _
      | refine LeO.ite ?_ ?_
      | refine LeO.bind ?_ (fun _ => ?_)
set_option maxHeartbeats 8000000 in
set_option maxRecDepth 100000 in
theorem graftwoodref04_Element.calls (k : Nat) (a0 : ByteArray) (r : Bool) (w : World) (h : graftwoodref04_Element.f k a0 = some r) :
    Calls Tryz.prog 37 #[.string a0] w fun e w' => e = .returned (.bool r) ∧ Drawn0 w w' := by
  have H : (if (a0.size : Int) = 0 then (graftwoodref04_Element.j0 k a0 true) else (if 0 < (a0.size : Int) then (if (bt a0 0) = 46 then (graftwoodref04_Element.j0 k a0 true) else (if 0 ≤ (wrap64 ((a0.size : Int) - 1)) then (if (wrap64 ((a0.size : Int) - 1)) < (a0.size : Int) then (graftwoodref04_Element.j0 k a0 ((bt a0 (wrap64 ((a0.size : Int) - 1))) == 46)) else (none)) else (none))) else (none))) = some r := h
  clear h
  have HC2 := Aside0.mk H
  clear H
  go_enter Tryz.func37, Tryz.ntmps37
  go_upto_region 1 with (fail)
  go_cut [20] (fun v20 wc => ∃ (kq : Nat) (x20_1 : Bool), v20 = .bool x20_1 ∧ Aside0 (graftwoodref04_Element.j0 kq a0 x20_1 = some r) ∧ Aside0 (kq ≤ k) ∧ Drawn0 w wc)
  case first =>
    have H := HC2.out
    clear HC2
    by_cases c3 : (a0.size : Int) = 0
    · rw [if_pos c3] at H
      have c3b0 : ((a0.size : Int) == 0) = true := beq_iff_eq.mpr c3
      have c3b1 : ((a0.size : Int) != 0) = false := bne_eq_false_iff_eq.mpr c3
      clear c3
      (first | rw [c3b0] | (simp only [i64_w, i32_w]; rw [c3b0]) | skip)
      have H' := Aside0.mk H
      clear H
      go_wp2
      go_meet
      case rel => exact ⟨_, (true), (by first | rfl | (simp; done) | (simp [*]; done)), H', ⟨by first | omega | exact Nat.le_refl _⟩, by repeat (first | exact Drawn0.refl _ | apply Drawn0.step)⟩
    · rw [if_neg c3] at H
      have c3b0 : ((a0.size : Int) == 0) = false := beq_eq_false_iff_ne.mpr c3
      have c3b1 : ((a0.size : Int) != 0) = true := bne_iff_ne.mpr c3
      (first | rw [c3b0] | (simp only [i64_w, i32_w]; rw [c3b0]) | skip)
      by_cases c4 : 0 < (a0.size : Int)
      · rw [if_pos c4] at H
        have c4b0 : decide (0 < (a0.size : Int)) = true := decide_eq_true c4
        have c4b1 : decide (0 < a0.size) = true := decide_eq_true (by omega)
        clear c4
        by_cases c6 : (bt a0 0) = 46
        · rw [if_pos c6] at H
          have c6b0 : ((bt a0 0) == 46) = true := beq_iff_eq.mpr c6
          have c6b1 : ((bt a0 0) != 46) = false := bne_eq_false_iff_eq.mpr c6
          clear c6
          have H' := Aside0.mk H
          clear H
          have p5 : 0 ≤ (0 : Int) := (by omega)
          have q5 : 0 < a0.size := (by have : (0 : Int) < (a0.size : Int) := of_decide_eq_true (by first | (with_reducible assumption) | assumption); omega)
          have hx5 : ∀ h : 0 < a0.size, ((a0[0]'h).toNat : Int) = bt a0 0 := bt_at a0 0
          clear p5
          have qi5 : (0 < (a0.size : Int)) = True := eq_true (of_decide_eq_true (by first | (with_reducible assumption) | assumption))
          replace q5 := eq_true q5
          go_wp2
          go_meet
          case rel => exact ⟨_, (true), (by first | rfl | (simp; done) | (simp [*]; done)), H', ⟨by first | omega | exact Nat.le_refl _⟩, by repeat (first | exact Drawn0.refl _ | apply Drawn0.step)⟩
        · rw [if_neg c6] at H
          have c6b0 : ((bt a0 0) == 46) = false := beq_eq_false_iff_ne.mpr c6
          have c6b1 : ((bt a0 0) != 46) = true := bne_iff_ne.mpr c6
          obtain ⟨ji7, hji7⟩ : ∃ j_ : Int, (wrap64 ((a0.size : Int) - 1)) = j_ := ⟨_, rfl⟩
          replace H : (if 0 ≤ (ji7) then (if (ji7) < (a0.size : Int) then (graftwoodref04_Element.j0 k a0 ((bt a0 (ji7)) == 46)) else (none)) else (none)) = some r := by first | (rw [hji7] at H; exact H) | (simp only [hji7] at H ⊢; exact H)
          have hji7w : (IntKind.i64.wrap ((a0.size : Int) - 1)) = ji7 := (i64_w _).trans hji7
          by_cases c8 : 0 ≤ (ji7)
          · rw [if_pos c8] at H
            have c8b0 : decide (0 ≤ (ji7)) = true := decide_eq_true c8
            clear c8
            by_cases c9 : (ji7) < (a0.size : Int)
            · rw [if_pos c9] at H
              have c9b0 : decide ((ji7) < (a0.size : Int)) = true := decide_eq_true c9
              clear c9
              have H' := Aside0.mk H
              clear H
              have p5 : 0 ≤ (0 : Int) := (by omega)
              have q5 : 0 < a0.size := (by have : (0 : Int) < (a0.size : Int) := of_decide_eq_true (by first | (with_reducible assumption) | assumption); omega)
              have hx5 : ∀ h : 0 < a0.size, ((a0[0]'h).toNat : Int) = bt a0 0 := bt_at a0 0
              clear p5
              have qi5 : (0 < (a0.size : Int)) = True := eq_true (of_decide_eq_true (by first | (with_reducible assumption) | assumption))
              replace q5 := eq_true q5
              have p10 : 0 ≤ ((ji7) : Int) := of_decide_eq_true (by first | (with_reducible assumption) | assumption)
              have q10 : (ji7) < (a0.size : Int) := of_decide_eq_true (by first | (with_reducible assumption) | assumption)
              have hx10 := bt_at a0 (ji7)
              replace p10 := eq_true p10
              replace q10 := eq_true q10
              go_wp2
              go_meet
              case rel => exact ⟨_, (((bt a0 (ji7)) == 46)), (by first | rfl | (simp; done) | (simp only [← hji7] <;> (first | rfl | simp)) | (simp [*]; done)), H', ⟨by first | omega | exact Nat.le_refl _⟩, by repeat (first | exact Drawn0.refl _ | apply Drawn0.step)⟩
            · rw [if_neg c9] at H
              exact absurd H (by simp)
          · rw [if_neg c8] at H
            exact absurd H (by simp)
      · rw [if_neg c4] at H
        exact absurd H (by simp)
  case rest =>
    clear HC2
    try clear p1
    try clear q1
    try clear hx1
    try clear p2
    try clear c3
    try clear c3b0
    try clear c3b1
    try clear c4
    try clear c4b0
    try clear c4b1
    try clear p5
    try clear q5
    try clear hx5
    try clear qi5
    try clear c6
    try clear c6b0
    try clear c6b1
    try clear p6
    try clear c8
    try clear c8b0
    try clear c9
    try clear c9b0
    try clear p10
    try clear q10
    try clear hx10
    try clear p10
    try clear p5
    try clear q10
    try clear q5
    obtain ⟨kq, x20_1, rfl, HA, HJ1, ⟨mc1, rfl⟩⟩ := hcut
    cases kq with
    | zero => exact absurd HA.out (by simp [graftwoodref04_Element.j0])
    | succ kj1 =>
      have H := HA.out
      clear HA
      simp only [graftwoodref04_Element.j0] at H
      by_cases c11 : x20_1 = true
      · subst c11
        have H1 : (some false) = some r := by rw [if_pos rfl] at H; exact H
        clear H
        have H := H1
        clear H1
        obtain rfl := Option.some.inj H
        go_wp2
        go_ret
        exact ⟨by first | rfl | (simp; done) | (simp [*]; done), by repeat (first | exact Drawn0.refl _ | apply Drawn0.step)⟩
      · replace c11 := Bool.eq_false_iff.mpr c11
        subst c11
        have H1 : (graftwoodref04_Element.l0 kj1 a0 0) = some r := by rw [if_neg (show ¬ (false = true) by decide)] at H; exact H
        clear H
        have H := H1
        clear H1
        have H' := Aside0.mk H
        clear H
        go_wp2
        go_loopg [3] kj1 (fun kq v3 w' => ∃ (x3_2 : Int), v3 = .int .i64 x3_2 ∧ Aside0 (graftwoodref04_Element.l0 kq a0 x3_2 = some r) ∧ Aside0 (kq ≤ kj1) ∧ Drawn0 w w')
        case atStart => exact ⟨(0), (by first | rfl | (simp; done) | (simp [*]; done)), H', ⟨Nat.le_refl _⟩, by repeat (first | exact Drawn0.refl _ | apply Drawn0.step)⟩
        case round =>
          clear H'
          try clear c1
          try clear p1
          try clear q1
          try clear hx1
          try clear p2
          try clear c3
          try clear c3b0
          try clear c3b1
          try clear c4
          try clear c4b0
          try clear c4b1
          try clear p5
          try clear q5
          try clear hx5
          try clear qi5
          try clear c6
          try clear c6b0
          try clear c6b1
          try clear p6
          try clear c8
          try clear c8b0
          try clear c9
          try clear c9b0
          try clear p10
          try clear q10
          try clear hx10
          try clear c11
          try clear p1
          try clear p10
          try clear p2
          try clear p5
          try clear p6
          try clear q1
          try clear q10
          try clear q5
          obtain ⟨x3_2, rfl, HA, HK2, ⟨m2, rfl⟩⟩ := hrel
          cases gk with
          | zero => exact absurd HA.out (by simp [graftwoodref04_Element.l0])
          | succ k2 =>
            have H := HA.out
            clear HA
            simp only [graftwoodref04_Element.l0] at H
            by_cases c12 : x3_2 < (a0.size : Int)
            · rw [if_pos c12] at H
              have c12b0 : decide (x3_2 < (a0.size : Int)) = true := decide_eq_true c12
              clear c12
              by_cases c13 : 0 ≤ x3_2
              · rw [if_pos c13] at H
                have c13b0 : decide (0 ≤ x3_2) = true := decide_eq_true c13
                clear c13
                replace H := Option.bind_eq_some_iff.mp H
                obtain ⟨t175, A150, H⟩ := H
                replace H : (if t175 < 1 then (some false) else (if t175 > 3 then (some false) else (graftwoodref04_Element.l0 k2 a0 (wrap64 (x3_2 + 1))))) = some r := H
                have A15 := Aside0.mk A150
                clear A150
                by_cases c16 : t175 < 1
                · rw [if_pos c16] at H
                  have c16b0 : decide (t175 < 1) = true := decide_eq_true c16
                  clear c16
                  obtain rfl := Option.some.inj H
                  have p14 : 0 ≤ (x3_2 : Int) := of_decide_eq_true (by first | (with_reducible assumption) | assumption)
                  have q14 : x3_2 < (a0.size : Int) := of_decide_eq_true (by first | (with_reducible assumption) | assumption)
                  have hx14 := bt_at a0 x3_2
                  replace p14 := eq_true p14
                  replace q14 := eq_true q14
                  go_wp2_with (first | ((with_reducible refine gate_callee (f := 50) rfl ?_); refine goesL_ (some 30) rfl rfl Tryz.func50 (by kernel_rfl) rfl #[.int .u8 (bt a0 x3_2)] rfl (by (try simp only [List.map_toArray, List.map_cons, List.map_nil]); first | done | rfl | (simp only [List.length_drop, List.length_take]; rfl)) ?_; (with_reducible refine (graftwoodref01_Class.calls k2 (bt a0 x3_2) t175 _ A15.out).mono ?_); rintro e w' ⟨rfl, ⟨nd, rfl⟩⟩; refine ⟨_, rfl, ?_⟩))
                  go_ret
                  exact ⟨by first | rfl | (simp; done) | (simp [*]; done), by repeat (first | exact Drawn0.refl _ | apply Drawn0.step)⟩
                · rw [if_neg c16] at H
                  have c16b0 : decide (t175 < 1) = false := decide_eq_false c16
                  clear c16
                  by_cases c17 : t175 > 3
                  · rw [if_pos c17] at H
                    have c17b0 : decide (3 < t175) = true := decide_eq_true c17
                    clear c17
                    obtain rfl := Option.some.inj H
                    have p14 : 0 ≤ (x3_2 : Int) := of_decide_eq_true (by first | (with_reducible assumption) | assumption)
                    have q14 : x3_2 < (a0.size : Int) := of_decide_eq_true (by first | (with_reducible assumption) | assumption)
                    have hx14 := bt_at a0 x3_2
                    replace p14 := eq_true p14
                    replace q14 := eq_true q14
                    go_wp2_with (first | ((with_reducible refine gate_callee (f := 50) rfl ?_); refine goesL_ (some 30) rfl rfl Tryz.func50 (by kernel_rfl) rfl #[.int .u8 (bt a0 x3_2)] rfl (by (try simp only [List.map_toArray, List.map_cons, List.map_nil]); first | done | rfl | (simp only [List.length_drop, List.length_take]; rfl)) ?_; (with_reducible refine (graftwoodref01_Class.calls k2 (bt a0 x3_2) t175 _ A15.out).mono ?_); rintro e w' ⟨rfl, ⟨nd, rfl⟩⟩; refine ⟨_, rfl, ?_⟩))
                    go_ret
                    exact ⟨by first | rfl | (simp; done) | (simp [*]; done), by repeat (first | exact Drawn0.refl _ | apply Drawn0.step)⟩
                  · rw [if_neg c17] at H
                    have c17b0 : decide (3 < t175) = false := decide_eq_false c17
                    clear c17
                    have H' := Aside0.mk H
                    clear H
                    have p14 : 0 ≤ (x3_2 : Int) := of_decide_eq_true (by first | (with_reducible assumption) | assumption)
                    have q14 : x3_2 < (a0.size : Int) := of_decide_eq_true (by first | (with_reducible assumption) | assumption)
                    have hx14 := bt_at a0 x3_2
                    replace p14 := eq_true p14
                    replace q14 := eq_true q14
                    go_wp2_with (first | ((with_reducible refine gate_callee (f := 50) rfl ?_); refine goesL_ (some 30) rfl rfl Tryz.func50 (by kernel_rfl) rfl #[.int .u8 (bt a0 x3_2)] rfl (by (try simp only [List.map_toArray, List.map_cons, List.map_nil]); first | done | rfl | (simp only [List.length_drop, List.length_take]; rfl)) ?_; (with_reducible refine (graftwoodref01_Class.calls k2 (bt a0 x3_2) t175 _ A15.out).mono ?_); rintro e w' ⟨rfl, ⟨nd, rfl⟩⟩; refine ⟨_, rfl, ?_⟩))
                    go_roundg k2
                    case measure => have := HJ1.out; have := HK2.out; omega
                    case rel => exact ⟨(wrap64 (x3_2 + 1)), (by first | rfl | (simp; done) | (simp [*]; done)), H', ⟨by have := HJ1.out; have := HK2.out; omega⟩, by repeat (first | exact Drawn0.refl _ | apply Drawn0.step)⟩
              · rw [if_neg c13] at H
                exact absurd H (by simp)
            · rw [if_neg c12] at H
              have c12b0 : decide (x3_2 < (a0.size : Int)) = false := decide_eq_false c12
              clear c12
              obtain rfl := Option.some.inj H
              go_wp2
              go_ret
              exact ⟨by first | rfl | (simp; done) | (simp [*]; done), by repeat (first | exact Drawn0.refl _ | apply Drawn0.step)⟩

end Go.Proofs.YtnknjhdpjjddeaaGreatDoor.Q
end

section
namespace Go.Proofs.YtnknjhdpjjddeaaGreatDoor.Q
open Go.RowKit Go.Proofs.YtnknjhdpjjddeaaGreatDoorW.PrintWords Go.Proofs.YtnknjhdpjjddeaaGreatDoorW.PrintLast Go.Proofs.YtnknjhdpjjddeaaGreatDoorW.PrintMore
attribute [local go_sem] max2_int min2_int max_two min_two max_three min_three max_four min_four   -- for this text's walks alone
set_option linter.unusedVariables false
set_option linter.unusedSimpArgs false

/-! ### graftwoodref04_May: function 25 -/
def graftwoodref04_May.l0 : Nat → List ByteArray → Int → Option (Bool)
  | 0, _, _ => none
  | k + 1, x3, x4 => if x4 < (x3.length : Int) then (if 0 ≤ x4 then ((graftwoodref04_Element.f k (rdOf ByteArray.empty x3 x4)).bind fun t180 => (if t180 = true then (graftwoodref04_May.l0 k x3 (wrap64 (x4 + 1))) else (some false))) else (none)) else (some true)
def graftwoodref04_May.f (k : Nat) (a0 : ByteArray) : Option (Bool) := (graftwoodref01_Parts.f k a0 47).bind fun t176 => (graftwoodref04_May.l0 k t176 0)
theorem graftwoodref04_May.mono_l : ∀ k, (∀ y0 y1, LeO (graftwoodref04_May.l0 k y0 y1) (graftwoodref04_May.l0 (k + 1) y0 y1))
  | 0 => fun _ _ r h => by simp [graftwoodref04_May.l0] at h
  | k + 1 => by
    have ih0 := graftwoodref04_May.mono_l k
    · intro y0 y1
      unfold graftwoodref04_May.l0
      repeat' first
      | (with_reducible exact ih0 _ _)
      | (with_reducible exact graftwoodref01_Parts.mono _ _ _)
      | (with_reducible exact graftwoodref04_Element.mono _ _)
      | (with_reducible exact LeO.refl _)
      | (with_reducible exact LeO.none _)
      | (with_reducible refine LeO.ite ?_ ?_)
      | (with_reducible refine LeO.bind ?_ (fun _ => ?_))
      | exact ih0 _ _
      | exact graftwoodref01_Parts.mono _ _ _
      | exact graftwoodref04_Element.mono _ _
      | exact LeO.none _
      | refine LeO.ite ?_ ?_
      | refine LeO.bind ?_ (fun _ => ?_)
theorem graftwoodref04_May.mono : ∀ a0 k, LeO (graftwoodref04_May.f k a0) (graftwoodref04_May.f (k + 1) a0) := by
  intro a0 k
  have ih0 := graftwoodref04_May.mono_l k
  unfold graftwoodref04_May.f
  repeat' first
      | (with_reducible exact ih0 _ _)
      | (with_reducible exact graftwoodref01_Parts.mono _ _ _)
      | (with_reducible exact graftwoodref04_Element.mono _ _)
      | (with_reducible exact LeO.refl _)
      | (with_reducible exact LeO.none _)
      | (with_reducible refine LeO.ite ?_ ?_)
      | (with_reducible refine LeO.bind ?_ (fun _ => ?_))
      | exact ih0 _ _
      | exact graftwoodref01_Parts.mono _ _ _
      | exact graftwoodref04_Element.mono _ _
      | exact LeO.none _
      | refine LeO.ite ?_ ?_
      | refine LeO.bind ?_ (fun _ => ?_)
set_option maxHeartbeats 8000000 in
set_option maxRecDepth 100000 in
theorem graftwoodref04_May.calls (k : Nat) (a0 : ByteArray) (r : Bool) (w : World) (h : graftwoodref04_May.f k a0 = some r) :
    Calls Tryz.prog 25 #[.string a0] w fun e w' => e = .returned (.bool r) ∧ Below w.heap.size w w' := by
  have HB := Aside0.mk (Below.refl w.heap.size w)
  have H : ((graftwoodref01_Parts.f k a0 47).bind fun t176 => (graftwoodref04_May.l0 k t176 0)) = some r := h
  clear h
  replace H := Option.bind_eq_some_iff.mp H
  obtain ⟨t176, A20, H⟩ := H
  replace H : (graftwoodref04_May.l0 k t176 0) = some r := H
  have A2 := Aside0.mk A20
  clear A20
  have H' := Aside0.mk H
  clear H
  go_enter Tryz.func25, Tryz.ntmps25
  go_wp2_with (first | ((with_reducible refine gate_callee (f := 36) rfl ?_); refine goesL_ (some 6) rfl rfl Tryz.func36 (by kernel_rfl) rfl #[.string a0, .int .u8 47] rfl (by (try simp only [List.map_toArray, List.map_cons, List.map_nil]); first | done | rfl | (simp only [List.length_drop, List.length_take]; rfl)) ?_; (with_reducible refine (graftwoodref01_Parts.calls k a0 47 t176 _ A2.out).mono ?_); rintro e w3 ⟨v177, rfl, ho0, hb⟩; refine ⟨_, rfl, ?_⟩; have n0_ := Aside0.mk (Kd.R_lower ho0 (below_size (by repeat (first | (with_reducible first | exact HB.out | apply below_alloc | apply pw_below_drewN | apply below_drew1) | exact HB.out)))); have n1_ := Aside0.mk (below_step (by repeat (first | (with_reducible first | exact HB.out | apply below_alloc | apply pw_below_drewN | apply below_drew1) | exact HB.out)) hb); clear HB; have HO178 := n0_; have HB := n1_; clear n0_ n1_; (try clear hb); (try clear hb2); (try clear hk); (try clear hi); (try clear ho0)))
  go_loopg [4] k (fun kq v4 w' => ∃ (x4_1 : Int), v4 = .int .i64 x4_1 ∧ Aside0 (graftwoodref04_May.l0 kq t176 x4_1 = some r) ∧ Aside0 (kq ≤ k) ∧ Aside0 (Kd.R Kd.string 9 w' w.heap.size (fun _ => True) v177 t176) ∧ Aside0 (Below w.heap.size w w'))
  case atStart => exact ⟨(0), (by first | rfl | (simp; done) | (simp [*]; done)), H', ⟨Nat.le_refl _⟩, ⟨by (with_reducible repeat (first | apply Kd.R_alloc | apply Kd.R_drewN | apply Kd.R_drew)); exact HO178.out⟩, ⟨by repeat (first | (with_reducible first | exact HB.out | apply below_alloc | apply pw_below_drewN | apply below_drew1) | exact HB.out)⟩⟩
  case round =>
    clear H'
    try clear c2
    try clear p2
    try clear c3
    obtain ⟨x4_1, rfl, HA, HK1, HO_3, HB⟩ := hrel
    cases gk with
    | zero => exact absurd HA.out (by simp [graftwoodref04_May.l0])
    | succ k1 =>
      have H := HA.out
      clear HA
      simp only [graftwoodref04_May.l0] at H
      by_cases c4 : x4_1 < (t176.length : Int)
      · rw [if_pos c4] at H
        have c4b0 : decide (x4_1 < (t176.length : Int)) = true := decide_eq_true c4
        clear c4
        by_cases c5 : 0 ≤ x4_1
        · rw [if_pos c5] at H
          have c5b0 : decide (0 ≤ x4_1) = true := decide_eq_true c5
          clear c5
          replace H := Option.bind_eq_some_iff.mp H
          obtain ⟨t180, A60, H⟩ := H
          replace H : (if t180 = true then (graftwoodref04_May.l0 k1 t176 (wrap64 (x4_1 + 1))) else (some false)) = some r := H
          have A6 := Aside0.mk A60
          clear A60
          by_cases c7 : t180 = true
          · subst c7
            have H1 : (graftwoodref04_May.l0 k1 t176 (wrap64 (x4_1 + 1))) = some r := by rw [if_pos rfl] at H; exact H
            clear H
            have H := H1
            clear H1
            have H' := Aside0.mk H
            clear H
            obtain ⟨Ao8, co8, eo8⟩ := Kd.R_slice HO_3.out
            subst eo8
            have p179 : 0 ≤ (x4_1 : Int) := of_decide_eq_true (by first | (with_reducible assumption) | assumption)
            have q179 : x4_1 < (t176.length : Int) := of_decide_eq_true (by first | (with_reducible assumption) | assumption)
            obtain ⟨ad179, e179, hx179_0⟩ := Kd.at_string (Kd.R_reads' HO_3.out).2.2 x4_1 p179 q179
            cases e179
            replace p179 := eq_true p179
            replace q179 := eq_true q179
            go_wp2_with (first | ((with_reducible refine gate_callee (f := 37) rfl ?_); refine goesL_ (some 17) rfl rfl Tryz.func37 (by kernel_rfl) rfl #[.string (rdOf ByteArray.empty t176 x4_1)] rfl (by (try simp only [List.map_toArray, List.map_cons, List.map_nil]); first | done | rfl | (simp only [List.length_drop, List.length_take]; rfl)) ?_; (with_reducible refine (graftwoodref04_Element.calls k1 (rdOf ByteArray.empty t176 x4_1) true _ A6.out).mono ?_); rintro e w' ⟨rfl, ⟨nd, rfl⟩⟩; refine ⟨_, rfl, ?_⟩))
            go_roundg k1
            case measure => have := HK1.out; omega
            case rel => exact ⟨(wrap64 (x4_1 + 1)), (by first | rfl | (simp; done) | (simp [*]; done)), H', ⟨by have := HK1.out; omega⟩, ⟨by (with_reducible repeat (first | apply Kd.R_alloc | apply Kd.R_drewN | apply Kd.R_drew)); exact HO_3.out⟩, ⟨by repeat (first | (with_reducible first | exact HB.out | apply below_alloc | apply pw_below_drewN | apply below_drew1) | exact HB.out)⟩⟩
          · replace c7 := Bool.eq_false_iff.mpr c7
            subst c7
            have H1 : (some false) = some r := by rw [if_neg (show ¬ (false = true) by decide)] at H; exact H
            clear H
            have H := H1
            clear H1
            obtain rfl := Option.some.inj H
            obtain ⟨Ao9, co9, eo9⟩ := Kd.R_slice HO_3.out
            subst eo9
            have p179 : 0 ≤ (x4_1 : Int) := of_decide_eq_true (by first | (with_reducible assumption) | assumption)
            have q179 : x4_1 < (t176.length : Int) := of_decide_eq_true (by first | (with_reducible assumption) | assumption)
            obtain ⟨ad179, e179, hx179_0⟩ := Kd.at_string (Kd.R_reads' HO_3.out).2.2 x4_1 p179 q179
            cases e179
            replace p179 := eq_true p179
            replace q179 := eq_true q179
            go_wp2_with (first | ((with_reducible refine gate_callee (f := 37) rfl ?_); refine goesL_ (some 17) rfl rfl Tryz.func37 (by kernel_rfl) rfl #[.string (rdOf ByteArray.empty t176 x4_1)] rfl (by (try simp only [List.map_toArray, List.map_cons, List.map_nil]); first | done | rfl | (simp only [List.length_drop, List.length_take]; rfl)) ?_; (with_reducible refine (graftwoodref04_Element.calls k1 (rdOf ByteArray.empty t176 x4_1) false _ A6.out).mono ?_); rintro e w' ⟨rfl, ⟨nd, rfl⟩⟩; refine ⟨_, rfl, ?_⟩))
            go_ret
            exact ⟨by first | rfl | (simp [errW_none, errW_some] <;> rfl) | (simp [*, errW_none, errW_some] <;> rfl), by repeat (first | (with_reducible first | exact HB.out | apply below_alloc | apply pw_below_drewN | apply below_drew1) | exact HB.out)⟩
        · rw [if_neg c5] at H
          exact absurd H (by simp)
      · rw [if_neg c4] at H
        have c4b0 : decide (x4_1 < (t176.length : Int)) = false := decide_eq_false c4
        clear c4
        obtain rfl := Option.some.inj H
        obtain ⟨Ao10, co10, eo10⟩ := Kd.R_slice HO_3.out
        subst eo10
        go_wp2
        go_ret
        exact ⟨by first | rfl | (simp [errW_none, errW_some] <;> rfl) | (simp [*, errW_none, errW_some] <;> rfl), by repeat (first | (with_reducible first | exact HB.out | apply below_alloc | apply pw_below_drewN | apply below_drew1) | exact HB.out)⟩

end Go.Proofs.YtnknjhdpjjddeaaGreatDoor.Q
end

section
namespace Go.Proofs.YtnknjhdpjjddeaaGreatDoor.Q
open Go.RowKit Go.Proofs.YtnknjhdpjjddeaaGreatDoorW.PrintWords Go.Proofs.YtnknjhdpjjddeaaGreatDoorW.PrintLast Go.Proofs.YtnknjhdpjjddeaaGreatDoorW.PrintMore Gw
set_option linter.unusedVariables false
set_option linter.unusedSimpArgs false

theorem Class_fin : ∀ c < 256, graftwoodref01_Class.f 5 (c : Nat) = some (cls c : Nat) := by decide +kernel
theorem Class_tot (c : Nat) (h : c < 256) (k : Nat) (hk : 5 ≤ k) : graftwoodref01_Class.f k (c : Int) = some ((cls c : Nat) : Int) := at_rounds (graftwoodref01_Class.mono _) hk (Class_fin c h)
theorem Parts_l0 (s : ByteArray) (hs : Small s) (sep : Nat) : ∀ (r : List Nat) (i f k : Nat) (acc : List ByteArray), (bs s).drop i = r → i ≤ s.size → f ≤ i → acc.length ≤ i → r.length < k →
    graftwoodref01_Parts.l0 k s (sep : Int) acc (f : Int) (i : Int) = some (acc ++ (glue (((bs s).take i).drop f) (parts sep r)).map ofB)
  | [], i, f, k, acc, hr, hi, hf, ha, hk => by
    have e := drop_nil hr hi
    unfold Small at hs
    obtain ⟨k, rfl⟩ : ∃ m, k = m + 1 := ⟨k - 1, by simp at hk; omega⟩
    simp only [graftwoodref01_Parts.l0]
    rw [if_neg (by omega), if_pos (by omega), if_pos (by omega), if_pos (by omega), Int.toNat_natCast, ext_ofB, e]
    simp [parts, glue]
  | c :: r, i, f, k, acc, hr, hi, hf, ha, hk => by
    obtain ⟨h1, h2, h3, h4⟩ := bt_drop hr
    obtain ⟨p, ps, hp⟩ := parts_cons sep r
    have hw := w1 h1 hs
    unfold Small at hs
    obtain ⟨k, rfl⟩ : ∃ m, k = m + 1 := ⟨k - 1, by simp at hk; omega⟩
    simp only [List.length_cons] at hk
    simp only [graftwoodref01_Parts.l0]
    rw [if_pos (by omega), if_pos (by omega), h2]
    by_cases hc : c = sep
    · rw [if_pos (by omega), if_pos (by omega), if_pos (by omega), if_pos (by omega), if_pos (by omega), hw, Int.toNat_natCast, Int.toNat_natCast, ext_ofB,
        Parts_l0 s hs sep r (i + 1) (i + 1) k _ h3 (by omega) (by omega) (by simp; omega) (by omega), hc, parts_sep, hp]
      have e0 : ((bs s).take (i + 1)).drop (i + 1) = [] := List.drop_eq_nil_of_le (by rw [List.length_take]; omega)
      rw [e0]
      simp [glue]
    · rw [if_neg (by omega), hw, Parts_l0 s hs sep r (i + 1) f k _ h3 (by omega) (by omega) (by omega) (by omega), parts_other hc hp, hp, cur_snoc hr hf]
      simp [glue]
theorem Parts_tot (s : ByteArray) (hs : Small s) (sep k : Nat) (hk : s.size < k) : graftwoodref01_Parts.f k s (sep : Int) = some ((parts sep (bs s)).map ofB) := by
  unfold graftwoodref01_Parts.f
  have := Parts_l0 s hs sep (bs s) 0 0 k [] rfl (Nat.zero_le _) (Nat.le_refl _) (Nat.le_refl _) (by rw [bs_length]; exact hk)
  rw [show ((0 : Int)) = ((0 : Nat) : Int) from rfl, this]
  obtain ⟨p, ps, hp⟩ := parts_cons sep (bs s)
  simp [hp, glue]
/-! Elements. -/
theorem Element_l0 (s : ByteArray) (hs : Small s) : ∀ (r : List Nat) (i k : Nat), (bs s).drop i = r → i ≤ s.size → r.length + 5 < k →
    graftwoodref04_Element.l0 k s (i : Int) = some (r.all fun c => inner c || c == 46)
  | [], i, k, hr, hi, hk => by
    have e := drop_nil hr hi
    obtain ⟨k, rfl⟩ : ∃ m, k = m + 1 := ⟨k - 1, by omega⟩
    simp only [graftwoodref04_Element.l0]
    rw [if_neg (by omega)]
    rfl
  | c :: r, i, k, hr, hi, hk => by
    obtain ⟨h1, h2, h3, h4⟩ := bt_drop hr
    have hw := w1 h1 hs
    obtain ⟨k, rfl⟩ : ∃ m, k = m + 1 := ⟨k - 1, by omega⟩
    simp only [List.length_cons] at hk
    simp only [graftwoodref04_Element.l0]
    rw [if_pos (by omega), if_pos (by omega), h2, Class_tot c h4 k (by omega)]
    simp only [Option.bind_some]
    have he := cls_elem c h4
    by_cases hc : (inner c || c == 46) = true
    · have hh := he.2 hc
      rw [if_neg (by omega), if_neg (by omega), hw, Element_l0 s hs r (i + 1) k h3 (by omega) (by omega), List.all_cons, hc, Bool.true_and]
    · have hn : ¬(1 ≤ cls c ∧ cls c ≤ 3) := fun h => hc (he.1 h)
      rw [List.all_cons, Bool.eq_false_iff.2 hc, Bool.false_and]
      by_cases hl : ((cls c : Nat) : Int) < 1
      · rw [if_pos hl]
      · rw [if_neg hl, if_pos (by omega)]
theorem Element_tot (s : ByteArray) (hs : Small s) (k : Nat) (hk : s.size + 7 < k) : graftwoodref04_Element.f k s = some (isElem (bs s)) := by
  obtain ⟨k, rfl⟩ : ∃ m, k = m + 1 := ⟨k - 1, by omega⟩
  have hl := Element_l0 s hs (bs s) 0 k rfl (Nat.zero_le _) (by rw [bs_length]; omega)
  unfold graftwoodref04_Element.f
  cases hb : bs s with
  | nil =>
    have h0 : s.size = 0 := by rw [← bs_length, hb]; rfl
    rw [if_pos (by omega)]
    simp [graftwoodref04_Element.j0, isElem]
  | cons c r =>
    have h0 : s.size = r.length + 1 := by rw [← bs_length, hb]; rfl
    have hlast : bt s ((s.size - 1 : Nat) : Int) = ((c :: r).getLast (by simp) : Nat) := by
      rw [bt_at_get s (s.size - 1) (by omega)]
      congr 1
      rw [List.getLast_eq_getElem]
      simp only [hb, h0, List.length_cons]
    have hw : wrap64 ((s.size : Int) - 1) = ((s.size - 1 : Nat) : Int) := by unfold Small at hs; unfold wrap64; omega
    rw [if_neg (by omega), if_pos (by omega)]
    have hd : (bs s).drop 0 = c :: r := by simpa using hb
    have hc := (bt_drop hd).2.1
    rw [show ((0 : Nat) : Int) = 0 from rfl] at hc
    rw [hc, hw, hlast]
    rw [hb] at hl
    by_cases h46 : c = 46
    · rw [if_pos (by omega)]
      simp [graftwoodref04_Element.j0, isElem, h46]
    · rw [if_neg (by omega), if_pos (by omega), if_pos (by omega)]
      rw [show ((0 : Nat) : Int) = 0 from rfl] at hl
      simp only [graftwoodref04_Element.j0, hl]
      unfold isElem
      by_cases hq : (c :: r).getLast (by simp) = 46
      · rw [hq]; simp [List.getLast?_eq_some_getLast, hq]
      · have : (((c :: r).getLast (by simp) : Nat) : Int) ≠ 46 := by omega
        simp [List.getLast?_eq_some_getLast, hq, this, h46]
theorem ref4May_l0 (l : List ByteArray) (B : Nat) (hl : l.length ≤ 8796093022208) (hs : ∀ x ∈ l, Small x ∧ x.size ≤ B) : ∀ (r : List ByteArray) (i k : Nat), l.drop i = r → i ≤ l.length → r.length + B + 8 < k →
    graftwoodref04_May.l0 k l (i : Int) = some (r.all fun x => isElem (bs x))
  | [], i, k, hr, hi, hk => by
    have := List.drop_eq_nil_iff.1 hr
    obtain ⟨k, rfl⟩ : ∃ m, k = m + 1 := ⟨k - 1, by omega⟩
    simp only [graftwoodref04_May.l0]
    rw [if_neg (by omega)]
    rfl
  | x :: r, i, k, hr, hi, hk => by
    obtain ⟨h1, h2, h3⟩ := rdOf_nat hr
    have hx := hs x (List.mem_of_mem_drop (i := i) (by rw [hr]; exact List.mem_cons_self))
    have hw := wl h1 hl
    obtain ⟨k, rfl⟩ : ∃ m, k = m + 1 := ⟨k - 1, by omega⟩
    simp only [List.length_cons] at hk
    simp only [graftwoodref04_May.l0]
    rw [if_pos (by omega), if_pos (by omega), h2, Element_tot x hx.1 k (by omega)]
    simp only [Option.bind_some]
    by_cases hc : isElem (bs x) = true
    · rw [if_pos hc, hw, ref4May_l0 l B hl hs r (i + 1) k h3 (by omega) (by omega), List.all_cons, hc, Bool.true_and]
    · rw [if_neg hc, List.all_cons, Bool.eq_false_iff.2 hc, Bool.false_and]
theorem ref4May_tot (s : ByteArray) (hs : Small s) (k : Nat) (hk : 2 * s.size + 10 < k) : graftwoodref04_May.f k s = some (isPath (bs s)) := by
  have h := parts_small hs 47
  unfold Small at hs
  unfold graftwoodref04_May.f
  rw [show (47 : Int) = ((47 : Nat) : Int) from rfl, Parts_tot s hs 47 k (by omega)]
  simp only [Option.bind_some]
  rw [show (0 : Int) = ((0 : Nat) : Int) from rfl, ref4May_l0 _ s.size (by omega) h.2 ((parts 47 (bs s)).map ofB) 0 k rfl (Nat.zero_le _) (by omega), parts_all s 47 isElem]
  rfl

/-! Numbers. -/
theorem digit_tot (c : Nat) (h : c < 256) : graftwoodref02_digit.f (c : Int) = some (if dig c then (c : Int) - 48 else -1) := by
  unfold graftwoodref02_digit.f dig
  by_cases h1 : c < 48
  · rw [if_pos (by omega), if_neg (by simp; omega)]
  · rw [if_neg (by omega)]
    by_cases h2 : c > 57
    · rw [if_pos (by omega), if_neg (by simp; omega)]
    · rw [if_neg (by omega), if_pos (by simp; omega)]
      congr 1
      unfold wrap64; omega
theorem ref2May_l0 (s : ByteArray) (hs : Small s) : ∀ (r : List Nat) (i k : Nat), (bs s).drop i = r → i ≤ s.size → r.length < k →
    graftwoodref02_May.l0 k s (i : Int) = some (r.all dig && match bs s with | [] => false | c :: r => r.isEmpty || c != 48)
  | [], i, k, hr, hi, hk => by
    have e := drop_nil hr hi
    obtain ⟨k, rfl⟩ : ∃ m, k = m + 1 := ⟨k - 1, by omega⟩
    simp only [graftwoodref02_May.l0]
    rw [if_neg (by omega)]
    cases hb : bs s with
    | nil =>
      have h0 : s.size = 0 := by rw [← bs_length, hb]; rfl
      rw [if_neg (by omega), if_neg (by omega)]; rfl
    | cons c r =>
      have h0 : s.size = r.length + 1 := by rw [← bs_length, hb]; rfl
      have hd : (bs s).drop 0 = c :: r := by simpa using hb
      have hc := (bt_drop hd).2.1
      rw [show ((0 : Nat) : Int) = 0 from rfl] at hc
      cases r with
      | nil => rw [if_pos (by simp at h0; omega)]; rfl
      | cons d r =>
        simp only [List.length_cons] at h0
        rw [if_neg (by omega), if_pos (by omega), if_pos (by omega), hc]
        simp
        rw [Bool.eq_iff_iff]; simp; omega
  | c :: r, i, k, hr, hi, hk => by
    obtain ⟨h1, h2, h3, h4⟩ := bt_drop hr
    have hw := w1 h1 hs
    obtain ⟨k, rfl⟩ : ∃ m, k = m + 1 := ⟨k - 1, by omega⟩
    simp only [List.length_cons] at hk
    simp only [graftwoodref02_May.l0]
    rw [if_pos (by omega), if_pos (by omega), h2, digit_tot c h4]
    simp only [Option.bind_some]
    by_cases hc : dig c = true
    · have hcc : 48 ≤ c := by simp [dig] at hc; omega
      rw [if_pos hc, if_neg (by omega), hw, ref2May_l0 s hs r (i + 1) k h3 (by omega) (by omega), List.all_cons, hc, Bool.true_and]
    · rw [if_neg hc, if_pos (by omega), List.all_cons, Bool.eq_false_iff.2 hc, Bool.false_and, Bool.false_and]
theorem ref2May_tot (s : ByteArray) (hs : Small s) (k : Nat) (hk : s.size < k) : graftwoodref02_May.f k s = some (isNum (bs s)) := by
  unfold graftwoodref02_May.f
  rw [show (0 : Int) = ((0 : Nat) : Int) from rfl, ref2May_l0 s hs (bs s) 0 k rfl (Nat.zero_le _) (by rw [bs_length]; exact hk)]
  rfl

/-! Words. -/
theorem Word_l0 (s : ByteArray) (hs : Small s) : ∀ (r : List Nat) (i k : Nat) (b : Bool), (bs s).drop i = r → i ≤ s.size → r.length + s.size + 6 < k →
    graftwoodref03_Word.l0 k s b (i : Int) = some (r.all wch && !(bs s).isEmpty && (!(b && r.all dig) || isNum (bs s)))
  | [], i, k, b, hr, hi, hk => by
    have e := drop_nil hr hi
    obtain ⟨k, rfl⟩ : ∃ m, k = m + 1 := ⟨k - 1, by omega⟩
    simp only [graftwoodref03_Word.l0]
    rw [if_neg (by omega)]
    have hl := bs_length s
    cases hb : bs s with
    | nil => rw [hb] at hl; rw [if_neg (by simp at hl; omega)]; rfl
    | cons c r =>
      rw [hb] at hl
      rw [if_pos (by simp at hl; omega)]
      cases b with
      | true => rw [if_pos rfl, ref2May_tot s hs k (by omega), hb]; simp
      | false => rw [if_neg (by decide)]; simp
  | c :: r, i, k, b, hr, hi, hk => by
    obtain ⟨h1, h2, h3, h4⟩ := bt_drop hr
    have hw := w1 h1 hs
    obtain ⟨k, rfl⟩ : ∃ m, k = m + 1 := ⟨k - 1, by omega⟩
    simp only [List.length_cons] at hk
    simp only [graftwoodref03_Word.l0]
    rw [if_pos (by omega), if_pos (by omega), h2, Class_tot c h4 k (by omega)]
    simp only [Option.bind_some]
    have d1 := cls_dig c h4
    have d2 := cls_let c h4
    by_cases hd : dig c = true
    · have hww : wch c = true := by simp [wch, hd]
      rw [if_pos (by have := d1.2 hd; omega), hw, Word_l0 s hs r (i + 1) k b h3 (by omega) (by omega), List.all_cons, List.all_cons, hd, hww, Bool.true_and, Bool.true_and]
    · have hdf := Bool.eq_false_iff.2 hd
      rw [if_neg (fun h => hd (d1.1 (by omega)))]
      by_cases hl : let_ c = true
      · have hww : wch c = true := by simp [wch, hl]
        rw [if_pos (by have := d2.2 hl; omega), hw, Word_l0 s hs r (i + 1) k false h3 (by omega) (by omega), List.all_cons, List.all_cons, hdf, hww]
        simp
      · rw [if_neg (fun h => hl (d2.1 (by omega)))]
        by_cases h45 : c = 45
        · have hww : wch c = true := by simp [wch, h45]
          rw [if_pos (by omega), hw, Word_l0 s hs r (i + 1) k false h3 (by omega) (by omega), List.all_cons, List.all_cons, hdf, hww]
          simp
        · have hww : wch c = false := by simp [wch, hdf, Bool.eq_false_iff.2 hl, h45]
          rw [if_neg (by omega), List.all_cons, hww, Bool.false_and, Bool.false_and, Bool.false_and]
theorem Word_tot (s : ByteArray) (hs : Small s) (k : Nat) (hk : 2 * s.size + 6 < k) : graftwoodref03_Word.f k s = some (isWord (bs s)) := by
  unfold graftwoodref03_Word.f
  rw [show (0 : Int) = ((0 : Nat) : Int) from rfl, Word_l0 s hs (bs s) 0 k true rfl (Nat.zero_le _) (by rw [bs_length]; omega)]
  unfold isWord
  rw [Bool.true_and, Bool.and_comm ((bs s).all wch)]
end Go.Proofs.YtnknjhdpjjddeaaGreatDoor.Q
end

section
namespace Go.Proofs.YtnknjhdpjjddeaaGreatDoor.Q
open Go.RowKit Go.Proofs.YtnknjhdpjjddeaaGreatDoorW.PrintWords Go.Proofs.YtnknjhdpjjddeaaGreatDoorW.PrintLast Go.Proofs.YtnknjhdpjjddeaaGreatDoorW.PrintMore Gw
set_option linter.unusedVariables false
def cutFrom (l : List Nat) (n : Nat) : Nat := n + (cutDash (l.drop n)).1.length
abbrev V4 := ByteArray × ByteArray × ByteArray × List ByteArray × Bool
def zeroV : V4 := (⟨#[]⟩, ⟨#[]⟩, ⟨#[]⟩, [], false)
def SplitPost (v : V4) (w : World) (e : Ending) (w' : World) : Prop := ∃ u : Value, e = .returned (.tuple #[.agg #[.string v.1, .string v.2.1, .string v.2.2.1, u], .bool v.2.2.2.2]) ∧ Kd.R Kd.string 9 w' w.heap.size (fun _ => True) u v.2.2.2.1 ∧ Below w.heap.size w w'
theorem parts_any (s : ByteArray) (hs : Small s) (sep : Nat) (w : World) : Calls Tryz.prog 36 #[.string s, .int .u8 (sep : Int)] w fun e w' => ∃ v, e = .returned v ∧ Kd.R Kd.string 9 w' w.heap.size (fun _ => True) v ((parts sep (bs s)).map ofB) ∧ Below w.heap.size w w' :=
  graftwoodref01_Parts.calls (s.size + 1) s sep _ w (Parts_tot s hs sep _ (by omega))
theorem cutFrom_step {l : List Nat} {n c : Nat} {r : List Nat} (h : l.drop n = c :: r) : cutFrom l n = if c = 45 then n else cutFrom l (n + 1) := by
  have h2 : l.drop (n + 1) = r := by rw [← List.drop_drop, h]; rfl
  unfold cutFrom
  rw [h, h2]
  by_cases hc : c = 45
  · simp [cutDash, hc]
  · simp [cutDash, hc]; omega
theorem may_any (s : ByteArray) (hs : Small s) (w : World) : Calls Tryz.prog 51 #[.string s] w fun e w' => e = .returned (.bool (isNum (bs s))) ∧ Drawn0 w w' :=
  graftwoodref02_May.calls (s.size + 1) s _ w (ref2May_tot s hs _ (by omega))
theorem word_any (s : ByteArray) (hs : Small s) (w : World) : Calls Tryz.prog 52 #[.string s] w fun e w' => e = .returned (.bool (isWord (bs s))) ∧ Drawn0 w w' :=
  graftwoodref03_Word.calls (2 * s.size + 7) s _ w (Word_tot s hs _ (by omega))
theorem parts46 (s : ByteArray) (hs : Small s) (w : World) : Calls Tryz.prog 36 #[.string s, .int .u8 46] w fun e w' => ∃ v, e = .returned v ∧ Kd.R Kd.string 9 w' w.heap.size (fun _ => True) v ((parts 46 (bs s)).map ofB) ∧ Below w.heap.size w w' := parts_any s hs 46 w
theorem R_cells {w : World} {base : Nat} {ok : Nat → Prop} {v : Value} {xs : List ByteArray} (h : Kd.R Kd.string 9 w base ok v xs) (hp : 0 < xs.length) : ∃ g c, v = .slice (some ⟨g, 0, none⟩) xs.length c ∧ base ≤ g ∧ g < w.heap.size ∧ ∀ i (hi : i < xs.length), w.cell? ⟨g, i, none⟩ = some (.string (xs[i])) := by
  obtain ⟨g, cap, rfl, h1, h2, _⟩ := Kd.R_form h hp
  refine ⟨g, cap, rfl, h1, h2, fun i hi => ?_⟩
  obtain ⟨ad, he, hc⟩ := Kd.at_string (Kd.R_reads' h).2.2 (i : Int) (by omega) (by omega)
  injection he with he
  subst he
  rw [add_plain, Int.toNat_natCast] at hc
  rw [hc]
  simp [rdOf, List.getD_eq_getElem?_getD, List.getElem?_eq_getElem hi]
theorem two_blocks {w w1 : World} {A B : Array Value} {t u : TypeId} (hb : Below ((w.alloc (.cells A t)).alloc (.cells B u)).heap.size ((w.alloc (.cells A t)).alloc (.cells B u)) w1) :
    (∀ i, w1.cell? ⟨w.heap.size, i, none⟩ = A[i]?) ∧ (∀ i, w1.cell? ⟨w.heap.size + 1, i, none⟩ = B[i]?) ∧ (∀ i, w1.frozen? ⟨w.heap.size, i, none⟩ = false) ∧ (∀ i, w1.frozen? ⟨w.heap.size + 1, i, none⟩ = false) ∧ w.heap.size + 1 < w1.heap.size := by
  have h1 := (hb.block w.heap.size (by simp; omega)).trans (heap_alloc2_old w (.cells A t) (.cells B u))
  have h2 := (hb.block (w.heap.size + 1) (by simp)).trans (heap_alloc2_new w (.cells A t) (.cells B u))
  exact ⟨blk_cell h1, blk_cell h2, blk_frozen h1, blk_frozen h2, by have := hb.size; simp at this; omega⟩
def splitOf (s : ByteArray) (cut : Nat) : List ByteArray → V4
  | [a, b, c] => if isNum (bs a) && isNum (bs b) && isNum (bs c) then
      if cut = s.size then (a, b, c, [], true)
      else if (parts 46 ((bs s).drop (cut + 1))).all isWord then (a, b, c, (parts 46 ((bs s).drop (cut + 1))).map ofB, true) else zeroV
    else zeroV
  | _ => zeroV
def splitS (s : ByteArray) : V4 := splitOf s (cutFrom (bs s) 0) ((parts 46 (((bs s).take (cutFrom (bs s) 0)).drop 1)).map ofB)
set_option maxHeartbeats 2000000 in
theorem split_go (s : ByteArray) (hs : Small s) (h0 : 0 < s.size) (h1 : bt s 0 = 118) (cut : Nat) (hcut : cutFrom (bs s) 0 = cut) (hc1 : 1 ≤ cut) (hc2 : cut ≤ s.size) (v : V4) (hv : splitS s = v) (w : World) : Calls Tryz.prog 38 #[.string s] w (SplitPost v w) := by
  have hu49 := Tryz.underlying63
  have Hv := Aside0.mk hv
  clear hv
  have hd : ((s.size : Int) == 0) = false := beq_eq_false_iff_ne.2 (by omega)
  have hx9 : ∀ h : 0 < s.size, ((s[0]'h).toNat : Int) = 118 := fun h => by rw [← h1]; exact bt_at s 0 h
  have hq : decide (0 < s.size) = true := decide_eq_true h0
  have hsz : s.size ≤ 4398046511104 := hs
  have Hcut := Aside0.mk hcut
  clear h1 hcut
  go_enter Tryz.func38, Tryz.ntmps38
  go_wp2
  go_loop [5, 6] (fun v5 v6 => ∃ j : Int, -1 ≤ j ∧ j < s.size ∧ v5 = .int .i64 (cutFrom (bs s) (j + 1).toNat : Nat) ∧ v6 = .int .i64 j) (fun _ v6 => (intOf v6 + 1).toNat)
  case atStart =>
    have e : cutFrom (bs s) ((s.size : Int) - 1 + 1).toNat = s.size := by
      rw [show ((s.size : Int) - 1 + 1).toNat = s.size from by omega]
      unfold cutFrom
      rw [List.drop_eq_nil_of_le (by rw [bs_length]; omega)]
      rfl
    exact ⟨(s.size : Int) - 1, by omega, by omega, by rw [e], rfl⟩
  case round =>
    obtain ⟨j, hj1, hj2, rfl, rfl⟩ := hrel
    by_cases hj : 0 ≤ j
    · obtain ⟨m, rfl⟩ := Int.eq_ofNat_of_zero_le hj
      have hm : m < s.size := by omega
      have hdr : (bs s).drop m = (bs s)[m]'(by rw [bs_length]; exact hm) :: (bs s).drop (m + 1) := List.drop_eq_getElem_cons _
      have hst := cutFrom_step hdr
      have hbt := (bt_drop hdr).2.1
      obtain ⟨c, hc⟩ : ∃ c, c = (bs s)[m]'(by rw [bs_length]; exact hm) := ⟨_, rfl⟩
      rw [← hc] at hst hbt
      have hxm : ∀ h : m < s.size, ((s[m]'h).toNat : Int) = (c : Int) := fun h => by rw [← hbt]; exact bt_at s m h
      have Hst := Aside0.mk hst
      have hqm : decide (m < s.size) = true := decide_eq_true hm
      clear hc hst hbt hdr hj1 hj2
      have hj3 : (-1 : Int) ≤ (m : Int) - 1 := by omega
      by_cases h45 : c = 45
      · have hb : ((c : Int) == 45) = true := beq_iff_eq.2 (by omega)
        have H45 := Aside0.mk h45
        clear h45
        go_wp2
        go_round
        case rel => exact ⟨(m : Int) - 1, by omega, by omega, by rw [show ((m : Int) - 1 + 1).toNat = m from by omega, Hst.out, if_pos H45.out], rfl⟩
        case measure => simp [intOf]
      · have hb : ((c : Int) == 45) = false := beq_eq_false_iff_ne.2 (by omega)
        have H45 := Aside0.mk h45
        clear h45
        go_wp2
        go_round
        case rel => exact ⟨(m : Int) - 1, by omega, by omega, by rw [show ((m : Int) - 1 + 1).toNat = m from by omega, Hst.out, if_neg H45.out, show ((m : Int) + 1).toNat = m + 1 from by omega], rfl⟩
        case measure => simp [intOf]
    · obtain rfl : j = -1 := by omega
      rw [show ((-1 : Int) + 1).toNat = 0 from rfl, Hcut.out]
      clear hj1 hj2 hj
      have hc1' : (1 : Int) ≤ (cut : Int) := by omega
      have hc2' : (cut : Int) ≤ (s.size : Int) := by omega
      go_wp2_with fail
      refine (parts46 _ ?_ _).mono ?_
      · unfold Small; simp only [ByteArray.size_extract]; omega
      rintro e w1 ⟨u, rfl, hR, hb⟩
      rw [bs_extract] at hR
      obtain ⟨xs, hxs⟩ : ∃ xs, xs = (parts 46 (((bs s).take cut).drop 1)).map ofB := ⟨_, rfl⟩
      rw [← hxs] at hR
      have hsp : splitS s = splitOf s cut xs := by unfold splitS; rw [Hcut.out, ← hxs]
      rw [Hv.out] at hsp
      have hxl : ∀ x ∈ xs, Small x := fun x hx => by
        rw [hxs, ← bs_extract] at hx
        refine ((parts_small (s := s.extract 1 cut) ?_ 46).2 x hx).1
        unfold Small; simp only [ByteArray.size_extract]; omega
      clear hxs Hcut Hv
      obtain ⟨kc2, kc4, kf2, kf4, hz⟩ := two_blocks hb
      have hB : Below w.heap.size w w1 := ((((Below.refl _ _).alloc (Nat.le_refl _) _).alloc (by simp) _).trans (hb.mono (by simp; omega)))
      have HB := Aside0.mk hB
      clear hB hb
      by_cases h3 : xs.length = 3
      · obtain ⟨x0, x1, x2, rfl⟩ : ∃ a b c, xs = [a, b, c] := by
          match xs, h3 with
          | [a, b, c], _ => exact ⟨a, b, c, rfl⟩
        obtain ⟨g, cap, rfl, hg1, hg2, hcs⟩ := R_cells hR (by simp)
        have hcx0 : w1.cell? ⟨g, 0, none⟩ = some (.string x0) := hcs 0 (by simp)
        have hcx1 : w1.cell? ⟨g, 1, none⟩ = some (.string x1) := hcs 1 (by simp)
        have hcx2 : w1.cell? ⟨g, 2, none⟩ = some (.string x2) := hcs 2 (by simp)
        have hs0 : Small x0 := hxl x0 (by simp)
        have hs1 : Small x1 := hxl x1 (by simp)
        have hs2 : Small x2 := hxl x2 (by simp)
        simp only [splitOf] at hsp
        generalize hb0 : isNum (bs x0) = b0 at hsp
        generalize hb1 : isNum (bs x1) = b1 at hsp
        generalize hb2 : isNum (bs x2) = b2 at hsp
        have B0 := Aside0.mk hb0
        have B1 := Aside0.mk hb1
        have B2 := Aside0.mk hb2
        have Hsp := Aside0.mk hsp
        clear hsp h3 hxl hcs hb0 hb1 hb2
        go_wp2_with fail
        refine (may_any x0 hs0 _).mono ?_
        rintro e w2 ⟨rfl, ⟨n2, rfl⟩⟩
        rw [B0.out]
        cases b0
        · have hvz : v = zeroV := Hsp.out
          subst hvz
          go_wp2
          exact bodyPost_ret (v := .tuple #[.agg #[.string ⟨#[]⟩, .string ⟨#[]⟩, .string ⟨#[]⟩, .slice none 0 0], .bool false]) (by simp [results, Tryz.results38, go_sem, kc2]) rfl ⟨_, rfl, Kd.R_nil _ _ _ _ _, by repeat (with_reducible first | exact HB.out | refine below_set ?_ (by omega) | refine pw_below_drewN ?_ _ | refine below_drew ?_)⟩
        go_wp2_with fail
        refine (may_any x1 hs1 _).mono ?_
        rintro e w3 ⟨rfl, ⟨n3, rfl⟩⟩
        rw [B1.out]
        cases b1
        · have hvz : v = zeroV := Hsp.out
          subst hvz
          go_wp2
          exact bodyPost_ret (v := .tuple #[.agg #[.string ⟨#[]⟩, .string ⟨#[]⟩, .string ⟨#[]⟩, .slice none 0 0], .bool false]) (by simp [results, Tryz.results38, go_sem, kc2]) rfl ⟨_, rfl, Kd.R_nil _ _ _ _ _, by repeat (with_reducible first | exact HB.out | refine below_set ?_ (by omega) | refine pw_below_drewN ?_ _ | refine below_drew ?_)⟩
        go_wp2_with fail
        refine (may_any x2 hs2 _).mono ?_
        rintro e w4 ⟨rfl, ⟨n4, rfl⟩⟩
        rw [B2.out]
        cases b2
        · have hvz : v = zeroV := Hsp.out
          subst hvz
          go_wp2
          exact bodyPost_ret (v := .tuple #[.agg #[.string ⟨#[]⟩, .string ⟨#[]⟩, .string ⟨#[]⟩, .slice none 0 0], .bool false]) (by simp [results, Tryz.results38, go_sem, kc2]) rfl ⟨_, rfl, Kd.R_nil _ _ _ _ _, by repeat (with_reducible first | exact HB.out | refine below_set ?_ (by omega) | refine pw_below_drewN ?_ _ | refine below_drew ?_)⟩
        by_cases hcs : cut = s.size
        · have e77 : ((cut : Int) == (s.size : Int)) = true := beq_iff_eq.2 (by omega)
          have hvz : v = (x0, x1, x2, [], true) := Hsp.out.trans (if_pos hcs)
          subst hvz
          clear hcs
          go_wp2_with fail
          go_region
          go_wp2_with fail
          exact bodyPost_ret (v := .tuple #[.agg #[.string x0, .string x1, .string x2, .slice none 0 0], .bool true]) (by simp [results, Tryz.results38, go_sem, kc2]) rfl ⟨_, rfl, Kd.R_nil _ _ _ _ _, by repeat (with_reducible first | exact HB.out | refine below_set ?_ (by omega) | refine pw_below_drewN ?_ _ | refine below_drew ?_)⟩
        have e77 : ((cut : Int) == (s.size : Int)) = false := beq_eq_false_iff_ne.2 (by omega)
        have hv2 : v = if (parts 46 ((bs s).drop (cut + 1))).all isWord then (x0, x1, x2, (parts 46 ((bs s).drop (cut + 1))).map ofB, true) else zeroV := Hsp.out.trans (if_neg hcs)
        have HV2 := Aside0.mk hv2
        have hlt : (cut : Int) + 1 ≤ (s.size : Int) := by omega
        have hle : cut + 1 ≤ s.size := by omega
        clear hcs hv2 Hsp
        go_wp2_with fail
        go_region
        go_wp2_with fail
        refine (parts46 _ ?_ _).mono ?_
        · unfold Small; simp only [ByteArray.size_extract]; omega
        rintro e w5 ⟨u5, rfl, hR5, hb5⟩
        have e5 : bs (s.extract (cut + 1) s.size) = (bs s).drop (cut + 1) := by rw [bs_extract, List.take_of_length_le (by rw [bs_length]; omega)]
        rw [e5] at hR5
        have hss : ∀ x ∈ (parts 46 ((bs s).drop (cut + 1))).map ofB, Small x := fun x hx => by
          rw [← e5] at hx
          refine ((parts_small (s := s.extract (cut + 1) s.size) ?_ 46).2 x hx).1
          unfold Small; simp only [ByteArray.size_extract]; omega
        have hall : ((parts 46 ((bs s).drop (cut + 1))).map ofB).all (fun x => isWord (bs x)) = (parts 46 ((bs s).drop (cut + 1))).all isWord := by rw [← e5]; exact parts_all _ _ _
        obtain ⟨q, qs, hq2⟩ := parts_cons 46 ((bs s).drop (cut + 1))
        have hne : 0 < ((parts 46 ((bs s).drop (cut + 1))).map ofB).length := by rw [hq2]; simp
        have hyl : ((parts 46 ((bs s).drop (cut + 1))).map ofB).length ≤ 8796093022208 := by
          have := (parts_small (s := s.extract (cut + 1) s.size) (by unfold Small; simp only [ByteArray.size_extract]; omega) 46).1
          rw [← e5]; simp only [ByteArray.size_extract] at this; omega
        generalize (parts 46 ((bs s).drop (cut + 1))).map ofB = ys at hR5 hss hall HV2 hne hyl
        clear hq2 e5
        obtain ⟨g5, cap5, rfl, hg51, hg52, hc5⟩ := R_cells hR5 hne
        have hz5 : w.heap.size + 1 < w5.heap.size := by have := hb5.size; simp at this; omega
        have hg5 : w.heap.size + 1 < g5 := by simp at hg51; omega
        have m40 : w5.cell? ⟨w.heap.size + 1, 0, none⟩ = some (.string x0) := (hb5.cell (p := ⟨w.heap.size + 1, 0, none⟩) (by simp; omega)).trans (by simp [go_sem, kc4])
        have m41 : w5.cell? ⟨w.heap.size + 1, 1, none⟩ = some (.string x1) := (hb5.cell (p := ⟨w.heap.size + 1, 1, none⟩) (by simp; omega)).trans (by simp [go_sem, kc4])
        have m42 : w5.cell? ⟨w.heap.size + 1, 2, none⟩ = some (.string x2) := (hb5.cell (p := ⟨w.heap.size + 1, 2, none⟩) (by simp; omega)).trans (by simp [go_sem, kc4])
        have m43 : w5.cell? ⟨w.heap.size + 1, 3, none⟩ = some (.slice none 0 0) := (hb5.cell (p := ⟨w.heap.size + 1, 3, none⟩) (by simp; omega)).trans (by simp [go_sem, kc4])
        have m20 : w5.cell? ⟨w.heap.size, 0, none⟩ = some (.string ⟨#[]⟩) := (hb5.cell (p := ⟨w.heap.size, 0, none⟩) (by simp; omega)).trans (by simp [go_sem, kc2])
        have m21 : w5.cell? ⟨w.heap.size, 1, none⟩ = some (.string ⟨#[]⟩) := (hb5.cell (p := ⟨w.heap.size, 1, none⟩) (by simp; omega)).trans (by simp [go_sem, kc2])
        have m22 : w5.cell? ⟨w.heap.size, 2, none⟩ = some (.string ⟨#[]⟩) := (hb5.cell (p := ⟨w.heap.size, 2, none⟩) (by simp; omega)).trans (by simp [go_sem, kc2])
        have m23 : w5.cell? ⟨w.heap.size, 3, none⟩ = some (.slice none 0 0) := (hb5.cell (p := ⟨w.heap.size, 3, none⟩) (by simp; omega)).trans (by simp [go_sem, kc2])
        have f43 := (hb5.frozen (p := ⟨w.heap.size + 1, 3, none⟩) (by simp; omega)).trans (show _ = false by simp [kf4])
        have f20 := (hb5.frozen (p := ⟨w.heap.size, 0, none⟩) (by simp; omega)).trans (show _ = false by simp [kf2])
        have f21 := (hb5.frozen (p := ⟨w.heap.size, 1, none⟩) (by simp; omega)).trans (show _ = false by simp [kf2])
        have f22 := (hb5.frozen (p := ⟨w.heap.size, 2, none⟩) (by simp; omega)).trans (show _ = false by simp [kf2])
        have f23 := (hb5.frozen (p := ⟨w.heap.size, 3, none⟩) (by simp; omega)).trans (show _ = false by simp [kf2])
        have HB5 := Aside0.mk ((by repeat (with_reducible first | exact HB.out | refine below_set ?_ (by omega) | refine pw_below_drewN ?_ _ | refine below_drew ?_) : Below w.heap.size w _).trans (hb5.mono (by simp; omega)))
        have HR5 := Aside0.mk (Kd.R_lower hR5 (by simp; omega : w.heap.size ≤ _))
        clear hb5 hR5 hg51 kc2 kc4 kf2 kf4 HB hcx0 hcx1 hcx2 hz hg1 hg2
        have hyl2 : (ys.length : Int) ≤ 8796093022208 := by omega
        go_wp2_with fail
        generalize hw6 : w5.setCell ⟨w.heap.size + 1, 3, none⟩ (.slice (some ⟨g5, 0, none⟩) ys.length cap5) = w6
        have q43 : w6.cell? ⟨w.heap.size + 1, 3, none⟩ = some (.slice (some ⟨g5, 0, none⟩) ys.length cap5) := by rw [← hw6]; simp [go_sem, m43]
        have q40 : w6.cell? ⟨w.heap.size + 1, 0, none⟩ = some (.string x0) := by rw [← hw6]; simp [go_sem, m40]
        have q41 : w6.cell? ⟨w.heap.size + 1, 1, none⟩ = some (.string x1) := by rw [← hw6]; simp [go_sem, m41]
        have q42 : w6.cell? ⟨w.heap.size + 1, 2, none⟩ = some (.string x2) := by rw [← hw6]; simp [go_sem, m42]
        have q20 : w6.cell? ⟨w.heap.size, 0, none⟩ = some (.string ⟨#[]⟩) := by rw [← hw6]; simp [go_sem, m20]
        have q21 : w6.cell? ⟨w.heap.size, 1, none⟩ = some (.string ⟨#[]⟩) := by rw [← hw6]; simp [go_sem, m21]
        have q22 : w6.cell? ⟨w.heap.size, 2, none⟩ = some (.string ⟨#[]⟩) := by rw [← hw6]; simp [go_sem, m22]
        have q23 : w6.cell? ⟨w.heap.size, 3, none⟩ = some (.slice none 0 0) := by rw [← hw6]; simp [go_sem, m23]
        have g20 : w6.frozen? ⟨w.heap.size, 0, none⟩ = false := by rw [← hw6]; simp [go_sem, f20]
        have g21 : w6.frozen? ⟨w.heap.size, 1, none⟩ = false := by rw [← hw6]; simp [go_sem, f21]
        have g22 : w6.frozen? ⟨w.heap.size, 2, none⟩ = false := by rw [← hw6]; simp [go_sem, f22]
        have g23 : w6.frozen? ⟨w.heap.size, 3, none⟩ = false := by rw [← hw6]; simp [go_sem, f23]
        have hz6 : w.heap.size + 1 < w6.heap.size := by rw [← hw6]; simp; exact hz5
        have q5 : ∀ i (hi : i < ys.length), w6.cell? ⟨g5, i, none⟩ = some (.string (ys[i])) := fun i hi => by rw [← hw6, World.cell?_setCell_other _ _ _ _ (by first | (simp; done) | (simp; omega))]; exact hc5 i hi
        have HB6 : Aside0 (Below w.heap.size w w6) := ⟨by rw [← hw6]; exact below_set HB5.out (by omega)⟩
        have HR6 : Aside0 (Kd.R Kd.string 9 w6 w.heap.size (fun k => some k = (Value.slice (some ⟨g5, 0, none⟩) ys.length cap5).ownBlock) (.slice (some ⟨g5, 0, none⟩) ys.length cap5) ys) := ⟨by
          rw [← hw6]
          exact Kd.R_far (p := ⟨w.heap.size + 1, 3, none⟩) (Kd.R_tight rfl HR5.out) (fun k hk => by simp [Value.ownBlock] at hk; simp; omega) _⟩
        have Q5 := Aside0.mk q5
        clear q5 hw6 m40 m41 m42 m43 m20 m21 m22 m23 f43 f20 f21 f22 f23 HB5 HR5 hc5 hz5
        go_loopw [8] (fun v8 wr => ∃ i n : Nat, i ≤ ys.length ∧ v8 = .int .i64 (i : Int) ∧ wr = w6.drewN n ∧ Aside0 ((ys.take i).all (fun x => isWord (bs x)) = true)) (fun v8 _ => ys.length - (intOf v8).toNat)
        case atStart => exact ⟨0, 0, Nat.zero_le _, rfl, rfl, ⟨rfl⟩⟩
        case round =>
          obtain ⟨i, n, hi, rfl, rfl, hA⟩ := hrel
          by_cases hil : i < ys.length
          · have hce := Q5.out i hil
            have hsx := hss _ (List.getElem_mem hil)
            have hi0 : (i : Int) < (ys.length : Int) := by omega
            have hi1 : decide ((i : Int) < (ys.length : Int)) = true := decide_eq_true hi0
            have htk : ys.take (i + 1) = ys.take i ++ [ys[i]] := List.take_succ_eq_append_getElem hil
            have hmem : ys[i] ∈ ys := List.getElem_mem hil
            have Hmem := Aside0.mk hmem
            have Htk := Aside0.mk htk
            obtain ⟨y, hy⟩ : ∃ y, y = ys[i] := ⟨_, rfl⟩
            rw [← hy] at hce hsx Htk Hmem
            clear hmem htk hy
            go_wp2_with fail
            refine (word_any y hsx _).mono ?_
            rintro e w7 ⟨rfl, ⟨n7, rfl⟩⟩
            generalize hwy : isWord (bs y) = b7
            have Hwy := Aside0.mk hwy
            clear hwy
            cases b7
            · have hvz : v = zeroV := by
                have hno : ys.all (fun x => isWord (bs x)) = false := by
                  rw [List.all_eq_false]
                  exact ⟨y, Hmem.out, by rw [Hwy.out]; decide⟩
                have := HV2.out
                rw [← hall, hno] at this
                exact this
              subst hvz
              go_wp2
              exact bodyPost_ret (v := .tuple #[.agg #[.string ⟨#[]⟩, .string ⟨#[]⟩, .string ⟨#[]⟩, .slice none 0 0], .bool false]) (by simp [results, Tryz.results38, go_sem, q20, q21, q22, q23]) rfl ⟨_, rfl, Kd.R_nil _ _ _ _ _, by repeat (with_reducible first | exact HB6.out | refine below_set ?_ (by omega) | refine pw_below_drewN ?_ _ | refine below_drew ?_)⟩
            · go_wp2
              go_roundw
              case rel => exact ⟨i + 1, n + n7, by omega, by go_num, by simp, ⟨by rw [Htk.out, List.all_append, hA.out]; simp [Hwy.out]⟩⟩
              case measure => simp [intOf]; omega
          · obtain rfl : i = ys.length := by omega
            have hi1 : decide ((ys.length : Int) < (ys.length : Int)) = false := decide_eq_false (by omega)
            have hvz : v = (x0, x1, x2, ys, true) := by
              have h2 := hA.out
              rw [List.take_length] at h2
              have := HV2.out
              rw [← hall, h2] at this
              exact this
            subst hvz
            have hk : ∀ k, some k = (Value.slice (some ⟨g5, 0, none⟩) ys.length cap5).ownBlock → k ≠ w.heap.size := fun k hk => by simp [Value.ownBlock] at hk; omega
            have Hk := Aside0.mk hk
            clear hk
            go_wp2
            exact bodyPost_ret (v := .tuple #[.agg #[.string x0, .string x1, .string x2, .slice (some ⟨g5, 0, none⟩) ys.length cap5], .bool true]) (by simp [results, Tryz.results38, go_sem, q20, q21, q22, q23]) rfl ⟨_, rfl, Kd.R_mono (Kd.R_far (p := ⟨w.heap.size, 3, none⟩) (Kd.R_far (p := ⟨w.heap.size, 2, none⟩) (Kd.R_far (p := ⟨w.heap.size, 1, none⟩) (Kd.R_far (p := ⟨w.heap.size, 0, none⟩) (Kd.R_drewN HR6.out _) Hk.out _) Hk.out _) Hk.out _) Hk.out _) (fun _ _ => trivial), by repeat (with_reducible first | exact HB6.out | refine below_set ?_ (by omega) | refine pw_below_drewN ?_ _ | refine below_drew ?_)⟩
      · have hl3 : ((xs.length : Int) != 3) = true := bne_iff_ne.2 (by omega)
        have hvz : v = zeroV := by
          rw [hsp]
          match xs, h3 with
          | [], _ => rfl
          | [_], _ => rfl
          | [_, _], _ => rfl
          | [_, _, _], h => exact absurd rfl h
          | _ :: _ :: _ :: _ :: _, _ => rfl
        subst hvz
        obtain ⟨A, c, rfl⟩ := Kd.R_slice hR
        clear hsp h3 hxl hR
        go_wp2
        exact bodyPost_ret (v := .tuple #[.agg #[.string ⟨#[]⟩, .string ⟨#[]⟩, .string ⟨#[]⟩, .slice none 0 0], .bool false]) (by simp [results, Tryz.results38, go_sem, kc2]) rfl ⟨_, rfl, Kd.R_nil _ _ _ _ _, by repeat (with_reducible first | exact HB.out | refine below_set ?_ (by omega) | refine pw_below_drewN ?_ _ | refine below_drew ?_)⟩
set_option maxHeartbeats 1000000 in
theorem split_empty (s : ByteArray) (h0 : s.size = 0) (w : World) : Calls Tryz.prog 38 #[.string s] w (SplitPost zeroV w) := by
  have hu49 := Tryz.underlying63
  have hd : ((s.size : Int) == 0) = true := by rw [h0]; rfl
  have Hh := Aside0.mk h0
  clear h0
  go_enter Tryz.func38, Tryz.ntmps38
  go_wp2
  exact bodyPost_ret (v := .tuple #[.agg #[.string ⟨#[]⟩, .string ⟨#[]⟩, .string ⟨#[]⟩, .slice none 0 0], .bool false]) (by simp [results, Tryz.results38, go_sem]) rfl ⟨_, rfl, Kd.R_nil _ _ _ _ _, ((Below.refl _ _).alloc (Nat.le_refl _) _).alloc (by simp) _⟩
set_option maxHeartbeats 1000000 in
theorem split_other (s : ByteArray) (h0 : 0 < s.size) (c : Int) (hc : bt s 0 = c) (h1 : (c != 118) = true) (w : World) : Calls Tryz.prog 38 #[.string s] w (SplitPost zeroV w) := by
  have hu49 := Tryz.underlying63
  have hd : ((s.size : Int) == 0) = false := beq_eq_false_iff_ne.2 (by omega)
  have hx9 : ∀ h : 0 < s.size, ((s[0]'h).toNat : Int) = c := fun h => by rw [← hc]; exact bt_at s 0 h
  clear hc
  go_enter Tryz.func38, Tryz.ntmps38
  go_wp2
  exact bodyPost_ret (v := .tuple #[.agg #[.string ⟨#[]⟩, .string ⟨#[]⟩, .string ⟨#[]⟩, .slice none 0 0], .bool false]) (by simp [results, Tryz.results38, go_sem]) rfl ⟨_, rfl, Kd.R_nil _ _ _ _ _, ((Below.refl _ _).alloc (Nat.le_refl _) _).alloc (by simp) _⟩
def splitV (s : ByteArray) : V4 := if bs s = [] then zeroV else if (bs s).head? = some 118 then splitS s else zeroV
theorem cutFrom_le (l : List Nat) : cutFrom l 0 ≤ l.length := by
  unfold cutFrom
  simp only [Nat.zero_add, List.drop_zero]
  induction l with
  | nil => simp [cutDash]
  | cons c r ih =>
    by_cases hc : c = 45
    · simp [cutDash, hc]
    · simp [cutDash, hc]; exact ih
theorem Split_any (s : ByteArray) (hs : Small s) (w : World) : Calls Tryz.prog 38 #[.string s] w (SplitPost (splitV s) w) := by
  unfold splitV
  cases hb : bs s with
  | nil =>
    have h0 : s.size = 0 := by rw [← bs_length, hb]; rfl
    rw [if_pos rfl]
    exact split_empty s h0 w
  | cons c r =>
    have h0 : s.size = r.length + 1 := by rw [← bs_length, hb]; rfl
    have hd : (bs s).drop 0 = c :: r := by simpa using hb
    have hc := (bt_drop hd).2.1
    rw [show ((0 : Nat) : Int) = 0 from rfl] at hc
    rw [if_neg (by simp)]
    by_cases h : c = 118
    · subst h
      rw [if_pos (by simp)]
      refine split_go s hs (by omega) hc _ rfl ?_ ?_ _ rfl w
      · rw [cutFrom_step hd, if_neg (by decide)]; unfold cutFrom; omega
      · have := cutFrom_le (bs s); rw [bs_length] at this; exact this
    · rw [if_neg (by simp; exact h)]
      exact split_other s (by omega) c hc (by rw [bne_iff_ne]; omega) w
def graftwoodref03_Split.f (a0 : ByteArray) : Option V4 := if Small a0 then some (splitV a0) else none
theorem graftwoodref03_Split.calls (a0 : ByteArray) (r1 : ByteArray) (r2 : ByteArray) (r3 : ByteArray) (r4 : List ByteArray) (r5 : Bool) (w : World) (h : graftwoodref03_Split.f a0 = some (r1, r2, r3, r4, r5)) :
    Calls Tryz.prog 38 #[.string a0] w fun e w' => ∃ v3_ : Value, e = .returned (.tuple #[.agg #[.string r1, .string r2, .string r3, v3_], .bool r5]) ∧ Kd.R Kd.string 9 w' w.heap.size (fun _ => True) v3_ r4 ∧ Below w.heap.size w w' := by
  unfold graftwoodref03_Split.f at h
  by_cases hs : Small a0
  · rw [if_pos hs] at h
    have := Split_any a0 hs w
    rw [Option.some.inj h] at this
    exact this
  · rw [if_neg hs] at h
    cases h
end Go.Proofs.YtnknjhdpjjddeaaGreatDoor.Q
end

section
namespace Go.Proofs.YtnknjhdpjjddeaaGreatDoor.Q
open Go.RowKit Gw
set_option linter.unusedVariables false
theorem cutDash_split : ∀ r : List Nat, r = (cutDash r).1 ++ (match (cutDash r).2 with | none => [] | some p => 45 :: p)
  | [] => rfl
  | c :: r => by
    have ih := cutDash_split r
    by_cases h : c = 45
    · subst h; rfl
    · simp only [cutDash, if_neg h, List.cons_append]
      rw [← ih]
theorem cutFrom_v (r : List Nat) : cutFrom (118 :: r) 0 = (cutDash r).1.length + 1 := by simp [cutFrom, cutDash]
theorem take_v (r : List Nat) : ((118 :: r).take (cutFrom (118 :: r) 0)).drop 1 = (cutDash r).1 := by
  rw [cutFrom_v, List.take_succ_cons, List.drop_succ_cons, List.drop_zero]
  have h := cutDash_split r
  generalize (cutDash r).1 = x at *
  generalize (cutDash r).2 = y at *
  rw [h, List.take_left']
  rfl
theorem drop_v (r p : List Nat) (hp : (cutDash r).2 = some p) : (118 :: r).drop (cutFrom (118 :: r) 0 + 1) = p := by
  rw [cutFrom_v, List.drop_succ_cons]
  have h := cutDash_split r
  rw [hp] at h
  generalize (cutDash r).1 = x at *
  rw [h]
  simp
theorem cut_size (r : List Nat) : cutFrom (118 :: r) 0 = (118 :: r).length ↔ (cutDash r).2 = none := by
  rw [cutFrom_v, List.length_cons]
  have h := congrArg List.length (cutDash_split r)
  rw [List.length_append] at h
  cases hp : (cutDash r).2 with
  | none => rw [hp] at h; simp at h; simp; omega
  | some p => rw [hp] at h; simp at h; simp; omega
theorem splitOf_len (s : ByteArray) (cut : Nat) (l : List ByteArray) (h : l.length ≠ 3) : splitOf s cut l = zeroV := by
  match l, h with
  | [], _ => rfl
  | [_], _ => rfl
  | [_, _], _ => rfl
  | [_, _, _], h => exact absurd rfl h
  | _ :: _ :: _ :: _ :: _, _ => rfl
theorem splitV_ok (s : ByteArray) : (splitV s).2.2.2.2 = isVersion (bs s) := by
  unfold splitV
  cases hb : bs s with
  | nil => rfl
  | cons c r =>
    rw [if_neg (by simp)]
    by_cases h : c = 118
    · subst h
      rw [if_pos (by simp)]
      have hsz : s.size = (118 :: r).length := by rw [← bs_length, hb]
      unfold splitS
      rw [hb, take_v]
      simp only [isVersion, coreOk]
      by_cases h3 : (parts 46 (cutDash r).1).length = 3
      · obtain ⟨a, b, c, hp⟩ : ∃ a b c, parts 46 (cutDash r).1 = [a, b, c] := by
          match parts 46 (cutDash r).1, h3 with
          | [a, b, c], _ => exact ⟨a, b, c, rfl⟩
        have ho : ∀ p ∈ parts 46 (cutDash r).1, ∀ x ∈ p, x < 256 := by
          refine parts_oct (fun x hx => bs_oct s x ?_)
          rw [hb]
          refine List.mem_cons_of_mem _ ?_
          rw [cutDash_split r]
          exact List.mem_append_left _ hx
        rw [hp] at ho ⊢
        simp only [List.map_cons, List.map_nil, splitOf, bs_ofB (ho a (by simp)), bs_ofB (ho b (by simp)), bs_ofB (ho c (by simp))]
        simp only [List.length_cons, List.length_nil, List.all_cons, List.all_nil, Bool.and_true]
        by_cases hn : (isNum a && isNum b && isNum c) = true
        · rw [if_pos hn, hsz]
          rw [show (isNum a && (isNum b && isNum c)) = true from by rw [← Bool.and_assoc]; exact hn]
          by_cases hc : cutFrom (118 :: r) 0 = (118 :: r).length
          · rw [if_pos hc, (cut_size r).1 hc]; rfl
          · rw [if_neg hc]
            cases hp2 : (cutDash r).2 with
            | none => exact absurd ((cut_size r).2 hp2) hc
            | some p =>
              rw [hb, drop_v r p hp2]
              simp only [preOk]
              by_cases hw : (parts 46 p).all isWord = true
              · rw [if_pos hw, hw]; rfl
              · rw [if_neg hw, Bool.eq_false_iff.2 hw]; rfl
        · rw [if_neg hn, show (isNum a && (isNum b && isNum c)) = false from by rw [← Bool.and_assoc]; exact Bool.eq_false_iff.2 hn]; rfl
      · rw [splitOf_len _ _ _ (by rw [List.length_map]; exact h3), beq_eq_false_iff_ne.2 h3]; rfl
    · rw [if_neg (by simp; exact h)]
      unfold isVersion
      split
      · rename_i heq; exact absurd (List.cons.inj heq).1 h
      · rfl
end Go.Proofs.YtnknjhdpjjddeaaGreatDoor.Q
end

section
namespace Go.Proofs.YtnknjhdpjjddeaaGreatDoor.Q
open Go Go.RowKit Go.Lib Go.Proofs.YtnknjhdpjjddeaaGreatDoorW.PrintWords Go.Proofs.YtnknjhdpjjddeaaGreatDoorW.PrintLast Go.Proofs.YtnknjhdpjjddeaaGreatDoorW.PrintMore Gw
set_option linter.unusedVariables false
set_option linter.unusedSimpArgs false
theorem split_some (s : ByteArray) (p q r : List Nat) (l : List (List Nat)) (h : vparts (bs s) = some (p, q, r, l)) : splitV s = (ofB p, ofB q, ofB r, l.map ofB, true) := by
  have hv : isVersion (bs s) = true := by rw [← vparts_some, h]; rfl
  unfold splitV
  cases hb : bs s with
  | nil => rw [hb] at h; cases h
  | cons c t =>
    rw [if_neg (by simp)]
    by_cases hc : c = 118
    · subst hc
      rw [if_pos (by simp)]
      have hsz : s.size = (118 :: t).length := by rw [← bs_length, hb]
      unfold splitS
      rw [hb, take_v]
      rw [hb] at h
      have h' : vcore (cutDash t).1 (cutDash t).2 = some (p, q, r, l) := h
      unfold vcore at h'
      split at h'
      · rename_i a b c hp
        split at h'
        · rename_i hn
          have ho : ∀ p ∈ parts 46 (cutDash t).1, ∀ x ∈ p, x < 256 := by
            refine parts_oct (fun x hx => bs_oct s x ?_)
            rw [hb]
            refine List.mem_cons_of_mem _ ?_
            rw [cutDash_split t]
            exact List.mem_append_left _ hx
          rw [hp] at ho ⊢
          simp only [List.map_cons, List.map_nil, splitOf, bs_ofB (ho a (by simp)), bs_ofB (ho b (by simp)), bs_ofB (ho c (by simp))]
          rw [if_pos hn, hsz]
          unfold vpre at h'
          split at h'
          · rename_i hc
            rw [if_pos ((cut_size t).2 hc)]
            injection h' with h'
            simp only [Prod.mk.injEq] at h'
            obtain ⟨rfl, rfl, rfl, rfl⟩ := h'
            rfl
          · rename_i pp hc
            rw [if_neg (fun e => by rw [(cut_size t).1 e] at hc; cases hc), hb, drop_v t pp hc]
            split at h'
            · rename_i hw
              injection h' with h'
              simp only [Prod.mk.injEq] at h'
              obtain ⟨rfl, rfl, rfl, rfl⟩ := h'
              rw [if_pos hw]
            · cases h'
        · cases h'
      · cases h'
    · rw [hb] at hv
      unfold isVersion at hv
      split at hv <;> simp_all
theorem rcmp1_l0 (a b : ByteArray) (ha : Small a) (hb : Small b) : ∀ (n i k : Nat), a.size ≤ i + n → i ≤ a.size → i ≤ b.size → 2 * n + 2 ≤ k →
    graftwoodref01_Cmp.l0 k a b (i : Int) = some (lexC ((bs a).drop i) ((bs b).drop i)) := by
  intro n
  induction n with
  | zero =>
    intro i k h1 h2 h3 hk
    obtain ⟨j, rfl⟩ : ∃ j, k = j + 2 := ⟨k - 2, by omega⟩
    have e : i = a.size := by omega
    subst e
    rw [List.drop_eq_nil_of_le (by rw [bs_length]; exact Nat.le_refl _)]
    simp only [graftwoodref01_Cmp.l0, graftwoodref01_Cmp.j1]
    rw [if_neg (by omega)]
    simp only [Bool.false_eq_true, if_false]
    by_cases h : a.size < b.size
    · rw [if_pos (by omega), List.drop_eq_getElem_cons (by rw [bs_length]; exact h)]
      rfl
    · rw [if_neg (by omega), if_neg (by omega), List.drop_eq_nil_of_le (by rw [bs_length]; omega)]
      rfl
  | succ n ih =>
    intro i k h1 h2 h3 hk
    obtain ⟨j, rfl⟩ : ∃ j, k = j + 2 := ⟨k - 2, by omega⟩
    by_cases h : i < a.size
    · by_cases h' : i < b.size
      · have d1 : (bs a).drop i = (bs a)[i]'(by rw [bs_length]; exact h) :: (bs a).drop (i + 1) := List.drop_eq_getElem_cons _
        have d2 : (bs b).drop i = (bs b)[i]'(by rw [bs_length]; exact h') :: (bs b).drop (i + 1) := List.drop_eq_getElem_cons _
        have t1 := (bt_drop d1).2.1
        have t2 := (bt_drop d2).2.1
        rw [d1, d2]
        simp only [graftwoodref01_Cmp.l0, graftwoodref01_Cmp.j1]
        rw [if_pos (by omega), decide_eq_true (show (i : Int) < (b.size : Int) by omega), if_pos rfl, if_pos (by omega), if_pos (by omega), if_pos (by omega), t1, t2]
        generalize (bs a)[i]'(by rw [bs_length]; exact h) = x
        generalize (bs b)[i]'(by rw [bs_length]; exact h') = y
        simp only [lexC]
        by_cases c1 : x < y
        · rw [if_pos (by omega), if_pos c1]
        · rw [if_neg (by omega), if_neg c1]
          by_cases c2 : y < x
          · rw [if_pos (by omega), if_pos c2]
          · rw [if_neg (by omega), if_neg c2, show wrap64 ((i : Int) + 1) = ((i + 1 : Nat) : Int) by unfold wrap64; unfold Small at ha; omega]
            exact ih (i + 1) j (by omega) (by omega) (by omega) (by omega)
      · simp only [graftwoodref01_Cmp.l0, graftwoodref01_Cmp.j1]
        rw [if_pos (by omega), decide_eq_false (show ¬ (i : Int) < (b.size : Int) by omega), List.drop_eq_getElem_cons (show i < (bs a).length by rw [bs_length]; exact h), List.drop_eq_nil_of_le (show (bs b).length ≤ i by rw [bs_length]; omega)]
        simp only [Bool.false_eq_true, if_false]
        rw [if_neg (by omega), if_pos (by omega)]
        rfl
    · exact ih i (j + 2) (by omega) h2 h3 (by omega)
theorem rcmp1_val (a b : ByteArray) (ha : Small a) (hb : Small b) (k : Nat) (hk : 2 * a.size + 2 ≤ k) : graftwoodref01_Cmp.f k a b = some (lexC (bs a) (bs b)) := by
  have h := rcmp1_l0 a b ha hb a.size 0 k (by omega) (Nat.zero_le _) (Nat.zero_le _) hk
  exact h
/-- The digit of a place from the lowest one on. -/
def atI (l : List Nat) (i : Nat) : Int := if i ≥ l.length then 0 else ((l.getD (l.length - 1 - i) 48 : Nat) : Int) - 48
theorem at_val (s : ByteArray) (hs : Small s) (hd : (bs s).all dig = true) (i : Nat) (hi : i ≤ 4398046511104) : graftwoodref02_at.f s (i : Int) = some (atI (bs s) i) := by
  unfold graftwoodref02_at.f atI
  rw [bs_length]
  by_cases h : i ≥ s.size
  · rw [if_pos (by omega), if_pos h]
  · have hw : wrap64 (wrap64 ((s.size : Int) - 1) - (i : Int)) = ((s.size - 1 - i : Nat) : Int) := by unfold wrap64; unfold Small at hs; omega
    have hl : s.size - 1 - i < (bs s).length := by rw [bs_length]; omega
    have hb : bt s ((s.size - 1 - i : Nat) : Int) = (((bs s)[s.size - 1 - i]'hl : Nat) : Int) := bt_at_get s _ (by omega)
    have hmem : (bs s)[s.size - 1 - i]'hl ∈ bs s := List.getElem_mem _
    have hdg := List.all_eq_true.1 hd _ hmem
    rw [if_neg (by omega), if_neg h, hw, if_pos (by omega), if_pos (by omega), hb, digit_tot _ (bs_oct s _ hmem), if_pos hdg]
    simp [List.getD_eq_getElem?_getD, List.getElem?_eq_getElem hl]
theorem rnum_l0 (a b : ByteArray) (ha : Small a) (hb : Small b) (da : (bs a).all dig = true) (db : (bs b).all dig = true) (hl : a.size = b.size) : ∀ (n k : Nat), n ≤ a.size → n + 1 ≤ k →
    graftwoodref02_Cmp.l0 k a b ((n : Int) - 1) = some (lexC ((bs a).drop (a.size - n)) ((bs b).drop (a.size - n))) := by
  intro n
  induction n with
  | zero =>
    intro k h1 hk
    obtain ⟨j, rfl⟩ : ∃ j, k = j + 1 := ⟨k - 1, by omega⟩
    rw [List.drop_eq_nil_of_le (by rw [bs_length]; omega), List.drop_eq_nil_of_le (by rw [bs_length]; omega)]
    simp [graftwoodref02_Cmp.l0, lexC]
  | succ n ih =>
    intro k h1 hk
    obtain ⟨j, rfl⟩ : ∃ j, k = j + 1 := ⟨k - 1, by omega⟩
    have e : ((n + 1 : Nat) : Int) - 1 = (n : Int) := by omega
    have la : a.size - (n + 1) < (bs a).length := by rw [bs_length]; omega
    have lb : a.size - (n + 1) < (bs b).length := by rw [bs_length]; omega
    have va := at_val a ha da n (by unfold Small at ha; omega)
    have vb := at_val b hb db n (by unfold Small at ha; omega)
    have xa : atI (bs a) n = (((bs a)[a.size - (n + 1)]'la : Nat) : Int) - 48 := by
      unfold atI
      rw [bs_length, if_neg (by omega), show a.size - 1 - n = a.size - (n + 1) by omega]
      simp [List.getD_eq_getElem?_getD, List.getElem?_eq_getElem la]
    have xb : atI (bs b) n = (((bs b)[a.size - (n + 1)]'lb : Nat) : Int) - 48 := by
      unfold atI
      rw [bs_length, if_neg (by omega), show b.size - 1 - n = a.size - (n + 1) by omega]
      simp [List.getD_eq_getElem?_getD, List.getElem?_eq_getElem lb]
    rw [e, List.drop_eq_getElem_cons la, List.drop_eq_getElem_cons lb, show a.size - (n + 1) + 1 = a.size - n by omega]
    simp only [graftwoodref02_Cmp.l0]
    rw [if_pos (by omega), va, vb]
    simp only [Option.bind_some]
    rw [xa, xb]
    have ih' := ih j (by omega) (by omega)
    rw [show wrap64 ((n : Int) - 1) = (n : Int) - 1 by unfold wrap64; unfold Small at ha; omega, ih']
    generalize (bs a)[a.size - (n + 1)]'la = x
    generalize (bs b)[a.size - (n + 1)]'lb = y
    simp only [lexC]
    by_cases c1 : x < y
    · rw [if_pos (by omega), if_pos c1]
    · rw [if_neg (by omega), if_neg c1]
      by_cases c2 : y < x
      · rw [if_pos (by omega), if_pos c2]
      · rw [if_neg (by omega), if_neg c2]
theorem lead_digit {s : List Nat} (h : isNum s = true) (hl : 2 ≤ s.length) : 49 ≤ s.getD 0 48 := by
  match s, hl with
  | c :: d :: r, _ =>
    unfold isNum at h
    simp only [List.all_cons, List.isEmpty_cons, Bool.false_or, Bool.and_eq_true, bne_iff_ne] at h
    have := h.1.1
    simp only [dig, Bool.and_eq_true, decide_eq_true_eq] at this
    have h2 := h.2
    simp
    omega
theorem num_dig {s : List Nat} (h : isNum s = true) : s.all dig = true := by
  unfold isNum at h
  rw [Bool.and_eq_true] at h
  exact h.1
theorem num_ne {s : List Nat} (h : isNum s = true) : 1 ≤ s.length := by
  cases s with
  | nil => simp [isNum] at h
  | cons => simp
theorem rnum_val (a b : ByteArray) (ha : Small a) (hb : Small b) (na : isNum (bs a) = true) (nb : isNum (bs b) = true) (k : Nat) (hk : a.size + b.size + 2 ≤ k) : graftwoodref02_Cmp.f k a b = some (numC (bs a) (bs b)) := by
  have la := num_ne na
  have lb := num_ne nb
  rw [bs_length] at la lb
  unfold graftwoodref02_Cmp.f numC
  rw [bs_length, bs_length]
  have hsa : a.size ≤ 4398046511104 := ha
  have hsb : b.size ≤ 4398046511104 := hb
  rcases Nat.lt_trichotomy a.size b.size with h | h | h
  · have e : wrap64 (mx (a.size : Int) (b.size : Int) - 1) = ((b.size - 1 : Nat) : Int) := by unfold wrap64 mx; (repeat' split) <;> omega
    rw [e]
    obtain ⟨j, rfl⟩ : ∃ j, k = j + 1 := ⟨k - 1, by omega⟩
    simp only [graftwoodref02_Cmp.l0]
    rw [if_pos (by omega), at_val a ha (num_dig na) _ (by omega), at_val b hb (num_dig nb) _ (by omega)]
    simp only [Option.bind_some]
    have x1 : atI (bs a) (b.size - 1) = 0 := by unfold atI; rw [bs_length, if_pos (by omega)]
    have x2 : 1 ≤ atI (bs b) (b.size - 1) := by
      have := lead_digit nb (by rw [bs_length]; omega)
      unfold atI
      rw [bs_length, if_neg (by omega), show b.size - 1 - (b.size - 1) = 0 by omega]
      omega
    rw [x1, if_pos (by omega)]
    simp [cmpN, h, orI]
  · have e : wrap64 (mx (a.size : Int) (b.size : Int) - 1) = (a.size : Int) - 1 := by unfold wrap64 mx; (repeat' split) <;> omega
    rw [e, rnum_l0 a b ha hb (num_dig na) (num_dig nb) h a.size k (Nat.le_refl _) (by omega), Nat.sub_self]
    simp [cmpN, h, orI]
  · have e : wrap64 (mx (a.size : Int) (b.size : Int) - 1) = ((a.size - 1 : Nat) : Int) := by unfold wrap64 mx; (repeat' split) <;> omega
    rw [e]
    obtain ⟨j, rfl⟩ : ∃ j, k = j + 1 := ⟨k - 1, by omega⟩
    simp only [graftwoodref02_Cmp.l0]
    rw [if_pos (by omega), at_val a ha (num_dig na) _ (by omega), at_val b hb (num_dig nb) _ (by omega)]
    simp only [Option.bind_some]
    have x1 : atI (bs b) (a.size - 1) = 0 := by unfold atI; rw [bs_length, if_pos (by omega)]
    have x2 : 1 ≤ atI (bs a) (a.size - 1) := by
      have := lead_digit na (by rw [bs_length]; omega)
      unfold atI
      rw [bs_length, if_neg (by omega), show a.size - 1 - (a.size - 1) = 0 by omega]
      omega
    rw [x1, if_neg (by omega), if_pos (by omega)]
    have h3 : ¬ a.size < b.size := by omega
    simp [cmpN, h, h3, orI]
theorem rwords_val (a b : ByteArray) (ha : Small a) (hb : Small b) (k : Nat) (hk : 2 * a.size + b.size + 4 ≤ k) : graftwoodref03_words.f k a b = some (wordC (bs a) (bs b)) := by
  obtain ⟨j, rfl⟩ : ∃ j, k = j + 1 := ⟨k - 1, by omega⟩
  unfold graftwoodref03_words.f
  rw [ref2May_tot a ha _ (by omega), ref2May_tot b hb _ (by omega)]
  cases na : isNum (bs a) <;> cases nb : isNum (bs b)
  · simp [graftwoodref03_words.j0, wordC, na, nb, rcmp1_val a b ha hb j (by omega)]
  · simp [graftwoodref03_words.j0, wordC, na, nb]
  · simp [graftwoodref03_words.j0, wordC, na, nb]
  · simp [graftwoodref03_words.j0, wordC, na, nb, rnum_val a b ha hb na nb j (by omega)]
end Go.Proofs.YtnknjhdpjjddeaaGreatDoor.Q
end
