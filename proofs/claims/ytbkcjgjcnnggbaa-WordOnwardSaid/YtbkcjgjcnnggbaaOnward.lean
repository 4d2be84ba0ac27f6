/- WordOnward, the law itself: its printed function and contract, with the facts on sums of sizes in the spelling that the walk uses. Conditions: those of the row. Written by my program out of the kit's print, mended by fixon.py. -/
import Derived.Test.YtbkcjgjcnnggbaaQ0
import Derived.Test.YtbkcjgjcnnggbaaQ1
import Derived.Test.YtbkcjgjcnnggbaaQ5
import Derived.Test.YtbkcjgjcnnggbaaExt2
namespace Go.Proofs.Ytbkcjgjcnnggbaa.Q
open Go.RowKit Go.Proofs.YtbkcjgjcnnggbaaW.PrintWords Go.Proofs.YtbkcjgjcnnggbaaW.PrintLast Go.Proofs.YtbkcjgjcnnggbaaW.PrintMore
attribute [local go_sem] max2_int min2_int max_two min_two max_three min_three max_four min_four   -- for this text's walks alone
set_option linter.unusedVariables false
set_option linter.unusedSimpArgs false

/-! ### graftwoodlaw06_WordOnward: function 8 -/
def graftwoodlaw06_WordOnward.l0 : Nat → ByteArray → Int → Int → Int → Int → Option (Bool)
  | 0, _, _, _, _, _ => none
  | k + 1, x1, x2, x7, x8, x9 => if x9 < (x1.size : Int) then (if 0 ≤ x9 then ((word_Step.f k x7 x8 (bt x1 x9)).bind fun bt216 => (if bt216.2 = true then (graftwoodlaw06_WordOnward.l0 k x1 x2 x7 bt216.1 (wrap64 (x9 + 1))) else (some false))) else (none)) else ((word_Step.f k x7 x8 x2).bind fun bt218 => ((some (([x2] : List Int) : List Int)).bind fun y220 => (if x1.size + (strOfNums y220).size ≤ 9223372036854775807 then ((word_Live.f k x7 (x1 ++ (strOfNums y220))).bind fun t223 => (if (bt218.2 != (t223 == ((x1 ++ (strOfNums y220)).size : Int))) = true then (some false) else (if bt218.2 = true then ((word_Rest.f x7 bt218.1).bind fun t224 => (if (x1 ++ (strOfNums y220)).size + t224.size ≤ 9223372036854775807 then ((word_Whole.f k x7 ((x1 ++ (strOfNums y220)) ++ t224)).bind fun t225 => (if t225 = true then ((word_Ends.f x7 bt218.1).bind fun t226 => ((word_Whole.f k x7 (x1 ++ (strOfNums y220))).bind fun t227 => (if (t226 == t227) = true then ((word_Rest.f x7 x8).bind fun t228 => (if x1.size + t228.size ≤ 9223372036854775807 then ((word_Whole.f k x7 (x1 ++ t228)).bind fun t229 => (if t229 = true then ((graftwoodlaw06_awake.f k).bind fun t230 => (some t230)) else (some false))) else (none))) else (some false)))) else (some false))) else (none))) else ((word_Rest.f x7 x8).bind fun t231 => (if x1.size + t231.size ≤ 9223372036854775807 then ((word_Whole.f k x7 (x1 ++ t231)).bind fun t232 => (if t232 = true then ((graftwoodlaw06_awake.f k).bind fun t233 => (some t233)) else (some false))) else (none)))))) else (none))))
def graftwoodlaw06_WordOnward.f (k : Nat) (a0 : Int) (a1 : ByteArray) (a2 : Int) : Option (Bool) := (graftwoodlaw06_Few.f a1).bind fun t213 => ((word_Live.f k (wrap64 (Int.tmod a0 3)) t213).bind fun t214 => (if t214 = (t213.size : Int) then (graftwoodlaw06_WordOnward.l0 k t213 a2 (wrap64 (Int.tmod a0 3)) 0 0) else ((graftwoodlaw06_awake.f k).bind fun t215 => (some t215))))
theorem graftwoodlaw06_WordOnward.mono_l : ∀ k, (∀ y0 y1 y2 y3 y4, LeO (graftwoodlaw06_WordOnward.l0 k y0 y1 y2 y3 y4) (graftwoodlaw06_WordOnward.l0 (k + 1) y0 y1 y2 y3 y4))
  | 0 => fun _ _ _ _ _ r h => by simp [graftwoodlaw06_WordOnward.l0] at h
  | k + 1 => by
    have ih0 := graftwoodlaw06_WordOnward.mono_l k
    · intro y0 y1 y2 y3 y4
      unfold graftwoodlaw06_WordOnward.l0
      repeat' first
      | (with_reducible exact ih0 _ _ _ _ _)
      | (with_reducible exact graftwoodlaw06_awake.mono _)
      | (with_reducible exact word_Live.mono _ _ _)
      | (with_reducible exact word_Step.mono _ _ _ _)
      | (with_reducible exact word_Whole.mono _ _ _)
      | (with_reducible exact LeO.refl _)
      | (with_reducible exact LeO.none _)
      | (with_reducible refine LeO.ite ?_ ?_)
      | (with_reducible refine LeO.bind ?_ (fun _ => ?_))
      | exact ih0 _ _ _ _ _
      | exact graftwoodlaw06_awake.mono _
      | exact word_Live.mono _ _ _
      | exact word_Step.mono _ _ _ _
      | exact word_Whole.mono _ _ _
      | exact LeO.none _
      | refine LeO.ite ?_ ?_
      | refine LeO.bind ?_ (fun _ => ?_)
theorem graftwoodlaw06_WordOnward.mono : ∀ a0 a1 a2 k, LeO (graftwoodlaw06_WordOnward.f k a0 a1 a2) (graftwoodlaw06_WordOnward.f (k + 1) a0 a1 a2) := by
  intro a0 a1 a2 k
  have ih0 := graftwoodlaw06_WordOnward.mono_l k
  unfold graftwoodlaw06_WordOnward.f
  repeat' first
      | (with_reducible exact ih0 _ _ _ _ _)
      | (with_reducible exact graftwoodlaw06_awake.mono _)
      | (with_reducible exact word_Live.mono _ _ _)
      | (with_reducible exact word_Step.mono _ _ _ _)
      | (with_reducible exact word_Whole.mono _ _ _)
      | (with_reducible exact LeO.refl _)
      | (with_reducible exact LeO.none _)
      | (with_reducible refine LeO.ite ?_ ?_)
      | (with_reducible refine LeO.bind ?_ (fun _ => ?_))
      | exact ih0 _ _ _ _ _
      | exact graftwoodlaw06_awake.mono _
      | exact word_Live.mono _ _ _
      | exact word_Step.mono _ _ _ _
      | exact word_Whole.mono _ _ _
      | exact LeO.none _
      | refine LeO.ite ?_ ?_
      | refine LeO.bind ?_ (fun _ => ?_)
set_option maxHeartbeats 8000000 in
set_option maxRecDepth 100000 in
theorem graftwoodlaw06_WordOnward.calls (k : Nat) (a0 : Int) (a1 : ByteArray) (a2 : Int) (r : Bool) (w : World) (h : graftwoodlaw06_WordOnward.f k a0 a1 a2 = some r) :
    Calls Try.prog 8 #[.int .u8 a0, .string a1, .int .u8 a2] w fun e w' => e = .returned (.bool r) ∧ Below w.heap.size w w' := by
  have HB := Aside0.mk (Below.refl w.heap.size w)
  have H : ((graftwoodlaw06_Few.f a1).bind fun t213 => ((word_Live.f k (wrap64 (Int.tmod a0 3)) t213).bind fun t214 => (if t214 = (t213.size : Int) then (graftwoodlaw06_WordOnward.l0 k t213 a2 (wrap64 (Int.tmod a0 3)) 0 0) else ((graftwoodlaw06_awake.f k).bind fun t215 => (some t215))))) = some r := h
  clear h
  replace H := Option.bind_eq_some_iff.mp H
  obtain ⟨t213, A40, H⟩ := H
  replace H : ((word_Live.f k (wrap64 (Int.tmod a0 3)) t213).bind fun t214 => (if t214 = (t213.size : Int) then (graftwoodlaw06_WordOnward.l0 k t213 a2 (wrap64 (Int.tmod a0 3)) 0 0) else ((graftwoodlaw06_awake.f k).bind fun t215 => (some t215)))) = some r := H
  have A4 := Aside0.mk A40
  clear A40
  replace H := Option.bind_eq_some_iff.mp H
  obtain ⟨t214, A50, H⟩ := H
  replace H : (if t214 = (t213.size : Int) then (graftwoodlaw06_WordOnward.l0 k t213 a2 (wrap64 (Int.tmod a0 3)) 0 0) else ((graftwoodlaw06_awake.f k).bind fun t215 => (some t215))) = some r := H
  have A5 := Aside0.mk A50
  clear A50
  by_cases c6 : t214 = (t213.size : Int)
  · rw [if_pos c6] at H
    have c6b0 : (t214 == (t213.size : Int)) = true := beq_iff_eq.mpr c6
    have c6b1 : (t214 != (t213.size : Int)) = false := bne_eq_false_iff_eq.mpr c6
    clear c6
    have H' := Aside0.mk H
    clear H
    go_enter Try.func8, Try.ntmps8
    go_wp2_with (first | ((with_reducible refine gate_callee (f := 9) rfl ?_); refine goesL_ (some 16) rfl rfl Try.func9 (by kernel_rfl) rfl #[.string a1] rfl (by (try simp only [List.map_toArray, List.map_cons, List.map_nil]); first | done | rfl | (simp only [List.length_drop, List.length_take]; rfl)) ?_; (with_reducible refine (graftwoodlaw06_Few.calls a1 t213 _ A4.out).mono ?_); rintro e w' ⟨rfl, ⟨nd, rfl⟩⟩; refine ⟨_, rfl, ?_⟩) | ((with_reducible refine gate_callee (f := 10) rfl ?_); refine goesL_ (some 22) rfl rfl Try.func10 (by kernel_rfl) rfl #[.int .i64 (wrap64 (Int.tmod a0 3)), .string t213] rfl (by (try simp only [List.map_toArray, List.map_cons, List.map_nil]); first | done | rfl | (simp only [List.length_drop, List.length_take]; rfl)) ?_; (with_reducible refine (word_Live.calls k (wrap64 (Int.tmod a0 3)) t213 t214 _ A5.out).mono ?_); rintro e w7 ⟨rfl, hb⟩; refine ⟨_, rfl, ?_⟩; have n0_ := Aside0.mk (below_step (by repeat (first | (with_reducible first | exact HB.out | apply below_alloc | apply pw_below_drewN | apply below_drew1) | exact HB.out)) hb); clear HB; have HB := n0_; clear n0_; (try clear hb); (try clear hb2); (try clear hk); (try clear hi)))
    go_loopg [8, 9] k (fun kq v8 v9 w' => ∃ (x8_1 : Int) (x9_1 : Int), v8 = .int .i64 x8_1 ∧ v9 = .int .i64 x9_1 ∧ Aside0 (graftwoodlaw06_WordOnward.l0 kq t213 a2 (wrap64 (Int.tmod a0 3)) x8_1 x9_1 = some r) ∧ Aside0 (kq ≤ k) ∧ Aside0 (Below w.heap.size w w'))
    case atStart => exact ⟨(0), (0), (by first | rfl | (simp; done) | (simp [*]; done)), (by first | rfl | (simp; done) | (simp [*]; done)), H', ⟨Nat.le_refl _⟩, ⟨by repeat (first | (with_reducible first | exact HB.out | apply below_alloc | apply pw_below_drewN | apply below_drew1) | exact HB.out)⟩⟩
    case round =>
      clear H'
      try clear c1
      try clear p2
      try clear c6
      try clear c6b0
      try clear c6b1
      try clear p6
      obtain ⟨x8_1, x9_1, rfl, rfl, HA, HK1, HB⟩ := hrel
      cases gk with
      | zero => exact absurd HA.out (by simp [graftwoodlaw06_WordOnward.l0])
      | succ k1 =>
        have H := HA.out
        clear HA
        simp only [graftwoodlaw06_WordOnward.l0] at H
        by_cases c8 : x9_1 < (t213.size : Int)
        · rw [if_pos c8] at H
          have c8b0 : decide (x9_1 < (t213.size : Int)) = true := decide_eq_true c8
          clear c8
          by_cases c9 : 0 ≤ x9_1
          · rw [if_pos c9] at H
            have c9b0 : decide (0 ≤ x9_1) = true := decide_eq_true c9
            clear c9
            replace H := Option.bind_eq_some_iff.mp H
            obtain ⟨⟨t216, t217⟩, A110, H⟩ := H
            replace H : (if t217 = true then (graftwoodlaw06_WordOnward.l0 k1 t213 a2 (wrap64 (Int.tmod a0 3)) t216 (wrap64 (x9_1 + 1))) else (some false)) = some r := H
            have A11 := Aside0.mk A110
            clear A110
            by_cases c12 : t217 = true
            · subst c12
              have H1 : (graftwoodlaw06_WordOnward.l0 k1 t213 a2 (wrap64 (Int.tmod a0 3)) t216 (wrap64 (x9_1 + 1))) = some r := by rw [if_pos rfl] at H; exact H
              clear H
              have H := H1
              clear H1
              have H' := Aside0.mk H
              clear H
              have p10 : 0 ≤ (x9_1 : Int) := of_decide_eq_true (by first | (with_reducible assumption) | assumption)
              have q10 : x9_1 < (t213.size : Int) := of_decide_eq_true (by first | (with_reducible assumption) | assumption)
              have hx10 := bt_at t213 x9_1
              replace p10 := eq_true p10
              replace q10 := eq_true q10
              go_wp2_with (first | ((with_reducible refine gate_callee (f := 17) rfl ?_); refine goesL_ (some 39) rfl rfl Try.func17 (by kernel_rfl) rfl #[.int .i64 (wrap64 (Int.tmod a0 3)), .int .i64 x8_1, .int .u8 (bt t213 x9_1)] rfl (by (try simp only [List.map_toArray, List.map_cons, List.map_nil]); first | done | rfl | (simp only [List.length_drop, List.length_take]; rfl)) ?_; (with_reducible refine (word_Step.calls k1 (wrap64 (Int.tmod a0 3)) x8_1 (bt t213 x9_1) t216 true _ A11.out).mono ?_); rintro e w13 ⟨rfl, hb⟩; refine ⟨_, rfl, ?_⟩; have n0_ := Aside0.mk (below_step (by repeat (first | (with_reducible first | exact HB.out | apply below_alloc | apply pw_below_drewN | apply below_drew1) | exact HB.out)) hb); clear HB; have HB := n0_; clear n0_; (try clear hb); (try clear hb2); (try clear hk); (try clear hi)))
              go_roundg k1
              case measure => have := HK1.out; omega
              case rel => exact ⟨(t216), (wrap64 (x9_1 + 1)), (by first | rfl | (simp; done) | (simp [*]; done)), (by first | rfl | (simp; done) | (simp [*]; done)), H', ⟨by have := HK1.out; omega⟩, ⟨by repeat (first | (with_reducible first | exact HB.out | apply below_alloc | apply pw_below_drewN | apply below_drew1) | exact HB.out)⟩⟩
            · replace c12 := Bool.eq_false_iff.mpr c12
              subst c12
              have H1 : (some false) = some r := by rw [if_neg (show ¬ (false = true) by decide)] at H; exact H
              clear H
              have H := H1
              clear H1
              obtain rfl := Option.some.inj H
              have p10 : 0 ≤ (x9_1 : Int) := of_decide_eq_true (by first | (with_reducible assumption) | assumption)
              have q10 : x9_1 < (t213.size : Int) := of_decide_eq_true (by first | (with_reducible assumption) | assumption)
              have hx10 := bt_at t213 x9_1
              replace p10 := eq_true p10
              replace q10 := eq_true q10
              go_wp2_with (first | ((with_reducible refine gate_callee (f := 17) rfl ?_); refine goesL_ (some 39) rfl rfl Try.func17 (by kernel_rfl) rfl #[.int .i64 (wrap64 (Int.tmod a0 3)), .int .i64 x8_1, .int .u8 (bt t213 x9_1)] rfl (by (try simp only [List.map_toArray, List.map_cons, List.map_nil]); first | done | rfl | (simp only [List.length_drop, List.length_take]; rfl)) ?_; (with_reducible refine (word_Step.calls k1 (wrap64 (Int.tmod a0 3)) x8_1 (bt t213 x9_1) t216 false _ A11.out).mono ?_); rintro e w14 ⟨rfl, hb⟩; refine ⟨_, rfl, ?_⟩; have n0_ := Aside0.mk (below_step (by repeat (first | (with_reducible first | exact HB.out | apply below_alloc | apply pw_below_drewN | apply below_drew1) | exact HB.out)) hb); clear HB; have HB := n0_; clear n0_; (try clear hb); (try clear hb2); (try clear hk); (try clear hi)))
              go_ret
              exact ⟨by first | rfl | (simp [errW_none, errW_some] <;> rfl) | (simp [*, errW_none, errW_some] <;> rfl), by repeat (first | (with_reducible first | exact HB.out | apply below_alloc | apply pw_below_drewN | apply below_drew1) | exact HB.out)⟩
          · rw [if_neg c9] at H
            exact absurd H (by simp)
        · rw [if_neg c8] at H
          have c8b0 : decide (x9_1 < (t213.size : Int)) = false := decide_eq_false c8
          clear c8
          replace H := Option.bind_eq_some_iff.mp H
          obtain ⟨⟨t218, t219⟩, A150, H⟩ := H
          replace H : ((some (([a2] : List Int) : List Int)).bind fun y220 => (if t213.size + (strOfNums y220).size ≤ 9223372036854775807 then ((word_Live.f k1 (wrap64 (Int.tmod a0 3)) (t213 ++ (strOfNums y220))).bind fun t223 => (if (t219 != (t223 == ((t213 ++ (strOfNums y220)).size : Int))) = true then (some false) else (if t219 = true then ((word_Rest.f (wrap64 (Int.tmod a0 3)) t218).bind fun t224 => (if (t213 ++ (strOfNums y220)).size + t224.size ≤ 9223372036854775807 then ((word_Whole.f k1 (wrap64 (Int.tmod a0 3)) ((t213 ++ (strOfNums y220)) ++ t224)).bind fun t225 => (if t225 = true then ((word_Ends.f (wrap64 (Int.tmod a0 3)) t218).bind fun t226 => ((word_Whole.f k1 (wrap64 (Int.tmod a0 3)) (t213 ++ (strOfNums y220))).bind fun t227 => (if (t226 == t227) = true then ((word_Rest.f (wrap64 (Int.tmod a0 3)) x8_1).bind fun t228 => (if t213.size + t228.size ≤ 9223372036854775807 then ((word_Whole.f k1 (wrap64 (Int.tmod a0 3)) (t213 ++ t228)).bind fun t229 => (if t229 = true then ((graftwoodlaw06_awake.f k1).bind fun t230 => (some t230)) else (some false))) else (none))) else (some false)))) else (some false))) else (none))) else ((word_Rest.f (wrap64 (Int.tmod a0 3)) x8_1).bind fun t231 => (if t213.size + t231.size ≤ 9223372036854775807 then ((word_Whole.f k1 (wrap64 (Int.tmod a0 3)) (t213 ++ t231)).bind fun t232 => (if t232 = true then ((graftwoodlaw06_awake.f k1).bind fun t233 => (some t233)) else (some false))) else (none)))))) else (none))) = some r := H
          have A15 := Aside0.mk A150
          clear A150
          obtain ⟨y220, hy220⟩ : ∃ y_ : List Int, y_ = (([a2] : List Int)) := ⟨_, rfl⟩
          replace H : (if t213.size + (strOfNums y220).size ≤ 9223372036854775807 then ((word_Live.f k1 (wrap64 (Int.tmod a0 3)) (t213 ++ (strOfNums y220))).bind fun t223 => (if (t219 != (t223 == ((t213 ++ (strOfNums y220)).size : Int))) = true then (some false) else (if t219 = true then ((word_Rest.f (wrap64 (Int.tmod a0 3)) t218).bind fun t224 => (if (t213 ++ (strOfNums y220)).size + t224.size ≤ 9223372036854775807 then ((word_Whole.f k1 (wrap64 (Int.tmod a0 3)) ((t213 ++ (strOfNums y220)) ++ t224)).bind fun t225 => (if t225 = true then ((word_Ends.f (wrap64 (Int.tmod a0 3)) t218).bind fun t226 => ((word_Whole.f k1 (wrap64 (Int.tmod a0 3)) (t213 ++ (strOfNums y220))).bind fun t227 => (if (t226 == t227) = true then ((word_Rest.f (wrap64 (Int.tmod a0 3)) x8_1).bind fun t228 => (if t213.size + t228.size ≤ 9223372036854775807 then ((word_Whole.f k1 (wrap64 (Int.tmod a0 3)) (t213 ++ t228)).bind fun t229 => (if t229 = true then ((graftwoodlaw06_awake.f k1).bind fun t230 => (some t230)) else (some false))) else (none))) else (some false)))) else (some false))) else (none))) else ((word_Rest.f (wrap64 (Int.tmod a0 3)) x8_1).bind fun t231 => (if t213.size + t231.size ≤ 9223372036854775807 then ((word_Whole.f k1 (wrap64 (Int.tmod a0 3)) (t213 ++ t231)).bind fun t232 => (if t232 = true then ((graftwoodlaw06_awake.f k1).bind fun t233 => (some t233)) else (some false))) else (none)))))) else (none)) = some r := by first | (rw [hy220]; with_reducible exact H) | (have H2_ := (Option.bind_some _ _).symm.trans H; rw [hy220]; with_reducible exact H2_) | (have H2_ := (Option.bind_some _ _).symm.trans H; with_reducible exact H2_) | with_reducible exact H | (rw [hy220]; exact H) | exact H
          have Ny220 := Aside0.mk hy220
          clear hy220
          by_cases c16 : t213.size + (strOfNums y220).size ≤ 9223372036854775807
          · rw [if_pos c16] at H
            have c16b0 := eq_true c16
            have c16b1 : decide (t213.size + (strOfNums y220).size ≤ 9223372036854775807) = true := decide_eq_true c16
            try have c16b2 : (9223372036854775807 < t213.size + (strOfNums y220).size) = False := eq_false (Nat.not_lt.2 c16)
            replace H := Option.bind_eq_some_iff.mp H
            obtain ⟨t223, A170, H⟩ := H
            replace H : (if (t219 != (t223 == ((t213 ++ (strOfNums y220)).size : Int))) = true then (some false) else (if t219 = true then ((word_Rest.f (wrap64 (Int.tmod a0 3)) t218).bind fun t224 => (if (t213 ++ (strOfNums y220)).size + t224.size ≤ 9223372036854775807 then ((word_Whole.f k1 (wrap64 (Int.tmod a0 3)) ((t213 ++ (strOfNums y220)) ++ t224)).bind fun t225 => (if t225 = true then ((word_Ends.f (wrap64 (Int.tmod a0 3)) t218).bind fun t226 => ((word_Whole.f k1 (wrap64 (Int.tmod a0 3)) (t213 ++ (strOfNums y220))).bind fun t227 => (if (t226 == t227) = true then ((word_Rest.f (wrap64 (Int.tmod a0 3)) x8_1).bind fun t228 => (if t213.size + t228.size ≤ 9223372036854775807 then ((word_Whole.f k1 (wrap64 (Int.tmod a0 3)) (t213 ++ t228)).bind fun t229 => (if t229 = true then ((graftwoodlaw06_awake.f k1).bind fun t230 => (some t230)) else (some false))) else (none))) else (some false)))) else (some false))) else (none))) else ((word_Rest.f (wrap64 (Int.tmod a0 3)) x8_1).bind fun t231 => (if t213.size + t231.size ≤ 9223372036854775807 then ((word_Whole.f k1 (wrap64 (Int.tmod a0 3)) (t213 ++ t231)).bind fun t232 => (if t232 = true then ((graftwoodlaw06_awake.f k1).bind fun t233 => (some t233)) else (some false))) else (none))))) = some r := H
            have A17 := Aside0.mk A170
            clear A170
            by_cases c18 : (t219 != (t223 == ((t213 ++ (strOfNums y220)).size : Int))) = true
            · rw [if_pos c18] at H
              have c18b0 : (t219 != (t223 == ((t213 ++ (strOfNums y220)).size : Int))) = true := c18
              have c18b0z : (t219 != (t223 == ((t213.size : Int) + ((strOfNums y220).size : Int)))) = true := by have h_ := c18b0; simpa only [ByteArray.size_append, Int.natCast_add] using h_
              (try (have c18b1 : decide (t219 = (t223 == ((t213 ++ (strOfNums y220)).size : Int))) = false := by simpa using c18))
              (try (have c18b1z : decide (t219 = (t223 == ((t213.size : Int) + ((strOfNums y220).size : Int)))) = false := by have h_ := c18b1; simpa only [ByteArray.size_append, Int.natCast_add] using h_))
              (try (have c18b2 : (t219 == (t223 == ((t213 ++ (strOfNums y220)).size : Int))) = false := by simpa using c18))
              (try (have c18b2z : (t219 == (t223 == ((t213.size : Int) + ((strOfNums y220).size : Int)))) = false := by have h_ := c18b2; simpa only [ByteArray.size_append, Int.natCast_add] using h_))
              (try (have c18b3 : ¬ (t219 = (t223 == ((t213 ++ (strOfNums y220)).size : Int))) := by simpa using c18))
              (try (have c18b3z : ¬ (t219 = (t223 == ((t213.size : Int) + ((strOfNums y220).size : Int)))) := by have h_ := c18b3; simpa only [ByteArray.size_append, Int.natCast_add] using h_))
              clear c18
              obtain rfl := Option.some.inj H
              go_wp2_with (first | ((with_reducible refine gate_callee (f := 17) rfl ?_); refine goesL_ (some 49) rfl rfl Try.func17 (by kernel_rfl) rfl #[.int .i64 (wrap64 (Int.tmod a0 3)), .int .i64 x8_1, .int .u8 a2] rfl (by (try simp only [List.map_toArray, List.map_cons, List.map_nil]); first | done | rfl | (simp only [List.length_drop, List.length_take]; rfl)) ?_; (with_reducible refine (word_Step.calls k1 (wrap64 (Int.tmod a0 3)) x8_1 a2 t218 t219 _ A15.out).mono ?_); rintro e w19 ⟨rfl, hb⟩; refine ⟨_, rfl, ?_⟩; have n0_ := Aside0.mk (below_step (by repeat (first | (with_reducible first | exact HB.out | apply below_alloc | apply pw_below_drewN | apply below_drew1) | exact HB.out)) hb); clear HB; have HB := n0_; clear n0_; (try clear hb); (try clear hb2); (try clear hk); (try clear hi)) | ((with_reducible refine gate_dst (N := 54) rfl ?_); refine Kd.R_lit (Kd.int .u8) _ 5 ?hg (N := 54) ?hd (xs := ([a2] : List Int)) (inner := [.int .u8 a2]) (ok := fun _ => True) (okp := fun _ => True) ?hr ?hp (fun _ hk => hk) trivial (Below.refl _ _) (Nat.le_refl _) (by simp) ?_; (case hd => rfl); (case hg => rfl); (case hr => first | (go_simp; done) | (go_simp; rfl)); (case hp => exact (Reps.one (show Kd.M (Kd.int .u8) _ _ _ a2 [.int .u8 a2] from rfl) (Reps.none _ _))); intro v221 w20 ho21 hb hg_ hnew_; clear hg_ hnew_; (first | rw [← Ny220.out] at ho21 | (simp only [Int.reduceToNat] at ho21; rw [← Ny220.out] at ho21)); have n0_ := Aside0.mk (Kd.R_lower ho21 (below_size (by repeat (first | (with_reducible first | exact HB.out | apply below_alloc | apply pw_below_drewN | apply below_drew1) | exact HB.out)))); have n1_ := Aside0.mk (below_step (by repeat (first | (with_reducible first | exact HB.out | apply below_alloc | apply pw_below_drewN | apply below_drew1) | exact HB.out)) hb); clear HB; have HO222 := n0_; have HB := n1_; clear n0_ n1_; clear hb ho21; have hcv22 := own_string (P := Try.prog) Try.underlying34 Try.underlying5 Try.underlying9 (Kd.own_of_R HO222.out)) | ((with_reducible refine gate_callee (f := 10) rfl ?_); refine goesL_ (some 60) rfl rfl Try.func10 (by kernel_rfl) rfl #[.int .i64 (wrap64 (Int.tmod a0 3)), .string (t213 ++ (strOfNums y220))] rfl (by (try simp only [List.map_toArray, List.map_cons, List.map_nil]); first | done | rfl | (simp only [List.length_drop, List.length_take]; rfl)) ?_; (with_reducible refine (word_Live.calls k1 (wrap64 (Int.tmod a0 3)) (t213 ++ (strOfNums y220)) t223 _ A17.out).mono ?_); rintro e w23 ⟨rfl, hb⟩; refine ⟨_, rfl, ?_⟩; have n0_ := Aside0.mk (Kd.R_below (by (with_reducible repeat (first | apply Kd.R_alloc | apply Kd.R_drewN | apply Kd.R_drew)); exact HO222.out) hb); have n1_ := Aside0.mk (below_step (by repeat (first | (with_reducible first | exact HB.out | apply below_alloc | apply pw_below_drewN | apply below_drew1) | exact HB.out)) hb); clear HO222; clear HB; have HO222 := n0_; have HB := n1_; clear n0_ n1_; (try clear hb); (try clear hb2); (try clear hk); (try clear hi)))
              go_ret
              exact ⟨by first | rfl | (simp [errW_none, errW_some] <;> rfl) | (simp [*, errW_none, errW_some] <;> rfl), by repeat (first | (with_reducible first | exact HB.out | apply below_alloc | apply pw_below_drewN | apply below_drew1) | exact HB.out)⟩
            · rw [if_neg c18] at H
              have c18b0 : (t219 != (t223 == ((t213 ++ (strOfNums y220)).size : Int))) = false := by simpa using c18
              have c18b0z : (t219 != (t223 == ((t213.size : Int) + ((strOfNums y220).size : Int)))) = false := by have h_ := c18b0; simpa only [ByteArray.size_append, Int.natCast_add] using h_
              (try (have c18b1 : decide (t219 = (t223 == ((t213 ++ (strOfNums y220)).size : Int))) = true := by simpa using c18))
              (try (have c18b1z : decide (t219 = (t223 == ((t213.size : Int) + ((strOfNums y220).size : Int)))) = true := by have h_ := c18b1; simpa only [ByteArray.size_append, Int.natCast_add] using h_))
              (try (have c18b2 : (t219 == (t223 == ((t213 ++ (strOfNums y220)).size : Int))) = true := by simpa using c18))
              (try (have c18b2z : (t219 == (t223 == ((t213.size : Int) + ((strOfNums y220).size : Int)))) = true := by have h_ := c18b2; simpa only [ByteArray.size_append, Int.natCast_add] using h_))
              clear c18
              by_cases c24 : t219 = true
              · subst c24
                have H1 : ((word_Rest.f (wrap64 (Int.tmod a0 3)) t218).bind fun t224 => (if (t213 ++ (strOfNums y220)).size + t224.size ≤ 9223372036854775807 then ((word_Whole.f k1 (wrap64 (Int.tmod a0 3)) ((t213 ++ (strOfNums y220)) ++ t224)).bind fun t225 => (if t225 = true then ((word_Ends.f (wrap64 (Int.tmod a0 3)) t218).bind fun t226 => ((word_Whole.f k1 (wrap64 (Int.tmod a0 3)) (t213 ++ (strOfNums y220))).bind fun t227 => (if (t226 == t227) = true then ((word_Rest.f (wrap64 (Int.tmod a0 3)) x8_1).bind fun t228 => (if t213.size + t228.size ≤ 9223372036854775807 then ((word_Whole.f k1 (wrap64 (Int.tmod a0 3)) (t213 ++ t228)).bind fun t229 => (if t229 = true then ((graftwoodlaw06_awake.f k1).bind fun t230 => (some t230)) else (some false))) else (none))) else (some false)))) else (some false))) else (none))) = some r := by rw [if_pos rfl] at H; exact H
                clear H
                have H := H1
                clear H1
                replace H := Option.bind_eq_some_iff.mp H
                obtain ⟨t224, A250, H⟩ := H
                replace H : (if (t213 ++ (strOfNums y220)).size + t224.size ≤ 9223372036854775807 then ((word_Whole.f k1 (wrap64 (Int.tmod a0 3)) ((t213 ++ (strOfNums y220)) ++ t224)).bind fun t225 => (if t225 = true then ((word_Ends.f (wrap64 (Int.tmod a0 3)) t218).bind fun t226 => ((word_Whole.f k1 (wrap64 (Int.tmod a0 3)) (t213 ++ (strOfNums y220))).bind fun t227 => (if (t226 == t227) = true then ((word_Rest.f (wrap64 (Int.tmod a0 3)) x8_1).bind fun t228 => (if t213.size + t228.size ≤ 9223372036854775807 then ((word_Whole.f k1 (wrap64 (Int.tmod a0 3)) (t213 ++ t228)).bind fun t229 => (if t229 = true then ((graftwoodlaw06_awake.f k1).bind fun t230 => (some t230)) else (some false))) else (none))) else (some false)))) else (some false))) else (none)) = some r := H
                have A25 := Aside0.mk A250
                clear A250
                by_cases c26 : (t213 ++ (strOfNums y220)).size + t224.size ≤ 9223372036854775807
                · rw [if_pos c26] at H
                  have c26b0 := eq_true c26
                  have c26b1 : decide ((t213 ++ (strOfNums y220)).size + t224.size ≤ 9223372036854775807) = true := decide_eq_true c26
                  have c26z := c26
                  rw [ByteArray.size_append] at c26z
                  have c26bz0 := eq_true c26z
                  have c26bz1 : decide ((t213.size + (strOfNums y220).size) + t224.size ≤ 9223372036854775807) = true := decide_eq_true c26z
                  try have c26bz2 : (9223372036854775807 < (t213.size + (strOfNums y220).size) + t224.size) = False := eq_false (Nat.not_lt.2 c26z)
                  clear c26z
                  try have c26b2 : (9223372036854775807 < (t213 ++ (strOfNums y220)).size + t224.size) = False := eq_false (Nat.not_lt.2 c26)
                  replace H := Option.bind_eq_some_iff.mp H
                  obtain ⟨t225, A270, H⟩ := H
                  replace H : (if t225 = true then ((word_Ends.f (wrap64 (Int.tmod a0 3)) t218).bind fun t226 => ((word_Whole.f k1 (wrap64 (Int.tmod a0 3)) (t213 ++ (strOfNums y220))).bind fun t227 => (if (t226 == t227) = true then ((word_Rest.f (wrap64 (Int.tmod a0 3)) x8_1).bind fun t228 => (if t213.size + t228.size ≤ 9223372036854775807 then ((word_Whole.f k1 (wrap64 (Int.tmod a0 3)) (t213 ++ t228)).bind fun t229 => (if t229 = true then ((graftwoodlaw06_awake.f k1).bind fun t230 => (some t230)) else (some false))) else (none))) else (some false)))) else (some false)) = some r := H
                  have A27 := Aside0.mk A270
                  clear A270
                  by_cases c28 : t225 = true
                  · subst c28
                    have H1 : ((word_Ends.f (wrap64 (Int.tmod a0 3)) t218).bind fun t226 => ((word_Whole.f k1 (wrap64 (Int.tmod a0 3)) (t213 ++ (strOfNums y220))).bind fun t227 => (if (t226 == t227) = true then ((word_Rest.f (wrap64 (Int.tmod a0 3)) x8_1).bind fun t228 => (if t213.size + t228.size ≤ 9223372036854775807 then ((word_Whole.f k1 (wrap64 (Int.tmod a0 3)) (t213 ++ t228)).bind fun t229 => (if t229 = true then ((graftwoodlaw06_awake.f k1).bind fun t230 => (some t230)) else (some false))) else (none))) else (some false)))) = some r := by rw [if_pos rfl] at H; exact H
                    clear H
                    have H := H1
                    clear H1
                    replace H := Option.bind_eq_some_iff.mp H
                    obtain ⟨t226, A290, H⟩ := H
                    replace H : ((word_Whole.f k1 (wrap64 (Int.tmod a0 3)) (t213 ++ (strOfNums y220))).bind fun t227 => (if (t226 == t227) = true then ((word_Rest.f (wrap64 (Int.tmod a0 3)) x8_1).bind fun t228 => (if t213.size + t228.size ≤ 9223372036854775807 then ((word_Whole.f k1 (wrap64 (Int.tmod a0 3)) (t213 ++ t228)).bind fun t229 => (if t229 = true then ((graftwoodlaw06_awake.f k1).bind fun t230 => (some t230)) else (some false))) else (none))) else (some false))) = some r := H
                    have A29 := Aside0.mk A290
                    clear A290
                    replace H := Option.bind_eq_some_iff.mp H
                    obtain ⟨t227, A300, H⟩ := H
                    replace H : (if (t226 == t227) = true then ((word_Rest.f (wrap64 (Int.tmod a0 3)) x8_1).bind fun t228 => (if t213.size + t228.size ≤ 9223372036854775807 then ((word_Whole.f k1 (wrap64 (Int.tmod a0 3)) (t213 ++ t228)).bind fun t229 => (if t229 = true then ((graftwoodlaw06_awake.f k1).bind fun t230 => (some t230)) else (some false))) else (none))) else (some false)) = some r := H
                    have A30 := Aside0.mk A300
                    clear A300
                    by_cases c31 : (t226 == t227) = true
                    · rw [if_pos c31] at H
                      have c31b0 : (t226 == t227) = true := c31
                      (try (have c31b1 : decide (t226 = t227) = true := by simpa using c31))
                      (try (have c31b2 : (t226 == t227) = true := by simpa using c31))
                      clear c31
                      replace H := Option.bind_eq_some_iff.mp H
                      obtain ⟨t228, A320, H⟩ := H
                      replace H : (if t213.size + t228.size ≤ 9223372036854775807 then ((word_Whole.f k1 (wrap64 (Int.tmod a0 3)) (t213 ++ t228)).bind fun t229 => (if t229 = true then ((graftwoodlaw06_awake.f k1).bind fun t230 => (some t230)) else (some false))) else (none)) = some r := H
                      have A32 := Aside0.mk A320
                      clear A320
                      by_cases c33 : t213.size + t228.size ≤ 9223372036854775807
                      · rw [if_pos c33] at H
                        have c33b0 := eq_true c33
                        have c33b1 : decide (t213.size + t228.size ≤ 9223372036854775807) = true := decide_eq_true c33
                        try have c33b2 : (9223372036854775807 < t213.size + t228.size) = False := eq_false (Nat.not_lt.2 c33)
                        replace H := Option.bind_eq_some_iff.mp H
                        obtain ⟨t229, A340, H⟩ := H
                        replace H : (if t229 = true then ((graftwoodlaw06_awake.f k1).bind fun t230 => (some t230)) else (some false)) = some r := H
                        have A34 := Aside0.mk A340
                        clear A340
                        by_cases c35 : t229 = true
                        · subst c35
                          have H1 : ((graftwoodlaw06_awake.f k1).bind fun t230 => (some t230)) = some r := by rw [if_pos rfl] at H; exact H
                          clear H
                          have H := H1
                          clear H1
                          replace H := Option.bind_eq_some_iff.mp H
                          obtain ⟨t230, A360, H⟩ := H
                          replace H : (some t230) = some r := H
                          have A36 := Aside0.mk A360
                          clear A360
                          obtain rfl := Option.some.inj H
                          go_wp2_with (first | ((with_reducible refine gate_callee (f := 17) rfl ?_); refine goesL_ (some 49) rfl rfl Try.func17 (by kernel_rfl) rfl #[.int .i64 (wrap64 (Int.tmod a0 3)), .int .i64 x8_1, .int .u8 a2] rfl (by (try simp only [List.map_toArray, List.map_cons, List.map_nil]); first | done | rfl | (simp only [List.length_drop, List.length_take]; rfl)) ?_; (with_reducible refine (word_Step.calls k1 (wrap64 (Int.tmod a0 3)) x8_1 a2 t218 true _ A15.out).mono ?_); rintro e w37 ⟨rfl, hb⟩; refine ⟨_, rfl, ?_⟩; have n0_ := Aside0.mk (below_step (by repeat (first | (with_reducible first | exact HB.out | apply below_alloc | apply pw_below_drewN | apply below_drew1) | exact HB.out)) hb); clear HB; have HB := n0_; clear n0_; (try clear hb); (try clear hb2); (try clear hk); (try clear hi)) | ((with_reducible refine gate_dst (N := 54) rfl ?_); refine Kd.R_lit (Kd.int .u8) _ 5 ?hg (N := 54) ?hd (xs := ([a2] : List Int)) (inner := [.int .u8 a2]) (ok := fun _ => True) (okp := fun _ => True) ?hr ?hp (fun _ hk => hk) trivial (Below.refl _ _) (Nat.le_refl _) (by simp) ?_; (case hd => rfl); (case hg => rfl); (case hr => first | (go_simp; done) | (go_simp; rfl)); (case hp => exact (Reps.one (show Kd.M (Kd.int .u8) _ _ _ a2 [.int .u8 a2] from rfl) (Reps.none _ _))); intro v221 w38 ho39 hb hg_ hnew_; clear hg_ hnew_; (first | rw [← Ny220.out] at ho39 | (simp only [Int.reduceToNat] at ho39; rw [← Ny220.out] at ho39)); have n0_ := Aside0.mk (Kd.R_lower ho39 (below_size (by repeat (first | (with_reducible first | exact HB.out | apply below_alloc | apply pw_below_drewN | apply below_drew1) | exact HB.out)))); have n1_ := Aside0.mk (below_step (by repeat (first | (with_reducible first | exact HB.out | apply below_alloc | apply pw_below_drewN | apply below_drew1) | exact HB.out)) hb); clear HB; have HO222 := n0_; have HB := n1_; clear n0_ n1_; clear hb ho39; have hcv40 := own_string (P := Try.prog) Try.underlying34 Try.underlying5 Try.underlying9 (Kd.own_of_R HO222.out)) | ((with_reducible refine gate_callee (f := 10) rfl ?_); refine goesL_ (some 60) rfl rfl Try.func10 (by kernel_rfl) rfl #[.int .i64 (wrap64 (Int.tmod a0 3)), .string (t213 ++ (strOfNums y220))] rfl (by (try simp only [List.map_toArray, List.map_cons, List.map_nil]); first | done | rfl | (simp only [List.length_drop, List.length_take]; rfl)) ?_; (with_reducible refine (word_Live.calls k1 (wrap64 (Int.tmod a0 3)) (t213 ++ (strOfNums y220)) t223 _ A17.out).mono ?_); rintro e w41 ⟨rfl, hb⟩; refine ⟨_, rfl, ?_⟩; have n0_ := Aside0.mk (Kd.R_below (by (with_reducible repeat (first | apply Kd.R_alloc | apply Kd.R_drewN | apply Kd.R_drew)); exact HO222.out) hb); have n1_ := Aside0.mk (below_step (by repeat (first | (with_reducible first | exact HB.out | apply below_alloc | apply pw_below_drewN | apply below_drew1) | exact HB.out)) hb); clear HO222; clear HB; have HO222 := n0_; have HB := n1_; clear n0_ n1_; (try clear hb); (try clear hb2); (try clear hk); (try clear hi)) | (go_at_call 15; (with_reducible refine (word_Rest.calls (wrap64 (Int.tmod a0 3)) t218 t224 _ A25.out).mono ?_); rintro e w42 ⟨rfl, hb⟩; have n0_ := Aside0.mk (Kd.R_below (by (with_reducible repeat (first | apply Kd.R_alloc | apply Kd.R_drewN | apply Kd.R_drew)); exact HO222.out) hb); have n1_ := Aside0.mk (below_step (by repeat (first | (with_reducible first | exact HB.out | apply below_alloc | apply pw_below_drewN | apply below_drew1) | exact HB.out)) hb); clear HO222; clear HB; have HO222 := n0_; have HB := n1_; clear n0_ n1_; (try clear hb); (try clear hb2); (try clear hk); (try clear hi)) | (go_at_call 11; (with_reducible refine (word_Whole.calls k1 (wrap64 (Int.tmod a0 3)) ((t213 ++ (strOfNums y220)) ++ t224) true _ A27.out).mono ?_); rintro e w43 ⟨rfl, hb⟩; have n0_ := Aside0.mk (Kd.R_below (by (with_reducible repeat (first | apply Kd.R_alloc | apply Kd.R_drewN | apply Kd.R_drew)); exact HO222.out) hb); have n1_ := Aside0.mk (below_step (by repeat (first | (with_reducible first | exact HB.out | apply below_alloc | apply pw_below_drewN | apply below_drew1) | exact HB.out)) hb); clear HO222; clear HB; have HO222 := n0_; have HB := n1_; clear n0_ n1_; (try clear hb); (try clear hb2); (try clear hk); (try clear hi)) | (go_at_call 16; (with_reducible refine (word_Ends.calls (wrap64 (Int.tmod a0 3)) t218 t226 _ A29.out).mono ?_); rintro e w44 ⟨rfl, hb⟩; have n0_ := Aside0.mk (Kd.R_below (by (with_reducible repeat (first | apply Kd.R_alloc | apply Kd.R_drewN | apply Kd.R_drew)); exact HO222.out) hb); have n1_ := Aside0.mk (below_step (by repeat (first | (with_reducible first | exact HB.out | apply below_alloc | apply pw_below_drewN | apply below_drew1) | exact HB.out)) hb); clear HO222; clear HB; have HO222 := n0_; have HB := n1_; clear n0_ n1_; (try clear hb); (try clear hb2); (try clear hk); (try clear hi)) | (go_at_call 11; (with_reducible refine (word_Whole.calls k1 (wrap64 (Int.tmod a0 3)) (t213 ++ (strOfNums y220)) t227 _ A30.out).mono ?_); rintro e w45 ⟨rfl, hb⟩; have n0_ := Aside0.mk (Kd.R_below (by (with_reducible repeat (first | apply Kd.R_alloc | apply Kd.R_drewN | apply Kd.R_drew)); exact HO222.out) hb); have n1_ := Aside0.mk (below_step (by repeat (first | (with_reducible first | exact HB.out | apply below_alloc | apply pw_below_drewN | apply below_drew1) | exact HB.out)) hb); clear HO222; clear HB; have HO222 := n0_; have HB := n1_; clear n0_ n1_; (try clear hb); (try clear hb2); (try clear hk); (try clear hi)) | (go_at_call 15; (with_reducible refine (word_Rest.calls (wrap64 (Int.tmod a0 3)) x8_1 t228 _ A32.out).mono ?_); rintro e w46 ⟨rfl, hb⟩; have n0_ := Aside0.mk (Kd.R_below (by (with_reducible repeat (first | apply Kd.R_alloc | apply Kd.R_drewN | apply Kd.R_drew)); exact HO222.out) hb); have n1_ := Aside0.mk (below_step (by repeat (first | (with_reducible first | exact HB.out | apply below_alloc | apply pw_below_drewN | apply below_drew1) | exact HB.out)) hb); clear HO222; clear HB; have HO222 := n0_; have HB := n1_; clear n0_ n1_; (try clear hb); (try clear hb2); (try clear hk); (try clear hi)) | (go_at_call 11; (with_reducible refine (word_Whole.calls k1 (wrap64 (Int.tmod a0 3)) (t213 ++ t228) true _ A34.out).mono ?_); rintro e w47 ⟨rfl, hb⟩; have n0_ := Aside0.mk (Kd.R_below (by (with_reducible repeat (first | apply Kd.R_alloc | apply Kd.R_drewN | apply Kd.R_drew)); exact HO222.out) hb); have n1_ := Aside0.mk (below_step (by repeat (first | (with_reducible first | exact HB.out | apply below_alloc | apply pw_below_drewN | apply below_drew1) | exact HB.out)) hb); clear HO222; clear HB; have HO222 := n0_; have HB := n1_; clear n0_ n1_; (try clear hb); (try clear hb2); (try clear hk); (try clear hi)) | (go_at_call 12; (with_reducible refine (graftwoodlaw06_awake.calls k1  t230 _ A36.out).mono ?_); rintro e w48 ⟨rfl, hb⟩; have n0_ := Aside0.mk (Kd.R_below (by (with_reducible repeat (first | apply Kd.R_alloc | apply Kd.R_drewN | apply Kd.R_drew)); exact HO222.out) hb); have n1_ := Aside0.mk (below_step (by repeat (first | (with_reducible first | exact HB.out | apply below_alloc | apply pw_below_drewN | apply below_drew1) | exact HB.out)) hb); clear HO222; clear HB; have HO222 := n0_; have HB := n1_; clear n0_ n1_; (try clear hb); (try clear hb2); (try clear hk); (try clear hi)))
                          go_ret
                          exact ⟨by first | rfl | (simp [errW_none, errW_some] <;> rfl) | (simp [*, errW_none, errW_some] <;> rfl), by repeat (first | (with_reducible first | exact HB.out | apply below_alloc | apply pw_below_drewN | apply below_drew1) | exact HB.out)⟩
                        · replace c35 := Bool.eq_false_iff.mpr c35
                          subst c35
                          have H1 : (some false) = some r := by rw [if_neg (show ¬ (false = true) by decide)] at H; exact H
                          clear H
                          have H := H1
                          clear H1
                          obtain rfl := Option.some.inj H
                          go_wp2_with (first | ((with_reducible refine gate_callee (f := 17) rfl ?_); refine goesL_ (some 49) rfl rfl Try.func17 (by kernel_rfl) rfl #[.int .i64 (wrap64 (Int.tmod a0 3)), .int .i64 x8_1, .int .u8 a2] rfl (by (try simp only [List.map_toArray, List.map_cons, List.map_nil]); first | done | rfl | (simp only [List.length_drop, List.length_take]; rfl)) ?_; (with_reducible refine (word_Step.calls k1 (wrap64 (Int.tmod a0 3)) x8_1 a2 t218 true _ A15.out).mono ?_); rintro e w49 ⟨rfl, hb⟩; refine ⟨_, rfl, ?_⟩; have n0_ := Aside0.mk (below_step (by repeat (first | (with_reducible first | exact HB.out | apply below_alloc | apply pw_below_drewN | apply below_drew1) | exact HB.out)) hb); clear HB; have HB := n0_; clear n0_; (try clear hb); (try clear hb2); (try clear hk); (try clear hi)) | ((with_reducible refine gate_dst (N := 54) rfl ?_); refine Kd.R_lit (Kd.int .u8) _ 5 ?hg (N := 54) ?hd (xs := ([a2] : List Int)) (inner := [.int .u8 a2]) (ok := fun _ => True) (okp := fun _ => True) ?hr ?hp (fun _ hk => hk) trivial (Below.refl _ _) (Nat.le_refl _) (by simp) ?_; (case hd => rfl); (case hg => rfl); (case hr => first | (go_simp; done) | (go_simp; rfl)); (case hp => exact (Reps.one (show Kd.M (Kd.int .u8) _ _ _ a2 [.int .u8 a2] from rfl) (Reps.none _ _))); intro v221 w50 ho51 hb hg_ hnew_; clear hg_ hnew_; (first | rw [← Ny220.out] at ho51 | (simp only [Int.reduceToNat] at ho51; rw [← Ny220.out] at ho51)); have n0_ := Aside0.mk (Kd.R_lower ho51 (below_size (by repeat (first | (with_reducible first | exact HB.out | apply below_alloc | apply pw_below_drewN | apply below_drew1) | exact HB.out)))); have n1_ := Aside0.mk (below_step (by repeat (first | (with_reducible first | exact HB.out | apply below_alloc | apply pw_below_drewN | apply below_drew1) | exact HB.out)) hb); clear HB; have HO222 := n0_; have HB := n1_; clear n0_ n1_; clear hb ho51; have hcv52 := own_string (P := Try.prog) Try.underlying34 Try.underlying5 Try.underlying9 (Kd.own_of_R HO222.out)) | ((with_reducible refine gate_callee (f := 10) rfl ?_); refine goesL_ (some 60) rfl rfl Try.func10 (by kernel_rfl) rfl #[.int .i64 (wrap64 (Int.tmod a0 3)), .string (t213 ++ (strOfNums y220))] rfl (by (try simp only [List.map_toArray, List.map_cons, List.map_nil]); first | done | rfl | (simp only [List.length_drop, List.length_take]; rfl)) ?_; (with_reducible refine (word_Live.calls k1 (wrap64 (Int.tmod a0 3)) (t213 ++ (strOfNums y220)) t223 _ A17.out).mono ?_); rintro e w53 ⟨rfl, hb⟩; refine ⟨_, rfl, ?_⟩; have n0_ := Aside0.mk (Kd.R_below (by (with_reducible repeat (first | apply Kd.R_alloc | apply Kd.R_drewN | apply Kd.R_drew)); exact HO222.out) hb); have n1_ := Aside0.mk (below_step (by repeat (first | (with_reducible first | exact HB.out | apply below_alloc | apply pw_below_drewN | apply below_drew1) | exact HB.out)) hb); clear HO222; clear HB; have HO222 := n0_; have HB := n1_; clear n0_ n1_; (try clear hb); (try clear hb2); (try clear hk); (try clear hi)) | (go_at_call 15; (with_reducible refine (word_Rest.calls (wrap64 (Int.tmod a0 3)) t218 t224 _ A25.out).mono ?_); rintro e w54 ⟨rfl, hb⟩; have n0_ := Aside0.mk (Kd.R_below (by (with_reducible repeat (first | apply Kd.R_alloc | apply Kd.R_drewN | apply Kd.R_drew)); exact HO222.out) hb); have n1_ := Aside0.mk (below_step (by repeat (first | (with_reducible first | exact HB.out | apply below_alloc | apply pw_below_drewN | apply below_drew1) | exact HB.out)) hb); clear HO222; clear HB; have HO222 := n0_; have HB := n1_; clear n0_ n1_; (try clear hb); (try clear hb2); (try clear hk); (try clear hi)) | (go_at_call 11; (with_reducible refine (word_Whole.calls k1 (wrap64 (Int.tmod a0 3)) ((t213 ++ (strOfNums y220)) ++ t224) true _ A27.out).mono ?_); rintro e w55 ⟨rfl, hb⟩; have n0_ := Aside0.mk (Kd.R_below (by (with_reducible repeat (first | apply Kd.R_alloc | apply Kd.R_drewN | apply Kd.R_drew)); exact HO222.out) hb); have n1_ := Aside0.mk (below_step (by repeat (first | (with_reducible first | exact HB.out | apply below_alloc | apply pw_below_drewN | apply below_drew1) | exact HB.out)) hb); clear HO222; clear HB; have HO222 := n0_; have HB := n1_; clear n0_ n1_; (try clear hb); (try clear hb2); (try clear hk); (try clear hi)) | (go_at_call 16; (with_reducible refine (word_Ends.calls (wrap64 (Int.tmod a0 3)) t218 t226 _ A29.out).mono ?_); rintro e w56 ⟨rfl, hb⟩; have n0_ := Aside0.mk (Kd.R_below (by (with_reducible repeat (first | apply Kd.R_alloc | apply Kd.R_drewN | apply Kd.R_drew)); exact HO222.out) hb); have n1_ := Aside0.mk (below_step (by repeat (first | (with_reducible first | exact HB.out | apply below_alloc | apply pw_below_drewN | apply below_drew1) | exact HB.out)) hb); clear HO222; clear HB; have HO222 := n0_; have HB := n1_; clear n0_ n1_; (try clear hb); (try clear hb2); (try clear hk); (try clear hi)) | (go_at_call 11; (with_reducible refine (word_Whole.calls k1 (wrap64 (Int.tmod a0 3)) (t213 ++ (strOfNums y220)) t227 _ A30.out).mono ?_); rintro e w57 ⟨rfl, hb⟩; have n0_ := Aside0.mk (Kd.R_below (by (with_reducible repeat (first | apply Kd.R_alloc | apply Kd.R_drewN | apply Kd.R_drew)); exact HO222.out) hb); have n1_ := Aside0.mk (below_step (by repeat (first | (with_reducible first | exact HB.out | apply below_alloc | apply pw_below_drewN | apply below_drew1) | exact HB.out)) hb); clear HO222; clear HB; have HO222 := n0_; have HB := n1_; clear n0_ n1_; (try clear hb); (try clear hb2); (try clear hk); (try clear hi)) | (go_at_call 15; (with_reducible refine (word_Rest.calls (wrap64 (Int.tmod a0 3)) x8_1 t228 _ A32.out).mono ?_); rintro e w58 ⟨rfl, hb⟩; have n0_ := Aside0.mk (Kd.R_below (by (with_reducible repeat (first | apply Kd.R_alloc | apply Kd.R_drewN | apply Kd.R_drew)); exact HO222.out) hb); have n1_ := Aside0.mk (below_step (by repeat (first | (with_reducible first | exact HB.out | apply below_alloc | apply pw_below_drewN | apply below_drew1) | exact HB.out)) hb); clear HO222; clear HB; have HO222 := n0_; have HB := n1_; clear n0_ n1_; (try clear hb); (try clear hb2); (try clear hk); (try clear hi)) | (go_at_call 11; (with_reducible refine (word_Whole.calls k1 (wrap64 (Int.tmod a0 3)) (t213 ++ t228) false _ A34.out).mono ?_); rintro e w59 ⟨rfl, hb⟩; have n0_ := Aside0.mk (Kd.R_below (by (with_reducible repeat (first | apply Kd.R_alloc | apply Kd.R_drewN | apply Kd.R_drew)); exact HO222.out) hb); have n1_ := Aside0.mk (below_step (by repeat (first | (with_reducible first | exact HB.out | apply below_alloc | apply pw_below_drewN | apply below_drew1) | exact HB.out)) hb); clear HO222; clear HB; have HO222 := n0_; have HB := n1_; clear n0_ n1_; (try clear hb); (try clear hb2); (try clear hk); (try clear hi)))
                          go_ret
                          exact ⟨by first | rfl | (simp [errW_none, errW_some] <;> rfl) | (simp [*, errW_none, errW_some] <;> rfl), by repeat (first | (with_reducible first | exact HB.out | apply below_alloc | apply pw_below_drewN | apply below_drew1) | exact HB.out)⟩
                      · rw [if_neg c33] at H
                        exact absurd H (by simp)
                    · rw [if_neg c31] at H
                      have c31b0 : (t226 == t227) = false := by simpa using c31
                      (try (have c31b1 : decide (t226 = t227) = false := by simpa using c31))
                      (try (have c31b2 : (t226 == t227) = false := by simpa using c31))
                      (try (have c31b3 : ¬ (t226 = t227) := by simpa using c31))
                      clear c31
                      obtain rfl := Option.some.inj H
                      go_wp2_with (first | ((with_reducible refine gate_callee (f := 17) rfl ?_); refine goesL_ (some 49) rfl rfl Try.func17 (by kernel_rfl) rfl #[.int .i64 (wrap64 (Int.tmod a0 3)), .int .i64 x8_1, .int .u8 a2] rfl (by (try simp only [List.map_toArray, List.map_cons, List.map_nil]); first | done | rfl | (simp only [List.length_drop, List.length_take]; rfl)) ?_; (with_reducible refine (word_Step.calls k1 (wrap64 (Int.tmod a0 3)) x8_1 a2 t218 true _ A15.out).mono ?_); rintro e w60 ⟨rfl, hb⟩; refine ⟨_, rfl, ?_⟩; have n0_ := Aside0.mk (below_step (by repeat (first | (with_reducible first | exact HB.out | apply below_alloc | apply pw_below_drewN | apply below_drew1) | exact HB.out)) hb); clear HB; have HB := n0_; clear n0_; (try clear hb); (try clear hb2); (try clear hk); (try clear hi)) | ((with_reducible refine gate_dst (N := 54) rfl ?_); refine Kd.R_lit (Kd.int .u8) _ 5 ?hg (N := 54) ?hd (xs := ([a2] : List Int)) (inner := [.int .u8 a2]) (ok := fun _ => True) (okp := fun _ => True) ?hr ?hp (fun _ hk => hk) trivial (Below.refl _ _) (Nat.le_refl _) (by simp) ?_; (case hd => rfl); (case hg => rfl); (case hr => first | (go_simp; done) | (go_simp; rfl)); (case hp => exact (Reps.one (show Kd.M (Kd.int .u8) _ _ _ a2 [.int .u8 a2] from rfl) (Reps.none _ _))); intro v221 w61 ho62 hb hg_ hnew_; clear hg_ hnew_; (first | rw [← Ny220.out] at ho62 | (simp only [Int.reduceToNat] at ho62; rw [← Ny220.out] at ho62)); have n0_ := Aside0.mk (Kd.R_lower ho62 (below_size (by repeat (first | (with_reducible first | exact HB.out | apply below_alloc | apply pw_below_drewN | apply below_drew1) | exact HB.out)))); have n1_ := Aside0.mk (below_step (by repeat (first | (with_reducible first | exact HB.out | apply below_alloc | apply pw_below_drewN | apply below_drew1) | exact HB.out)) hb); clear HB; have HO222 := n0_; have HB := n1_; clear n0_ n1_; clear hb ho62; have hcv63 := own_string (P := Try.prog) Try.underlying34 Try.underlying5 Try.underlying9 (Kd.own_of_R HO222.out)) | ((with_reducible refine gate_callee (f := 10) rfl ?_); refine goesL_ (some 60) rfl rfl Try.func10 (by kernel_rfl) rfl #[.int .i64 (wrap64 (Int.tmod a0 3)), .string (t213 ++ (strOfNums y220))] rfl (by (try simp only [List.map_toArray, List.map_cons, List.map_nil]); first | done | rfl | (simp only [List.length_drop, List.length_take]; rfl)) ?_; (with_reducible refine (word_Live.calls k1 (wrap64 (Int.tmod a0 3)) (t213 ++ (strOfNums y220)) t223 _ A17.out).mono ?_); rintro e w64 ⟨rfl, hb⟩; refine ⟨_, rfl, ?_⟩; have n0_ := Aside0.mk (Kd.R_below (by (with_reducible repeat (first | apply Kd.R_alloc | apply Kd.R_drewN | apply Kd.R_drew)); exact HO222.out) hb); have n1_ := Aside0.mk (below_step (by repeat (first | (with_reducible first | exact HB.out | apply below_alloc | apply pw_below_drewN | apply below_drew1) | exact HB.out)) hb); clear HO222; clear HB; have HO222 := n0_; have HB := n1_; clear n0_ n1_; (try clear hb); (try clear hb2); (try clear hk); (try clear hi)) | (go_at_call 15; (with_reducible refine (word_Rest.calls (wrap64 (Int.tmod a0 3)) t218 t224 _ A25.out).mono ?_); rintro e w65 ⟨rfl, hb⟩; have n0_ := Aside0.mk (Kd.R_below (by (with_reducible repeat (first | apply Kd.R_alloc | apply Kd.R_drewN | apply Kd.R_drew)); exact HO222.out) hb); have n1_ := Aside0.mk (below_step (by repeat (first | (with_reducible first | exact HB.out | apply below_alloc | apply pw_below_drewN | apply below_drew1) | exact HB.out)) hb); clear HO222; clear HB; have HO222 := n0_; have HB := n1_; clear n0_ n1_; (try clear hb); (try clear hb2); (try clear hk); (try clear hi)) | (go_at_call 11; (with_reducible refine (word_Whole.calls k1 (wrap64 (Int.tmod a0 3)) ((t213 ++ (strOfNums y220)) ++ t224) true _ A27.out).mono ?_); rintro e w66 ⟨rfl, hb⟩; have n0_ := Aside0.mk (Kd.R_below (by (with_reducible repeat (first | apply Kd.R_alloc | apply Kd.R_drewN | apply Kd.R_drew)); exact HO222.out) hb); have n1_ := Aside0.mk (below_step (by repeat (first | (with_reducible first | exact HB.out | apply below_alloc | apply pw_below_drewN | apply below_drew1) | exact HB.out)) hb); clear HO222; clear HB; have HO222 := n0_; have HB := n1_; clear n0_ n1_; (try clear hb); (try clear hb2); (try clear hk); (try clear hi)) | (go_at_call 16; (with_reducible refine (word_Ends.calls (wrap64 (Int.tmod a0 3)) t218 t226 _ A29.out).mono ?_); rintro e w67 ⟨rfl, hb⟩; have n0_ := Aside0.mk (Kd.R_below (by (with_reducible repeat (first | apply Kd.R_alloc | apply Kd.R_drewN | apply Kd.R_drew)); exact HO222.out) hb); have n1_ := Aside0.mk (below_step (by repeat (first | (with_reducible first | exact HB.out | apply below_alloc | apply pw_below_drewN | apply below_drew1) | exact HB.out)) hb); clear HO222; clear HB; have HO222 := n0_; have HB := n1_; clear n0_ n1_; (try clear hb); (try clear hb2); (try clear hk); (try clear hi)) | (go_at_call 11; (with_reducible refine (word_Whole.calls k1 (wrap64 (Int.tmod a0 3)) (t213 ++ (strOfNums y220)) t227 _ A30.out).mono ?_); rintro e w68 ⟨rfl, hb⟩; have n0_ := Aside0.mk (Kd.R_below (by (with_reducible repeat (first | apply Kd.R_alloc | apply Kd.R_drewN | apply Kd.R_drew)); exact HO222.out) hb); have n1_ := Aside0.mk (below_step (by repeat (first | (with_reducible first | exact HB.out | apply below_alloc | apply pw_below_drewN | apply below_drew1) | exact HB.out)) hb); clear HO222; clear HB; have HO222 := n0_; have HB := n1_; clear n0_ n1_; (try clear hb); (try clear hb2); (try clear hk); (try clear hi)))
                      go_ret
                      exact ⟨by first | rfl | (simp [errW_none, errW_some] <;> rfl) | (simp [*, errW_none, errW_some] <;> rfl), by repeat (first | (with_reducible first | exact HB.out | apply below_alloc | apply pw_below_drewN | apply below_drew1) | exact HB.out)⟩
                  · replace c28 := Bool.eq_false_iff.mpr c28
                    subst c28
                    have H1 : (some false) = some r := by rw [if_neg (show ¬ (false = true) by decide)] at H; exact H
                    clear H
                    have H := H1
                    clear H1
                    obtain rfl := Option.some.inj H
                    go_wp2_with (first | ((with_reducible refine gate_callee (f := 17) rfl ?_); refine goesL_ (some 49) rfl rfl Try.func17 (by kernel_rfl) rfl #[.int .i64 (wrap64 (Int.tmod a0 3)), .int .i64 x8_1, .int .u8 a2] rfl (by (try simp only [List.map_toArray, List.map_cons, List.map_nil]); first | done | rfl | (simp only [List.length_drop, List.length_take]; rfl)) ?_; (with_reducible refine (word_Step.calls k1 (wrap64 (Int.tmod a0 3)) x8_1 a2 t218 true _ A15.out).mono ?_); rintro e w69 ⟨rfl, hb⟩; refine ⟨_, rfl, ?_⟩; have n0_ := Aside0.mk (below_step (by repeat (first | (with_reducible first | exact HB.out | apply below_alloc | apply pw_below_drewN | apply below_drew1) | exact HB.out)) hb); clear HB; have HB := n0_; clear n0_; (try clear hb); (try clear hb2); (try clear hk); (try clear hi)) | ((with_reducible refine gate_dst (N := 54) rfl ?_); refine Kd.R_lit (Kd.int .u8) _ 5 ?hg (N := 54) ?hd (xs := ([a2] : List Int)) (inner := [.int .u8 a2]) (ok := fun _ => True) (okp := fun _ => True) ?hr ?hp (fun _ hk => hk) trivial (Below.refl _ _) (Nat.le_refl _) (by simp) ?_; (case hd => rfl); (case hg => rfl); (case hr => first | (go_simp; done) | (go_simp; rfl)); (case hp => exact (Reps.one (show Kd.M (Kd.int .u8) _ _ _ a2 [.int .u8 a2] from rfl) (Reps.none _ _))); intro v221 w70 ho71 hb hg_ hnew_; clear hg_ hnew_; (first | rw [← Ny220.out] at ho71 | (simp only [Int.reduceToNat] at ho71; rw [← Ny220.out] at ho71)); have n0_ := Aside0.mk (Kd.R_lower ho71 (below_size (by repeat (first | (with_reducible first | exact HB.out | apply below_alloc | apply pw_below_drewN | apply below_drew1) | exact HB.out)))); have n1_ := Aside0.mk (below_step (by repeat (first | (with_reducible first | exact HB.out | apply below_alloc | apply pw_below_drewN | apply below_drew1) | exact HB.out)) hb); clear HB; have HO222 := n0_; have HB := n1_; clear n0_ n1_; clear hb ho71; have hcv72 := own_string (P := Try.prog) Try.underlying34 Try.underlying5 Try.underlying9 (Kd.own_of_R HO222.out)) | ((with_reducible refine gate_callee (f := 10) rfl ?_); refine goesL_ (some 60) rfl rfl Try.func10 (by kernel_rfl) rfl #[.int .i64 (wrap64 (Int.tmod a0 3)), .string (t213 ++ (strOfNums y220))] rfl (by (try simp only [List.map_toArray, List.map_cons, List.map_nil]); first | done | rfl | (simp only [List.length_drop, List.length_take]; rfl)) ?_; (with_reducible refine (word_Live.calls k1 (wrap64 (Int.tmod a0 3)) (t213 ++ (strOfNums y220)) t223 _ A17.out).mono ?_); rintro e w73 ⟨rfl, hb⟩; refine ⟨_, rfl, ?_⟩; have n0_ := Aside0.mk (Kd.R_below (by (with_reducible repeat (first | apply Kd.R_alloc | apply Kd.R_drewN | apply Kd.R_drew)); exact HO222.out) hb); have n1_ := Aside0.mk (below_step (by repeat (first | (with_reducible first | exact HB.out | apply below_alloc | apply pw_below_drewN | apply below_drew1) | exact HB.out)) hb); clear HO222; clear HB; have HO222 := n0_; have HB := n1_; clear n0_ n1_; (try clear hb); (try clear hb2); (try clear hk); (try clear hi)) | (go_at_call 15; (with_reducible refine (word_Rest.calls (wrap64 (Int.tmod a0 3)) t218 t224 _ A25.out).mono ?_); rintro e w74 ⟨rfl, hb⟩; have n0_ := Aside0.mk (Kd.R_below (by (with_reducible repeat (first | apply Kd.R_alloc | apply Kd.R_drewN | apply Kd.R_drew)); exact HO222.out) hb); have n1_ := Aside0.mk (below_step (by repeat (first | (with_reducible first | exact HB.out | apply below_alloc | apply pw_below_drewN | apply below_drew1) | exact HB.out)) hb); clear HO222; clear HB; have HO222 := n0_; have HB := n1_; clear n0_ n1_; (try clear hb); (try clear hb2); (try clear hk); (try clear hi)) | (go_at_call 11; (with_reducible refine (word_Whole.calls k1 (wrap64 (Int.tmod a0 3)) ((t213 ++ (strOfNums y220)) ++ t224) false _ A27.out).mono ?_); rintro e w75 ⟨rfl, hb⟩; have n0_ := Aside0.mk (Kd.R_below (by (with_reducible repeat (first | apply Kd.R_alloc | apply Kd.R_drewN | apply Kd.R_drew)); exact HO222.out) hb); have n1_ := Aside0.mk (below_step (by repeat (first | (with_reducible first | exact HB.out | apply below_alloc | apply pw_below_drewN | apply below_drew1) | exact HB.out)) hb); clear HO222; clear HB; have HO222 := n0_; have HB := n1_; clear n0_ n1_; (try clear hb); (try clear hb2); (try clear hk); (try clear hi)))
                    go_ret
                    exact ⟨by first | rfl | (simp [errW_none, errW_some] <;> rfl) | (simp [*, errW_none, errW_some] <;> rfl), by repeat (first | (with_reducible first | exact HB.out | apply below_alloc | apply pw_below_drewN | apply below_drew1) | exact HB.out)⟩
                · rw [if_neg c26] at H
                  exact absurd H (by simp)
              · replace c24 := Bool.eq_false_iff.mpr c24
                subst c24
                have H1 : ((word_Rest.f (wrap64 (Int.tmod a0 3)) x8_1).bind fun t231 => (if t213.size + t231.size ≤ 9223372036854775807 then ((word_Whole.f k1 (wrap64 (Int.tmod a0 3)) (t213 ++ t231)).bind fun t232 => (if t232 = true then ((graftwoodlaw06_awake.f k1).bind fun t233 => (some t233)) else (some false))) else (none))) = some r := by rw [if_neg (show ¬ (false = true) by decide)] at H; exact H
                clear H
                have H := H1
                clear H1
                replace H := Option.bind_eq_some_iff.mp H
                obtain ⟨t231, A760, H⟩ := H
                replace H : (if t213.size + t231.size ≤ 9223372036854775807 then ((word_Whole.f k1 (wrap64 (Int.tmod a0 3)) (t213 ++ t231)).bind fun t232 => (if t232 = true then ((graftwoodlaw06_awake.f k1).bind fun t233 => (some t233)) else (some false))) else (none)) = some r := H
                have A76 := Aside0.mk A760
                clear A760
                by_cases c77 : t213.size + t231.size ≤ 9223372036854775807
                · rw [if_pos c77] at H
                  have c77b0 := eq_true c77
                  have c77b1 : decide (t213.size + t231.size ≤ 9223372036854775807) = true := decide_eq_true c77
                  try have c77b2 : (9223372036854775807 < t213.size + t231.size) = False := eq_false (Nat.not_lt.2 c77)
                  replace H := Option.bind_eq_some_iff.mp H
                  obtain ⟨t232, A780, H⟩ := H
                  replace H : (if t232 = true then ((graftwoodlaw06_awake.f k1).bind fun t233 => (some t233)) else (some false)) = some r := H
                  have A78 := Aside0.mk A780
                  clear A780
                  by_cases c79 : t232 = true
                  · subst c79
                    have H1 : ((graftwoodlaw06_awake.f k1).bind fun t233 => (some t233)) = some r := by rw [if_pos rfl] at H; exact H
                    clear H
                    have H := H1
                    clear H1
                    replace H := Option.bind_eq_some_iff.mp H
                    obtain ⟨t233, A800, H⟩ := H
                    replace H : (some t233) = some r := H
                    have A80 := Aside0.mk A800
                    clear A800
                    obtain rfl := Option.some.inj H
                    go_wp2_with (first | ((with_reducible refine gate_callee (f := 17) rfl ?_); refine goesL_ (some 49) rfl rfl Try.func17 (by kernel_rfl) rfl #[.int .i64 (wrap64 (Int.tmod a0 3)), .int .i64 x8_1, .int .u8 a2] rfl (by (try simp only [List.map_toArray, List.map_cons, List.map_nil]); first | done | rfl | (simp only [List.length_drop, List.length_take]; rfl)) ?_; (with_reducible refine (word_Step.calls k1 (wrap64 (Int.tmod a0 3)) x8_1 a2 t218 false _ A15.out).mono ?_); rintro e w81 ⟨rfl, hb⟩; refine ⟨_, rfl, ?_⟩; have n0_ := Aside0.mk (below_step (by repeat (first | (with_reducible first | exact HB.out | apply below_alloc | apply pw_below_drewN | apply below_drew1) | exact HB.out)) hb); clear HB; have HB := n0_; clear n0_; (try clear hb); (try clear hb2); (try clear hk); (try clear hi)) | ((with_reducible refine gate_dst (N := 54) rfl ?_); refine Kd.R_lit (Kd.int .u8) _ 5 ?hg (N := 54) ?hd (xs := ([a2] : List Int)) (inner := [.int .u8 a2]) (ok := fun _ => True) (okp := fun _ => True) ?hr ?hp (fun _ hk => hk) trivial (Below.refl _ _) (Nat.le_refl _) (by simp) ?_; (case hd => rfl); (case hg => rfl); (case hr => first | (go_simp; done) | (go_simp; rfl)); (case hp => exact (Reps.one (show Kd.M (Kd.int .u8) _ _ _ a2 [.int .u8 a2] from rfl) (Reps.none _ _))); intro v221 w82 ho83 hb hg_ hnew_; clear hg_ hnew_; (first | rw [← Ny220.out] at ho83 | (simp only [Int.reduceToNat] at ho83; rw [← Ny220.out] at ho83)); have n0_ := Aside0.mk (Kd.R_lower ho83 (below_size (by repeat (first | (with_reducible first | exact HB.out | apply below_alloc | apply pw_below_drewN | apply below_drew1) | exact HB.out)))); have n1_ := Aside0.mk (below_step (by repeat (first | (with_reducible first | exact HB.out | apply below_alloc | apply pw_below_drewN | apply below_drew1) | exact HB.out)) hb); clear HB; have HO222 := n0_; have HB := n1_; clear n0_ n1_; clear hb ho83; have hcv84 := own_string (P := Try.prog) Try.underlying34 Try.underlying5 Try.underlying9 (Kd.own_of_R HO222.out)) | ((with_reducible refine gate_callee (f := 10) rfl ?_); refine goesL_ (some 60) rfl rfl Try.func10 (by kernel_rfl) rfl #[.int .i64 (wrap64 (Int.tmod a0 3)), .string (t213 ++ (strOfNums y220))] rfl (by (try simp only [List.map_toArray, List.map_cons, List.map_nil]); first | done | rfl | (simp only [List.length_drop, List.length_take]; rfl)) ?_; (with_reducible refine (word_Live.calls k1 (wrap64 (Int.tmod a0 3)) (t213 ++ (strOfNums y220)) t223 _ A17.out).mono ?_); rintro e w85 ⟨rfl, hb⟩; refine ⟨_, rfl, ?_⟩; have n0_ := Aside0.mk (Kd.R_below (by (with_reducible repeat (first | apply Kd.R_alloc | apply Kd.R_drewN | apply Kd.R_drew)); exact HO222.out) hb); have n1_ := Aside0.mk (below_step (by repeat (first | (with_reducible first | exact HB.out | apply below_alloc | apply pw_below_drewN | apply below_drew1) | exact HB.out)) hb); clear HO222; clear HB; have HO222 := n0_; have HB := n1_; clear n0_ n1_; (try clear hb); (try clear hb2); (try clear hk); (try clear hi)) | (go_at_call 15; (with_reducible refine (word_Rest.calls (wrap64 (Int.tmod a0 3)) x8_1 t231 _ A76.out).mono ?_); rintro e w86 ⟨rfl, hb⟩; have n0_ := Aside0.mk (Kd.R_below (by (with_reducible repeat (first | apply Kd.R_alloc | apply Kd.R_drewN | apply Kd.R_drew)); exact HO222.out) hb); have n1_ := Aside0.mk (below_step (by repeat (first | (with_reducible first | exact HB.out | apply below_alloc | apply pw_below_drewN | apply below_drew1) | exact HB.out)) hb); clear HO222; clear HB; have HO222 := n0_; have HB := n1_; clear n0_ n1_; (try clear hb); (try clear hb2); (try clear hk); (try clear hi)) | (go_at_call 11; (with_reducible refine (word_Whole.calls k1 (wrap64 (Int.tmod a0 3)) (t213 ++ t231) true _ A78.out).mono ?_); rintro e w87 ⟨rfl, hb⟩; have n0_ := Aside0.mk (Kd.R_below (by (with_reducible repeat (first | apply Kd.R_alloc | apply Kd.R_drewN | apply Kd.R_drew)); exact HO222.out) hb); have n1_ := Aside0.mk (below_step (by repeat (first | (with_reducible first | exact HB.out | apply below_alloc | apply pw_below_drewN | apply below_drew1) | exact HB.out)) hb); clear HO222; clear HB; have HO222 := n0_; have HB := n1_; clear n0_ n1_; (try clear hb); (try clear hb2); (try clear hk); (try clear hi)) | (go_at_call 12; (with_reducible refine (graftwoodlaw06_awake.calls k1  t233 _ A80.out).mono ?_); rintro e w88 ⟨rfl, hb⟩; have n0_ := Aside0.mk (Kd.R_below (by (with_reducible repeat (first | apply Kd.R_alloc | apply Kd.R_drewN | apply Kd.R_drew)); exact HO222.out) hb); have n1_ := Aside0.mk (below_step (by repeat (first | (with_reducible first | exact HB.out | apply below_alloc | apply pw_below_drewN | apply below_drew1) | exact HB.out)) hb); clear HO222; clear HB; have HO222 := n0_; have HB := n1_; clear n0_ n1_; (try clear hb); (try clear hb2); (try clear hk); (try clear hi)))
                    go_ret
                    exact ⟨by first | rfl | (simp [errW_none, errW_some] <;> rfl) | (simp [*, errW_none, errW_some] <;> rfl), by repeat (first | (with_reducible first | exact HB.out | apply below_alloc | apply pw_below_drewN | apply below_drew1) | exact HB.out)⟩
                  · replace c79 := Bool.eq_false_iff.mpr c79
                    subst c79
                    have H1 : (some false) = some r := by rw [if_neg (show ¬ (false = true) by decide)] at H; exact H
                    clear H
                    have H := H1
                    clear H1
                    obtain rfl := Option.some.inj H
                    go_wp2_with (first | ((with_reducible refine gate_callee (f := 17) rfl ?_); refine goesL_ (some 49) rfl rfl Try.func17 (by kernel_rfl) rfl #[.int .i64 (wrap64 (Int.tmod a0 3)), .int .i64 x8_1, .int .u8 a2] rfl (by (try simp only [List.map_toArray, List.map_cons, List.map_nil]); first | done | rfl | (simp only [List.length_drop, List.length_take]; rfl)) ?_; (with_reducible refine (word_Step.calls k1 (wrap64 (Int.tmod a0 3)) x8_1 a2 t218 false _ A15.out).mono ?_); rintro e w89 ⟨rfl, hb⟩; refine ⟨_, rfl, ?_⟩; have n0_ := Aside0.mk (below_step (by repeat (first | (with_reducible first | exact HB.out | apply below_alloc | apply pw_below_drewN | apply below_drew1) | exact HB.out)) hb); clear HB; have HB := n0_; clear n0_; (try clear hb); (try clear hb2); (try clear hk); (try clear hi)) | ((with_reducible refine gate_dst (N := 54) rfl ?_); refine Kd.R_lit (Kd.int .u8) _ 5 ?hg (N := 54) ?hd (xs := ([a2] : List Int)) (inner := [.int .u8 a2]) (ok := fun _ => True) (okp := fun _ => True) ?hr ?hp (fun _ hk => hk) trivial (Below.refl _ _) (Nat.le_refl _) (by simp) ?_; (case hd => rfl); (case hg => rfl); (case hr => first | (go_simp; done) | (go_simp; rfl)); (case hp => exact (Reps.one (show Kd.M (Kd.int .u8) _ _ _ a2 [.int .u8 a2] from rfl) (Reps.none _ _))); intro v221 w90 ho91 hb hg_ hnew_; clear hg_ hnew_; (first | rw [← Ny220.out] at ho91 | (simp only [Int.reduceToNat] at ho91; rw [← Ny220.out] at ho91)); have n0_ := Aside0.mk (Kd.R_lower ho91 (below_size (by repeat (first | (with_reducible first | exact HB.out | apply below_alloc | apply pw_below_drewN | apply below_drew1) | exact HB.out)))); have n1_ := Aside0.mk (below_step (by repeat (first | (with_reducible first | exact HB.out | apply below_alloc | apply pw_below_drewN | apply below_drew1) | exact HB.out)) hb); clear HB; have HO222 := n0_; have HB := n1_; clear n0_ n1_; clear hb ho91; have hcv92 := own_string (P := Try.prog) Try.underlying34 Try.underlying5 Try.underlying9 (Kd.own_of_R HO222.out)) | ((with_reducible refine gate_callee (f := 10) rfl ?_); refine goesL_ (some 60) rfl rfl Try.func10 (by kernel_rfl) rfl #[.int .i64 (wrap64 (Int.tmod a0 3)), .string (t213 ++ (strOfNums y220))] rfl (by (try simp only [List.map_toArray, List.map_cons, List.map_nil]); first | done | rfl | (simp only [List.length_drop, List.length_take]; rfl)) ?_; (with_reducible refine (word_Live.calls k1 (wrap64 (Int.tmod a0 3)) (t213 ++ (strOfNums y220)) t223 _ A17.out).mono ?_); rintro e w93 ⟨rfl, hb⟩; refine ⟨_, rfl, ?_⟩; have n0_ := Aside0.mk (Kd.R_below (by (with_reducible repeat (first | apply Kd.R_alloc | apply Kd.R_drewN | apply Kd.R_drew)); exact HO222.out) hb); have n1_ := Aside0.mk (below_step (by repeat (first | (with_reducible first | exact HB.out | apply below_alloc | apply pw_below_drewN | apply below_drew1) | exact HB.out)) hb); clear HO222; clear HB; have HO222 := n0_; have HB := n1_; clear n0_ n1_; (try clear hb); (try clear hb2); (try clear hk); (try clear hi)) | (go_at_call 15; (with_reducible refine (word_Rest.calls (wrap64 (Int.tmod a0 3)) x8_1 t231 _ A76.out).mono ?_); rintro e w94 ⟨rfl, hb⟩; have n0_ := Aside0.mk (Kd.R_below (by (with_reducible repeat (first | apply Kd.R_alloc | apply Kd.R_drewN | apply Kd.R_drew)); exact HO222.out) hb); have n1_ := Aside0.mk (below_step (by repeat (first | (with_reducible first | exact HB.out | apply below_alloc | apply pw_below_drewN | apply below_drew1) | exact HB.out)) hb); clear HO222; clear HB; have HO222 := n0_; have HB := n1_; clear n0_ n1_; (try clear hb); (try clear hb2); (try clear hk); (try clear hi)) | (go_at_call 11; (with_reducible refine (word_Whole.calls k1 (wrap64 (Int.tmod a0 3)) (t213 ++ t231) false _ A78.out).mono ?_); rintro e w95 ⟨rfl, hb⟩; have n0_ := Aside0.mk (Kd.R_below (by (with_reducible repeat (first | apply Kd.R_alloc | apply Kd.R_drewN | apply Kd.R_drew)); exact HO222.out) hb); have n1_ := Aside0.mk (below_step (by repeat (first | (with_reducible first | exact HB.out | apply below_alloc | apply pw_below_drewN | apply below_drew1) | exact HB.out)) hb); clear HO222; clear HB; have HO222 := n0_; have HB := n1_; clear n0_ n1_; (try clear hb); (try clear hb2); (try clear hk); (try clear hi)))
                    go_ret
                    exact ⟨by first | rfl | (simp [errW_none, errW_some] <;> rfl) | (simp [*, errW_none, errW_some] <;> rfl), by repeat (first | (with_reducible first | exact HB.out | apply below_alloc | apply pw_below_drewN | apply below_drew1) | exact HB.out)⟩
                · rw [if_neg c77] at H
                  exact absurd H (by simp)
          · rw [if_neg c16] at H
            exact absurd H (by simp)
  · rw [if_neg c6] at H
    have c6b0 : (t214 == (t213.size : Int)) = false := beq_eq_false_iff_ne.mpr c6
    have c6b1 : (t214 != (t213.size : Int)) = true := bne_iff_ne.mpr c6
    replace H := Option.bind_eq_some_iff.mp H
    obtain ⟨t215, A960, H⟩ := H
    replace H : (some t215) = some r := H
    have A96 := Aside0.mk A960
    clear A960
    obtain rfl := Option.some.inj H
    go_enter Try.func8, Try.ntmps8
    go_wp2_with (first | ((with_reducible refine gate_callee (f := 9) rfl ?_); refine goesL_ (some 16) rfl rfl Try.func9 (by kernel_rfl) rfl #[.string a1] rfl (by (try simp only [List.map_toArray, List.map_cons, List.map_nil]); first | done | rfl | (simp only [List.length_drop, List.length_take]; rfl)) ?_; (with_reducible refine (graftwoodlaw06_Few.calls a1 t213 _ A4.out).mono ?_); rintro e w' ⟨rfl, ⟨nd, rfl⟩⟩; refine ⟨_, rfl, ?_⟩) | ((with_reducible refine gate_callee (f := 10) rfl ?_); refine goesL_ (some 22) rfl rfl Try.func10 (by kernel_rfl) rfl #[.int .i64 (wrap64 (Int.tmod a0 3)), .string t213] rfl (by (try simp only [List.map_toArray, List.map_cons, List.map_nil]); first | done | rfl | (simp only [List.length_drop, List.length_take]; rfl)) ?_; (with_reducible refine (word_Live.calls k (wrap64 (Int.tmod a0 3)) t213 t214 _ A5.out).mono ?_); rintro e w97 ⟨rfl, hb⟩; refine ⟨_, rfl, ?_⟩; have n0_ := Aside0.mk (below_step (by repeat (first | (with_reducible first | exact HB.out | apply below_alloc | apply pw_below_drewN | apply below_drew1) | exact HB.out)) hb); clear HB; have HB := n0_; clear n0_; (try clear hb); (try clear hb2); (try clear hk); (try clear hi)) | ((with_reducible refine gate_callee (f := 12) rfl ?_); refine goesL_ (some 26) rfl rfl Try.func12 (by kernel_rfl) rfl #[] rfl (by (try simp only [List.map_toArray, List.map_cons, List.map_nil]); first | done | rfl | (simp only [List.length_drop, List.length_take]; rfl)) ?_; (with_reducible refine (graftwoodlaw06_awake.calls k  t215 _ A96.out).mono ?_); rintro e w98 ⟨rfl, hb⟩; refine ⟨_, rfl, ?_⟩; have n0_ := Aside0.mk (below_step (by repeat (first | (with_reducible first | exact HB.out | apply below_alloc | apply pw_below_drewN | apply below_drew1) | exact HB.out)) hb); clear HB; have HB := n0_; clear n0_; (try clear hb); (try clear hb2); (try clear hk); (try clear hi)))
    go_ret
    exact ⟨by first | rfl | (simp [errW_none, errW_some] <;> rfl) | (simp [*, errW_none, errW_some] <;> rfl), by repeat (first | (with_reducible first | exact HB.out | apply below_alloc | apply pw_below_drewN | apply below_drew1) | exact HB.out)⟩

/-- THE ONE PURE STATEMENT of graftwoodlaw06_WordOnward: yours. -/
def graftwoodlaw06_WordOnward.Pure : Prop := ∀ (a0 : Int) (a1 : ByteArray) (a2 : Int), (Lit.int .u8 a0).wf = true → a1.size ≤ 140737488351232 → (Lit.int .u8 a2).wf = true → ∃ k, graftwoodlaw06_WordOnward.f k a0 a1 a2 = some true
theorem graftwoodlaw06_WordOnward.walk (P : graftwoodlaw06_WordOnward.Pure) (a0 : Int) (a1 : ByteArray) (a2 : Int) (w : World) (w0 : (Lit.int .u8 a0).wf = true) (w1 : a1.size ≤ 140737488351232) (w2 : (Lit.int .u8 a2).wf = true) :
    Calls Try.prog 8 #[.int .u8 a0, .string a1, .int .u8 a2] w fun e w' => e = .returned (.bool true) ∧ Below w.heap.size w w' := by
  obtain ⟨k, h⟩ := P a0 a1 a2 w0 w1 w2
  refine (graftwoodlaw06_WordOnward.calls k a0 a1 a2 true w h).mono ?_
  rintro e w' ⟨rfl, hd⟩
  exact ⟨rfl, hd⟩

end Go.Proofs.Ytbkcjgjcnnggbaa.Q
