/- Word: the printed functions of this seat and their contracts: what each answers, at arguments that its contract names (text Q5 of the print). Written by my program wip/tools/myprint.py out of the kit's print and my own contracts. -/
import Derived.Test.YtbkcjgjcnnggbaaQ0
import Derived.Test.YtbkcjgjcnnggbaaQ1
import Derived.Test.YtbkcjgjcnnggbaaExt2
namespace Go.Proofs.Ytbkcjgjcnnggbaa.Q
open Go.RowKit Go.Proofs.YtbkcjgjcnnggbaaW.PrintWords Go.Proofs.YtbkcjgjcnnggbaaW.PrintLast Go.Proofs.YtbkcjgjcnnggbaaW.PrintMore
attribute [local go_sem] max2_int min2_int max_two min_two max_three min_three max_four min_four   -- for this text's walks alone
set_option linter.unusedVariables false
set_option linter.unusedSimpArgs false

/-! ### graftwoodlaw06_WordLives: function 4 -/
mutual
def graftwoodlaw06_WordLives.j0 : Nat → ByteArray → ByteArray → Int → Int → Bool → Option (Bool)
  | 0, _, _, _, _, _ => none
  | k + 1, x1, x2, x7, x8, x60 => if x60 = true then (some false) else (graftwoodlaw06_WordLives.l0 k x1 x2 x7 x8 0)
def graftwoodlaw06_WordLives.l0 : Nat → ByteArray → ByteArray → Int → Int → Int → Option (Bool)
  | 0, _, _, _, _, _ => none
  | k + 1, x1, x2, x7, x8, x10 => if x10 ≤ x8 then (if 0 ≤ x10 then (if x10 ≤ (x1.size : Int) then ((word_Live.f k x7 (x1.extract 0 (x10 : Int).toNat)).bind fun t175 => (if t175 = x10 then (graftwoodlaw06_WordLives.l0 k x1 x2 x7 x8 (wrap64 (x10 + 1))) else (some false))) else (none)) else (none)) else (if x8 = (x1.size : Int) then ((graftwoodlaw06_awake.f k).bind fun t176 => (some t176)) else ((word_Whole.f k x7 x1).bind fun t177 => (if t177 = true then (some false) else (if x1.size + x2.size ≤ 9223372036854775807 then ((word_Whole.f k x7 (x1 ++ x2)).bind fun t178 => (if t178 = true then (some false) else ((graftwoodlaw06_awake.f k).bind fun t179 => (some t179)))) else (none)))))
end
def graftwoodlaw06_WordLives.f (k : Nat) (a0 : Int) (a1 : ByteArray) (a2 : ByteArray) : Option (Bool) := (graftwoodlaw06_Few.f a1).bind fun t169 => ((graftwoodlaw06_Few.f a2).bind fun t170 => ((word_Live.f k (wrap64 (Int.tmod a0 3)) t169).bind fun t171 => (if t169.size + t170.size ≤ 9223372036854775807 then ((word_Live.f k (wrap64 (Int.tmod a0 3)) (t169 ++ t170)).bind fun t172 => (if t171 < 0 then (graftwoodlaw06_WordLives.j0 k t169 t170 (wrap64 (Int.tmod a0 3)) t171 true) else (if t171 > (t169.size : Int) then (graftwoodlaw06_WordLives.j0 k t169 t170 (wrap64 (Int.tmod a0 3)) t171 true) else (if t172 < t171 then (graftwoodlaw06_WordLives.j0 k t169 t170 (wrap64 (Int.tmod a0 3)) t171 true) else (if t171 < (t169.size : Int) then (if t172 = t171 then ((word_Whole.f k (wrap64 (Int.tmod a0 3)) t169).bind fun t173 => (if t173 = true then (graftwoodlaw06_WordLives.j0 k t169 t170 (wrap64 (Int.tmod a0 3)) t171 (t171 != (t169.size : Int))) else (graftwoodlaw06_WordLives.j0 k t169 t170 (wrap64 (Int.tmod a0 3)) t171 false))) else (graftwoodlaw06_WordLives.j0 k t169 t170 (wrap64 (Int.tmod a0 3)) t171 true)) else ((word_Whole.f k (wrap64 (Int.tmod a0 3)) t169).bind fun t174 => (if t174 = true then (graftwoodlaw06_WordLives.j0 k t169 t170 (wrap64 (Int.tmod a0 3)) t171 (t171 != (t169.size : Int))) else (graftwoodlaw06_WordLives.j0 k t169 t170 (wrap64 (Int.tmod a0 3)) t171 false)))))))) else (none))))
theorem graftwoodlaw06_WordLives.mono_l : ∀ k, (∀ y0 y1 y2 y3 y4, LeO (graftwoodlaw06_WordLives.j0 k y0 y1 y2 y3 y4) (graftwoodlaw06_WordLives.j0 (k + 1) y0 y1 y2 y3 y4)) ∧ (∀ y0 y1 y2 y3 y4, LeO (graftwoodlaw06_WordLives.l0 k y0 y1 y2 y3 y4) (graftwoodlaw06_WordLives.l0 (k + 1) y0 y1 y2 y3 y4))
  | 0 => ⟨fun _ _ _ _ _ r h => by simp [graftwoodlaw06_WordLives.j0] at h, fun _ _ _ _ _ r h => by simp [graftwoodlaw06_WordLives.l0] at h⟩
  | k + 1 => by
    obtain ⟨ih0, ih1⟩ := graftwoodlaw06_WordLives.mono_l k
    refine ⟨?_, ?_⟩
    · intro y0 y1 y2 y3 y4
      unfold graftwoodlaw06_WordLives.j0
      repeat' first
      | (with_reducible exact ih0 _ _ _ _ _)
      | (with_reducible exact ih1 _ _ _ _ _)
      | (with_reducible exact graftwoodlaw06_awake.mono _)
      | (with_reducible exact word_Live.mono _ _ _)
      | (with_reducible exact word_Whole.mono _ _ _)
      | (with_reducible exact LeO.refl _)
      | (with_reducible exact LeO.none _)
      | (with_reducible refine LeO.ite ?_ ?_)
      | (with_reducible refine LeO.bind ?_ (fun _ => ?_))
      | exact ih0 _ _ _ _ _
      | exact ih1 _ _ _ _ _
      | exact graftwoodlaw06_awake.mono _
      | exact word_Live.mono _ _ _
      | exact word_Whole.mono _ _ _
      | exact LeO.none _
      | refine LeO.ite ?_ ?_
      | refine LeO.bind ?_ (fun _ => ?_)
    · intro y0 y1 y2 y3 y4
      unfold graftwoodlaw06_WordLives.l0
      repeat' first
      | (with_reducible exact ih0 _ _ _ _ _)
      | (with_reducible exact ih1 _ _ _ _ _)
      | (with_reducible exact graftwoodlaw06_awake.mono _)
      | (with_reducible exact word_Live.mono _ _ _)
      | (with_reducible exact word_Whole.mono _ _ _)
      | (with_reducible exact LeO.refl _)
      | (with_reducible exact LeO.none _)
      | (with_reducible refine LeO.ite ?_ ?_)
      | (with_reducible refine LeO.bind ?_ (fun _ => ?_))
      | exact ih0 _ _ _ _ _
      | exact ih1 _ _ _ _ _
      | exact graftwoodlaw06_awake.mono _
      | exact word_Live.mono _ _ _
      | exact word_Whole.mono _ _ _
      | exact LeO.none _
      | refine LeO.ite ?_ ?_
      | refine LeO.bind ?_ (fun _ => ?_)
theorem graftwoodlaw06_WordLives.mono : ∀ a0 a1 a2 k, LeO (graftwoodlaw06_WordLives.f k a0 a1 a2) (graftwoodlaw06_WordLives.f (k + 1) a0 a1 a2) := by
  intro a0 a1 a2 k
  obtain ⟨ih0, ih1⟩ := graftwoodlaw06_WordLives.mono_l k
  unfold graftwoodlaw06_WordLives.f
  repeat' first
      | (with_reducible exact ih0 _ _ _ _ _)
      | (with_reducible exact ih1 _ _ _ _ _)
      | (with_reducible exact graftwoodlaw06_awake.mono _)
      | (with_reducible exact word_Live.mono _ _ _)
      | (with_reducible exact word_Whole.mono _ _ _)
      | (with_reducible exact LeO.refl _)
      | (with_reducible exact LeO.none _)
      | (with_reducible refine LeO.ite ?_ ?_)
      | (with_reducible refine LeO.bind ?_ (fun _ => ?_))
      | exact ih0 _ _ _ _ _
      | exact ih1 _ _ _ _ _
      | exact graftwoodlaw06_awake.mono _
      | exact word_Live.mono _ _ _
      | exact word_Whole.mono _ _ _
      | exact LeO.none _
      | refine LeO.ite ?_ ?_
      | refine LeO.bind ?_ (fun _ => ?_)
set_option maxHeartbeats 8000000 in
set_option maxRecDepth 100000 in
theorem graftwoodlaw06_WordLives.calls (k : Nat) (a0 : Int) (a1 : ByteArray) (a2 : ByteArray) (r : Bool) (w : World) (h : graftwoodlaw06_WordLives.f k a0 a1 a2 = some r) :
    Calls Try.prog 4 #[.int .u8 a0, .string a1, .string a2] w fun e w' => e = .returned (.bool r) ∧ Below w.heap.size w w' := by
  have HB := Aside0.mk (Below.refl w.heap.size w)
  have H : ((graftwoodlaw06_Few.f a1).bind fun t169 => ((graftwoodlaw06_Few.f a2).bind fun t170 => ((word_Live.f k (wrap64 (Int.tmod a0 3)) t169).bind fun t171 => (if t169.size + t170.size ≤ 9223372036854775807 then ((word_Live.f k (wrap64 (Int.tmod a0 3)) (t169 ++ t170)).bind fun t172 => (if t171 < 0 then (graftwoodlaw06_WordLives.j0 k t169 t170 (wrap64 (Int.tmod a0 3)) t171 true) else (if t171 > (t169.size : Int) then (graftwoodlaw06_WordLives.j0 k t169 t170 (wrap64 (Int.tmod a0 3)) t171 true) else (if t172 < t171 then (graftwoodlaw06_WordLives.j0 k t169 t170 (wrap64 (Int.tmod a0 3)) t171 true) else (if t171 < (t169.size : Int) then (if t172 = t171 then ((word_Whole.f k (wrap64 (Int.tmod a0 3)) t169).bind fun t173 => (if t173 = true then (graftwoodlaw06_WordLives.j0 k t169 t170 (wrap64 (Int.tmod a0 3)) t171 (t171 != (t169.size : Int))) else (graftwoodlaw06_WordLives.j0 k t169 t170 (wrap64 (Int.tmod a0 3)) t171 false))) else (graftwoodlaw06_WordLives.j0 k t169 t170 (wrap64 (Int.tmod a0 3)) t171 true)) else ((word_Whole.f k (wrap64 (Int.tmod a0 3)) t169).bind fun t174 => (if t174 = true then (graftwoodlaw06_WordLives.j0 k t169 t170 (wrap64 (Int.tmod a0 3)) t171 (t171 != (t169.size : Int))) else (graftwoodlaw06_WordLives.j0 k t169 t170 (wrap64 (Int.tmod a0 3)) t171 false)))))))) else (none))))) = some r := h
  clear h
  replace H := Option.bind_eq_some_iff.mp H
  obtain ⟨t169, A40, H⟩ := H
  replace H : ((graftwoodlaw06_Few.f a2).bind fun t170 => ((word_Live.f k (wrap64 (Int.tmod a0 3)) t169).bind fun t171 => (if t169.size + t170.size ≤ 9223372036854775807 then ((word_Live.f k (wrap64 (Int.tmod a0 3)) (t169 ++ t170)).bind fun t172 => (if t171 < 0 then (graftwoodlaw06_WordLives.j0 k t169 t170 (wrap64 (Int.tmod a0 3)) t171 true) else (if t171 > (t169.size : Int) then (graftwoodlaw06_WordLives.j0 k t169 t170 (wrap64 (Int.tmod a0 3)) t171 true) else (if t172 < t171 then (graftwoodlaw06_WordLives.j0 k t169 t170 (wrap64 (Int.tmod a0 3)) t171 true) else (if t171 < (t169.size : Int) then (if t172 = t171 then ((word_Whole.f k (wrap64 (Int.tmod a0 3)) t169).bind fun t173 => (if t173 = true then (graftwoodlaw06_WordLives.j0 k t169 t170 (wrap64 (Int.tmod a0 3)) t171 (t171 != (t169.size : Int))) else (graftwoodlaw06_WordLives.j0 k t169 t170 (wrap64 (Int.tmod a0 3)) t171 false))) else (graftwoodlaw06_WordLives.j0 k t169 t170 (wrap64 (Int.tmod a0 3)) t171 true)) else ((word_Whole.f k (wrap64 (Int.tmod a0 3)) t169).bind fun t174 => (if t174 = true then (graftwoodlaw06_WordLives.j0 k t169 t170 (wrap64 (Int.tmod a0 3)) t171 (t171 != (t169.size : Int))) else (graftwoodlaw06_WordLives.j0 k t169 t170 (wrap64 (Int.tmod a0 3)) t171 false)))))))) else (none)))) = some r := H
  have A4 := Aside0.mk A40
  clear A40
  replace H := Option.bind_eq_some_iff.mp H
  obtain ⟨t170, A50, H⟩ := H
  replace H : ((word_Live.f k (wrap64 (Int.tmod a0 3)) t169).bind fun t171 => (if t169.size + t170.size ≤ 9223372036854775807 then ((word_Live.f k (wrap64 (Int.tmod a0 3)) (t169 ++ t170)).bind fun t172 => (if t171 < 0 then (graftwoodlaw06_WordLives.j0 k t169 t170 (wrap64 (Int.tmod a0 3)) t171 true) else (if t171 > (t169.size : Int) then (graftwoodlaw06_WordLives.j0 k t169 t170 (wrap64 (Int.tmod a0 3)) t171 true) else (if t172 < t171 then (graftwoodlaw06_WordLives.j0 k t169 t170 (wrap64 (Int.tmod a0 3)) t171 true) else (if t171 < (t169.size : Int) then (if t172 = t171 then ((word_Whole.f k (wrap64 (Int.tmod a0 3)) t169).bind fun t173 => (if t173 = true then (graftwoodlaw06_WordLives.j0 k t169 t170 (wrap64 (Int.tmod a0 3)) t171 (t171 != (t169.size : Int))) else (graftwoodlaw06_WordLives.j0 k t169 t170 (wrap64 (Int.tmod a0 3)) t171 false))) else (graftwoodlaw06_WordLives.j0 k t169 t170 (wrap64 (Int.tmod a0 3)) t171 true)) else ((word_Whole.f k (wrap64 (Int.tmod a0 3)) t169).bind fun t174 => (if t174 = true then (graftwoodlaw06_WordLives.j0 k t169 t170 (wrap64 (Int.tmod a0 3)) t171 (t171 != (t169.size : Int))) else (graftwoodlaw06_WordLives.j0 k t169 t170 (wrap64 (Int.tmod a0 3)) t171 false)))))))) else (none))) = some r := H
  have A5 := Aside0.mk A50
  clear A50
  replace H := Option.bind_eq_some_iff.mp H
  obtain ⟨t171, A60, H⟩ := H
  replace H : (if t169.size + t170.size ≤ 9223372036854775807 then ((word_Live.f k (wrap64 (Int.tmod a0 3)) (t169 ++ t170)).bind fun t172 => (if t171 < 0 then (graftwoodlaw06_WordLives.j0 k t169 t170 (wrap64 (Int.tmod a0 3)) t171 true) else (if t171 > (t169.size : Int) then (graftwoodlaw06_WordLives.j0 k t169 t170 (wrap64 (Int.tmod a0 3)) t171 true) else (if t172 < t171 then (graftwoodlaw06_WordLives.j0 k t169 t170 (wrap64 (Int.tmod a0 3)) t171 true) else (if t171 < (t169.size : Int) then (if t172 = t171 then ((word_Whole.f k (wrap64 (Int.tmod a0 3)) t169).bind fun t173 => (if t173 = true then (graftwoodlaw06_WordLives.j0 k t169 t170 (wrap64 (Int.tmod a0 3)) t171 (t171 != (t169.size : Int))) else (graftwoodlaw06_WordLives.j0 k t169 t170 (wrap64 (Int.tmod a0 3)) t171 false))) else (graftwoodlaw06_WordLives.j0 k t169 t170 (wrap64 (Int.tmod a0 3)) t171 true)) else ((word_Whole.f k (wrap64 (Int.tmod a0 3)) t169).bind fun t174 => (if t174 = true then (graftwoodlaw06_WordLives.j0 k t169 t170 (wrap64 (Int.tmod a0 3)) t171 (t171 != (t169.size : Int))) else (graftwoodlaw06_WordLives.j0 k t169 t170 (wrap64 (Int.tmod a0 3)) t171 false)))))))) else (none)) = some r := H
  have A6 := Aside0.mk A60
  clear A60
  by_cases c7 : t169.size + t170.size ≤ 9223372036854775807
  · rw [if_pos c7] at H
    have c7b0 := eq_true c7
    have c7b1 : decide (t169.size + t170.size ≤ 9223372036854775807) = true := decide_eq_true c7
    try have c7b2 : (9223372036854775807 < t169.size + t170.size) = False := eq_false (Nat.not_lt.2 c7)
    replace H := Option.bind_eq_some_iff.mp H
    obtain ⟨t172, A80, H⟩ := H
    replace H : (if t171 < 0 then (graftwoodlaw06_WordLives.j0 k t169 t170 (wrap64 (Int.tmod a0 3)) t171 true) else (if t171 > (t169.size : Int) then (graftwoodlaw06_WordLives.j0 k t169 t170 (wrap64 (Int.tmod a0 3)) t171 true) else (if t172 < t171 then (graftwoodlaw06_WordLives.j0 k t169 t170 (wrap64 (Int.tmod a0 3)) t171 true) else (if t171 < (t169.size : Int) then (if t172 = t171 then ((word_Whole.f k (wrap64 (Int.tmod a0 3)) t169).bind fun t173 => (if t173 = true then (graftwoodlaw06_WordLives.j0 k t169 t170 (wrap64 (Int.tmod a0 3)) t171 (t171 != (t169.size : Int))) else (graftwoodlaw06_WordLives.j0 k t169 t170 (wrap64 (Int.tmod a0 3)) t171 false))) else (graftwoodlaw06_WordLives.j0 k t169 t170 (wrap64 (Int.tmod a0 3)) t171 true)) else ((word_Whole.f k (wrap64 (Int.tmod a0 3)) t169).bind fun t174 => (if t174 = true then (graftwoodlaw06_WordLives.j0 k t169 t170 (wrap64 (Int.tmod a0 3)) t171 (t171 != (t169.size : Int))) else (graftwoodlaw06_WordLives.j0 k t169 t170 (wrap64 (Int.tmod a0 3)) t171 false))))))) = some r := H
    have A8 := Aside0.mk A80
    clear A80
    have HC9 := Aside0.mk H
    clear H
    go_enter Try.func4, Try.ntmps4
    go_upto_region 4 with (first | ((with_reducible refine gate_callee (f := 9) rfl ?_); refine goesL_ (some 12) rfl rfl Try.func9 (by kernel_rfl) rfl #[.string a1] rfl (by (try simp only [List.map_toArray, List.map_cons, List.map_nil]); first | done | rfl | (simp only [List.length_drop, List.length_take]; rfl)) ?_; (with_reducible refine (graftwoodlaw06_Few.calls a1 t169 _ A4.out).mono ?_); rintro e w' ⟨rfl, ⟨nd, rfl⟩⟩; refine ⟨_, rfl, ?_⟩) | ((with_reducible refine gate_callee (f := 9) rfl ?_); refine goesL_ (some 14) rfl rfl Try.func9 (by kernel_rfl) rfl #[.string a2] rfl (by (try simp only [List.map_toArray, List.map_cons, List.map_nil]); first | done | rfl | (simp only [List.length_drop, List.length_take]; rfl)) ?_; (with_reducible refine (graftwoodlaw06_Few.calls a2 t170 _ A5.out).mono ?_); rintro e w' ⟨rfl, ⟨nd, rfl⟩⟩; refine ⟨_, rfl, ?_⟩) | ((with_reducible refine gate_callee (f := 10) rfl ?_); refine goesL_ (some 20) rfl rfl Try.func10 (by kernel_rfl) rfl #[.int .i64 (wrap64 (Int.tmod a0 3)), .string t169] rfl (by (try simp only [List.map_toArray, List.map_cons, List.map_nil]); first | done | rfl | (simp only [List.length_drop, List.length_take]; rfl)) ?_; (with_reducible refine (word_Live.calls k (wrap64 (Int.tmod a0 3)) t169 t171 _ A6.out).mono ?_); rintro e w10 ⟨rfl, hb⟩; refine ⟨_, rfl, ?_⟩; have n0_ := Aside0.mk (below_step (by repeat (first | (with_reducible first | exact HB.out | apply below_alloc | apply pw_below_drewN | apply below_drew1) | exact HB.out)) hb); clear HB; have HB := n0_; clear n0_; (try clear hb); (try clear hb2); (try clear hk); (try clear hi)) | ((with_reducible refine gate_callee (f := 10) rfl ?_); refine goesL_ (some 25) rfl rfl Try.func10 (by kernel_rfl) rfl #[.int .i64 (wrap64 (Int.tmod a0 3)), .string (t169 ++ t170)] rfl (by (try simp only [List.map_toArray, List.map_cons, List.map_nil]); first | done | rfl | (simp only [List.length_drop, List.length_take]; rfl)) ?_; (with_reducible refine (word_Live.calls k (wrap64 (Int.tmod a0 3)) (t169 ++ t170) t172 _ A8.out).mono ?_); rintro e w11 ⟨rfl, hb⟩; refine ⟨_, rfl, ?_⟩; have n0_ := Aside0.mk (below_step (by repeat (first | (with_reducible first | exact HB.out | apply below_alloc | apply pw_below_drewN | apply below_drew1) | exact HB.out)) hb); clear HB; have HB := n0_; clear n0_; (try clear hb); (try clear hb2); (try clear hk); (try clear hi)))
    (try simp only [Act.put, List.setIfInBounds_toArray, List.set_cons_zero, List.set_cons_succ])
    go_cut [60] (fun v60 wc => ∃ (kq : Nat) (x60_8 : Bool), v60 = .bool x60_8 ∧ Aside0 (graftwoodlaw06_WordLives.j0 kq t169 t170 (wrap64 (Int.tmod a0 3)) t171 x60_8 = some r) ∧ Aside0 (kq ≤ k) ∧ Aside0 (Below w.heap.size w wc))
    case first =>
      have H := HC9.out
      clear HC9
      by_cases c12 : t171 < 0
      · rw [if_pos c12] at H
        have c12b0 : decide (t171 < 0) = true := decide_eq_true c12
        clear c12
        (first | rw [c12b0] | (simp only [i64_w, i32_w]; rw [c12b0]) | skip)
        have H' := Aside0.mk H
        clear H
        go_wp2
        go_meet
        case rel => exact ⟨_, (true), (by first | rfl | (simp; done) | (simp [*]; done)), H', ⟨by first | omega | exact Nat.le_refl _⟩, ⟨by repeat (first | (with_reducible first | exact HB.out | apply below_alloc | apply pw_below_drewN | apply below_drew1) | exact HB.out)⟩⟩
      · rw [if_neg c12] at H
        have c12b0 : decide (t171 < 0) = false := decide_eq_false c12
        clear c12
        (first | rw [c12b0] | (simp only [i64_w, i32_w]; rw [c12b0]) | skip)
        by_cases c13 : t171 > (t169.size : Int)
        · rw [if_pos c13] at H
          have c13b0 : decide ((t169.size : Int) < t171) = true := decide_eq_true c13
          clear c13
          have H' := Aside0.mk H
          clear H
          go_wp2
          go_meet
          case rel => exact ⟨_, (true), (by first | rfl | (simp; done) | (simp [*]; done)), H', ⟨by first | omega | exact Nat.le_refl _⟩, ⟨by repeat (first | (with_reducible first | exact HB.out | apply below_alloc | apply pw_below_drewN | apply below_drew1) | exact HB.out)⟩⟩
        · rw [if_neg c13] at H
          have c13b0 : decide ((t169.size : Int) < t171) = false := decide_eq_false c13
          clear c13
          by_cases c14 : t172 < t171
          · rw [if_pos c14] at H
            have c14b0 : decide (t172 < t171) = true := decide_eq_true c14
            clear c14
            have H' := Aside0.mk H
            clear H
            go_wp2
            go_meet
            case rel => exact ⟨_, (true), (by first | rfl | (simp; done) | (simp [*]; done)), H', ⟨by first | omega | exact Nat.le_refl _⟩, ⟨by repeat (first | (with_reducible first | exact HB.out | apply below_alloc | apply pw_below_drewN | apply below_drew1) | exact HB.out)⟩⟩
          · rw [if_neg c14] at H
            have c14b0 : decide (t172 < t171) = false := decide_eq_false c14
            clear c14
            by_cases c15 : t171 < (t169.size : Int)
            · rw [if_pos c15] at H
              have c15b0 : decide (t171 < (t169.size : Int)) = true := decide_eq_true c15
              clear c15
              by_cases c16 : t172 = t171
              · rw [if_pos c16] at H
                have c16b0 : (t172 == t171) = true := beq_iff_eq.mpr c16
                have c16b1 : (t172 != t171) = false := bne_eq_false_iff_eq.mpr c16
                clear c16
                replace H := Option.bind_eq_some_iff.mp H
                obtain ⟨t173, A170, H⟩ := H
                replace H : (if t173 = true then (graftwoodlaw06_WordLives.j0 k t169 t170 (wrap64 (Int.tmod a0 3)) t171 (t171 != (t169.size : Int))) else (graftwoodlaw06_WordLives.j0 k t169 t170 (wrap64 (Int.tmod a0 3)) t171 false)) = some r := H
                have A17 := Aside0.mk A170
                clear A170
                by_cases c18 : t173 = true
                · subst c18
                  have H1 : (graftwoodlaw06_WordLives.j0 k t169 t170 (wrap64 (Int.tmod a0 3)) t171 (t171 != (t169.size : Int))) = some r := by rw [if_pos rfl] at H; exact H
                  clear H
                  have H := H1
                  clear H1
                  have H' := Aside0.mk H
                  clear H
                  go_wp2_with (first | (go_at_call 11; (with_reducible refine (word_Whole.calls k (wrap64 (Int.tmod a0 3)) t169 true _ A17.out).mono ?_); rintro e w19 ⟨rfl, hb⟩; have n0_ := Aside0.mk (below_step (by repeat (first | (with_reducible first | exact HB.out | apply below_alloc | apply pw_below_drewN | apply below_drew1) | exact HB.out)) hb); clear HB; have HB := n0_; clear n0_; (try clear hb); (try clear hb2); (try clear hk); (try clear hi)))
                  go_meet
                  case rel => exact ⟨_, ((t171 != (t169.size : Int))), (by first | rfl | (simp; done) | (simp [*]; done)), H', ⟨by first | omega | exact Nat.le_refl _⟩, ⟨by repeat (first | (with_reducible first | exact HB.out | apply below_alloc | apply pw_below_drewN | apply below_drew1) | exact HB.out)⟩⟩
                · replace c18 := Bool.eq_false_iff.mpr c18
                  subst c18
                  have H1 : (graftwoodlaw06_WordLives.j0 k t169 t170 (wrap64 (Int.tmod a0 3)) t171 false) = some r := by rw [if_neg (show ¬ (false = true) by decide)] at H; exact H
                  clear H
                  have H := H1
                  clear H1
                  have H' := Aside0.mk H
                  clear H
                  go_wp2_with (first | (go_at_call 11; (with_reducible refine (word_Whole.calls k (wrap64 (Int.tmod a0 3)) t169 false _ A17.out).mono ?_); rintro e w20 ⟨rfl, hb⟩; have n0_ := Aside0.mk (below_step (by repeat (first | (with_reducible first | exact HB.out | apply below_alloc | apply pw_below_drewN | apply below_drew1) | exact HB.out)) hb); clear HB; have HB := n0_; clear n0_; (try clear hb); (try clear hb2); (try clear hk); (try clear hi)))
                  go_meet
                  case rel => exact ⟨_, (false), (by first | rfl | (simp; done) | (simp [*]; done)), H', ⟨by first | omega | exact Nat.le_refl _⟩, ⟨by repeat (first | (with_reducible first | exact HB.out | apply below_alloc | apply pw_below_drewN | apply below_drew1) | exact HB.out)⟩⟩
              · rw [if_neg c16] at H
                have c16b0 : (t172 == t171) = false := beq_eq_false_iff_ne.mpr c16
                have c16b1 : (t172 != t171) = true := bne_iff_ne.mpr c16
                have H' := Aside0.mk H
                clear H
                go_wp2
                go_meet
                case rel => exact ⟨_, (true), (by first | rfl | (simp; done) | (simp [*]; done)), H', ⟨by first | omega | exact Nat.le_refl _⟩, ⟨by repeat (first | (with_reducible first | exact HB.out | apply below_alloc | apply pw_below_drewN | apply below_drew1) | exact HB.out)⟩⟩
            · rw [if_neg c15] at H
              have c15b0 : decide (t171 < (t169.size : Int)) = false := decide_eq_false c15
              clear c15
              replace H := Option.bind_eq_some_iff.mp H
              obtain ⟨t174, A210, H⟩ := H
              replace H : (if t174 = true then (graftwoodlaw06_WordLives.j0 k t169 t170 (wrap64 (Int.tmod a0 3)) t171 (t171 != (t169.size : Int))) else (graftwoodlaw06_WordLives.j0 k t169 t170 (wrap64 (Int.tmod a0 3)) t171 false)) = some r := H
              have A21 := Aside0.mk A210
              clear A210
              by_cases c22 : t174 = true
              · subst c22
                have H1 : (graftwoodlaw06_WordLives.j0 k t169 t170 (wrap64 (Int.tmod a0 3)) t171 (t171 != (t169.size : Int))) = some r := by rw [if_pos rfl] at H; exact H
                clear H
                have H := H1
                clear H1
                have H' := Aside0.mk H
                clear H
                go_wp2_with (first | (go_at_call 11; (with_reducible refine (word_Whole.calls k (wrap64 (Int.tmod a0 3)) t169 true _ A21.out).mono ?_); rintro e w23 ⟨rfl, hb⟩; have n0_ := Aside0.mk (below_step (by repeat (first | (with_reducible first | exact HB.out | apply below_alloc | apply pw_below_drewN | apply below_drew1) | exact HB.out)) hb); clear HB; have HB := n0_; clear n0_; (try clear hb); (try clear hb2); (try clear hk); (try clear hi)))
                go_meet
                case rel => exact ⟨_, ((t171 != (t169.size : Int))), (by first | rfl | (simp; done) | (simp [*]; done)), H', ⟨by first | omega | exact Nat.le_refl _⟩, ⟨by repeat (first | (with_reducible first | exact HB.out | apply below_alloc | apply pw_below_drewN | apply below_drew1) | exact HB.out)⟩⟩
              · replace c22 := Bool.eq_false_iff.mpr c22
                subst c22
                have H1 : (graftwoodlaw06_WordLives.j0 k t169 t170 (wrap64 (Int.tmod a0 3)) t171 false) = some r := by rw [if_neg (show ¬ (false = true) by decide)] at H; exact H
                clear H
                have H := H1
                clear H1
                have H' := Aside0.mk H
                clear H
                go_wp2_with (first | (go_at_call 11; (with_reducible refine (word_Whole.calls k (wrap64 (Int.tmod a0 3)) t169 false _ A21.out).mono ?_); rintro e w24 ⟨rfl, hb⟩; have n0_ := Aside0.mk (below_step (by repeat (first | (with_reducible first | exact HB.out | apply below_alloc | apply pw_below_drewN | apply below_drew1) | exact HB.out)) hb); clear HB; have HB := n0_; clear n0_; (try clear hb); (try clear hb2); (try clear hk); (try clear hi)))
                go_meet
                case rel => exact ⟨_, (false), (by first | rfl | (simp; done) | (simp [*]; done)), H', ⟨by first | omega | exact Nat.le_refl _⟩, ⟨by repeat (first | (with_reducible first | exact HB.out | apply below_alloc | apply pw_below_drewN | apply below_drew1) | exact HB.out)⟩⟩
    case rest =>
      clear HC9
      try clear c1
      try clear c2
      try clear p2
      try clear c4
      try clear p6
      try clear c7
      try clear c7b0
      try clear c7b1
      try clear c7b2
      try clear c9
      try clear c10
      try clear c12
      try clear c12b0
      try clear c13
      try clear c13b0
      try clear c14
      try clear c14b0
      try clear c15
      try clear c15b0
      try clear c16
      try clear c16b0
      try clear c16b1
      try clear c18
      try clear c22
      obtain ⟨kq, x60_8, rfl, HA, HJ8, HB⟩ := hcut
      cases kq with
      | zero => exact absurd HA.out (by simp [graftwoodlaw06_WordLives.j0])
      | succ kj8 =>
        have H := HA.out
        clear HA
        simp only [graftwoodlaw06_WordLives.j0] at H
        by_cases c25 : x60_8 = true
        · subst c25
          have H1 : (some false) = some r := by rw [if_pos rfl] at H; exact H
          clear H
          have H := H1
          clear H1
          obtain rfl := Option.some.inj H
          go_wp2
          go_ret
          exact ⟨by first | rfl | (simp [errW_none, errW_some] <;> rfl) | (simp [*, errW_none, errW_some] <;> rfl), by repeat (first | (with_reducible first | exact HB.out | apply below_alloc | apply pw_below_drewN | apply below_drew1) | exact HB.out)⟩
        · replace c25 := Bool.eq_false_iff.mpr c25
          subst c25
          have H1 : (graftwoodlaw06_WordLives.l0 kj8 t169 t170 (wrap64 (Int.tmod a0 3)) t171 0) = some r := by rw [if_neg (show ¬ (false = true) by decide)] at H; exact H
          clear H
          have H := H1
          clear H1
          have H' := Aside0.mk H
          clear H
          go_wp2
          go_loopg [10] kj8 (fun kq v10 w' => ∃ (x10_2 : Int), v10 = .int .i64 x10_2 ∧ Aside0 (graftwoodlaw06_WordLives.l0 kq t169 t170 (wrap64 (Int.tmod a0 3)) t171 x10_2 = some r) ∧ Aside0 (kq ≤ kj8) ∧ Aside0 (Below w.heap.size w w'))
          case atStart => exact ⟨(0), (by first | rfl | (simp; done) | (simp [*]; done)), H', ⟨Nat.le_refl _⟩, ⟨by repeat (first | (with_reducible first | exact HB.out | apply below_alloc | apply pw_below_drewN | apply below_drew1) | exact HB.out)⟩⟩
          case round =>
            clear H'
            try clear c1
            try clear c2
            try clear p2
            try clear c4
            try clear p6
            try clear c7
            try clear c7b0
            try clear c7b1
            try clear c7b2
            try clear c9
            try clear c10
            try clear c12
            try clear c12b0
            try clear c13
            try clear c13b0
            try clear c14
            try clear c14b0
            try clear c15
            try clear c15b0
            try clear c16
            try clear c16b0
            try clear c16b1
            try clear c18
            try clear c22
            try clear c25
            try clear p2
            try clear p6
            obtain ⟨x10_2, rfl, HA, HK2, HB⟩ := hrel
            cases gk with
            | zero => exact absurd HA.out (by simp [graftwoodlaw06_WordLives.l0])
            | succ k2 =>
              have H := HA.out
              clear HA
              simp only [graftwoodlaw06_WordLives.l0] at H
              by_cases c26 : x10_2 ≤ t171
              · rw [if_pos c26] at H
                have c26b0 : decide (x10_2 ≤ t171) = true := decide_eq_true c26
                clear c26
                by_cases c27 : 0 ≤ x10_2
                · rw [if_pos c27] at H
                  have c27b0 := eq_true c27
                  have c27b1 : decide (0 ≤ x10_2) = true := decide_eq_true c27
                  clear c27
                  by_cases c28 : x10_2 ≤ (t169.size : Int)
                  · rw [if_pos c28] at H
                    have c28b0 := eq_true c28
                    have c28b1 : decide (x10_2 ≤ (t169.size : Int)) = true := decide_eq_true c28
                    clear c28
                    replace H := Option.bind_eq_some_iff.mp H
                    obtain ⟨t175, A290, H⟩ := H
                    replace H : (if t175 = x10_2 then (graftwoodlaw06_WordLives.l0 k2 t169 t170 (wrap64 (Int.tmod a0 3)) t171 (wrap64 (x10_2 + 1))) else (some false)) = some r := H
                    have A29 := Aside0.mk A290
                    clear A290
                    by_cases c30 : t175 = x10_2
                    · rw [if_pos c30] at H
                      have c30b0 : (t175 == x10_2) = true := beq_iff_eq.mpr c30
                      have c30b1 : (t175 != x10_2) = false := bne_eq_false_iff_eq.mpr c30
                      clear c30
                      have H' := Aside0.mk H
                      clear H
                      go_wp2_with (first | ((with_reducible refine gate_callee (f := 10) rfl ?_); refine goesL_ (some 70) rfl rfl Try.func10 (by kernel_rfl) rfl #[.int .i64 (wrap64 (Int.tmod a0 3)), .string (t169.extract 0 (x10_2 : Int).toNat)] rfl (by (try simp only [List.map_toArray, List.map_cons, List.map_nil]); first | done | rfl | (simp only [List.length_drop, List.length_take]; rfl)) ?_; (with_reducible refine (word_Live.calls k2 (wrap64 (Int.tmod a0 3)) (t169.extract 0 (x10_2 : Int).toNat) t175 _ A29.out).mono ?_); rintro e w31 ⟨rfl, hb⟩; refine ⟨_, rfl, ?_⟩; have n0_ := Aside0.mk (below_step (by repeat (first | (with_reducible first | exact HB.out | apply below_alloc | apply pw_below_drewN | apply below_drew1) | exact HB.out)) hb); clear HB; have HB := n0_; clear n0_; (try clear hb); (try clear hb2); (try clear hk); (try clear hi)))
                      go_roundg k2
                      case measure => have := HJ8.out; have := HK2.out; omega
                      case rel => exact ⟨(wrap64 (x10_2 + 1)), (by first | rfl | (simp; done) | (simp [*]; done)), H', ⟨by have := HJ8.out; have := HK2.out; omega⟩, ⟨by repeat (first | (with_reducible first | exact HB.out | apply below_alloc | apply pw_below_drewN | apply below_drew1) | exact HB.out)⟩⟩
                    · rw [if_neg c30] at H
                      have c30b0 : (t175 == x10_2) = false := beq_eq_false_iff_ne.mpr c30
                      have c30b1 : (t175 != x10_2) = true := bne_iff_ne.mpr c30
                      obtain rfl := Option.some.inj H
                      go_wp2_with (first | ((with_reducible refine gate_callee (f := 10) rfl ?_); refine goesL_ (some 70) rfl rfl Try.func10 (by kernel_rfl) rfl #[.int .i64 (wrap64 (Int.tmod a0 3)), .string (t169.extract 0 (x10_2 : Int).toNat)] rfl (by (try simp only [List.map_toArray, List.map_cons, List.map_nil]); first | done | rfl | (simp only [List.length_drop, List.length_take]; rfl)) ?_; (with_reducible refine (word_Live.calls k2 (wrap64 (Int.tmod a0 3)) (t169.extract 0 (x10_2 : Int).toNat) t175 _ A29.out).mono ?_); rintro e w32 ⟨rfl, hb⟩; refine ⟨_, rfl, ?_⟩; have n0_ := Aside0.mk (below_step (by repeat (first | (with_reducible first | exact HB.out | apply below_alloc | apply pw_below_drewN | apply below_drew1) | exact HB.out)) hb); clear HB; have HB := n0_; clear n0_; (try clear hb); (try clear hb2); (try clear hk); (try clear hi)))
                      go_ret
                      exact ⟨by first | rfl | (simp [errW_none, errW_some] <;> rfl) | (simp [*, errW_none, errW_some] <;> rfl), by repeat (first | (with_reducible first | exact HB.out | apply below_alloc | apply pw_below_drewN | apply below_drew1) | exact HB.out)⟩
                  · rw [if_neg c28] at H
                    exact absurd H (by simp)
                · rw [if_neg c27] at H
                  exact absurd H (by simp)
              · rw [if_neg c26] at H
                have c26b0 : decide (x10_2 ≤ t171) = false := decide_eq_false c26
                clear c26
                by_cases c33 : t171 = (t169.size : Int)
                · rw [if_pos c33] at H
                  have c33b0 : (t171 == (t169.size : Int)) = true := beq_iff_eq.mpr c33
                  have c33b1 : (t171 != (t169.size : Int)) = false := bne_eq_false_iff_eq.mpr c33
                  clear c33
                  replace H := Option.bind_eq_some_iff.mp H
                  obtain ⟨t176, A340, H⟩ := H
                  replace H : (some t176) = some r := H
                  have A34 := Aside0.mk A340
                  clear A340
                  obtain rfl := Option.some.inj H
                  go_wp2_with (first | (go_at_call 12; (with_reducible refine (graftwoodlaw06_awake.calls k2  t176 _ A34.out).mono ?_); rintro e w35 ⟨rfl, hb⟩; have n0_ := Aside0.mk (below_step (by repeat (first | (with_reducible first | exact HB.out | apply below_alloc | apply pw_below_drewN | apply below_drew1) | exact HB.out)) hb); clear HB; have HB := n0_; clear n0_; (try clear hb); (try clear hb2); (try clear hk); (try clear hi)))
                  go_ret
                  exact ⟨by first | rfl | (simp [errW_none, errW_some] <;> rfl) | (simp [*, errW_none, errW_some] <;> rfl), by repeat (first | (with_reducible first | exact HB.out | apply below_alloc | apply pw_below_drewN | apply below_drew1) | exact HB.out)⟩
                · rw [if_neg c33] at H
                  have c33b0 : (t171 == (t169.size : Int)) = false := beq_eq_false_iff_ne.mpr c33
                  have c33b1 : (t171 != (t169.size : Int)) = true := bne_iff_ne.mpr c33
                  replace H := Option.bind_eq_some_iff.mp H
                  obtain ⟨t177, A360, H⟩ := H
                  replace H : (if t177 = true then (some false) else (if t169.size + t170.size ≤ 9223372036854775807 then ((word_Whole.f k2 (wrap64 (Int.tmod a0 3)) (t169 ++ t170)).bind fun t178 => (if t178 = true then (some false) else ((graftwoodlaw06_awake.f k2).bind fun t179 => (some t179)))) else (none))) = some r := H
                  have A36 := Aside0.mk A360
                  clear A360
                  by_cases c37 : t177 = true
                  · subst c37
                    have H1 : (some false) = some r := by rw [if_pos rfl] at H; exact H
                    clear H
                    have H := H1
                    clear H1
                    obtain rfl := Option.some.inj H
                    go_wp2_with (first | (go_at_call 11; (with_reducible refine (word_Whole.calls k2 (wrap64 (Int.tmod a0 3)) t169 true _ A36.out).mono ?_); rintro e w38 ⟨rfl, hb⟩; have n0_ := Aside0.mk (below_step (by repeat (first | (with_reducible first | exact HB.out | apply below_alloc | apply pw_below_drewN | apply below_drew1) | exact HB.out)) hb); clear HB; have HB := n0_; clear n0_; (try clear hb); (try clear hb2); (try clear hk); (try clear hi)))
                    go_ret
                    exact ⟨by first | rfl | (simp [errW_none, errW_some] <;> rfl) | (simp [*, errW_none, errW_some] <;> rfl), by repeat (first | (with_reducible first | exact HB.out | apply below_alloc | apply pw_below_drewN | apply below_drew1) | exact HB.out)⟩
                  · replace c37 := Bool.eq_false_iff.mpr c37
                    subst c37
                    have H1 : (if t169.size + t170.size ≤ 9223372036854775807 then ((word_Whole.f k2 (wrap64 (Int.tmod a0 3)) (t169 ++ t170)).bind fun t178 => (if t178 = true then (some false) else ((graftwoodlaw06_awake.f k2).bind fun t179 => (some t179)))) else (none)) = some r := by rw [if_neg (show ¬ (false = true) by decide)] at H; exact H
                    clear H
                    have H := H1
                    clear H1
                    by_cases c39 : t169.size + t170.size ≤ 9223372036854775807
                    · rw [if_pos c39] at H
                      have c39b0 := eq_true c39
                      have c39b1 : decide (t169.size + t170.size ≤ 9223372036854775807) = true := decide_eq_true c39
                      try have c39b2 : (9223372036854775807 < t169.size + t170.size) = False := eq_false (Nat.not_lt.2 c39)
                      replace H := Option.bind_eq_some_iff.mp H
                      obtain ⟨t178, A400, H⟩ := H
                      replace H : (if t178 = true then (some false) else ((graftwoodlaw06_awake.f k2).bind fun t179 => (some t179))) = some r := H
                      have A40 := Aside0.mk A400
                      clear A400
                      by_cases c41 : t178 = true
                      · subst c41
                        have H1 : (some false) = some r := by rw [if_pos rfl] at H; exact H
                        clear H
                        have H := H1
                        clear H1
                        obtain rfl := Option.some.inj H
                        go_wp2_with (first | (go_at_call 11; (with_reducible refine (word_Whole.calls k2 (wrap64 (Int.tmod a0 3)) t169 false _ A36.out).mono ?_); rintro e w42 ⟨rfl, hb⟩; have n0_ := Aside0.mk (below_step (by repeat (first | (with_reducible first | exact HB.out | apply below_alloc | apply pw_below_drewN | apply below_drew1) | exact HB.out)) hb); clear HB; have HB := n0_; clear n0_; (try clear hb); (try clear hb2); (try clear hk); (try clear hi)) | (go_at_call 11; (with_reducible refine (word_Whole.calls k2 (wrap64 (Int.tmod a0 3)) (t169 ++ t170) true _ A40.out).mono ?_); rintro e w43 ⟨rfl, hb⟩; have n0_ := Aside0.mk (below_step (by repeat (first | (with_reducible first | exact HB.out | apply below_alloc | apply pw_below_drewN | apply below_drew1) | exact HB.out)) hb); clear HB; have HB := n0_; clear n0_; (try clear hb); (try clear hb2); (try clear hk); (try clear hi)))
                        go_ret
                        exact ⟨by first | rfl | (simp [errW_none, errW_some] <;> rfl) | (simp [*, errW_none, errW_some] <;> rfl), by repeat (first | (with_reducible first | exact HB.out | apply below_alloc | apply pw_below_drewN | apply below_drew1) | exact HB.out)⟩
                      · replace c41 := Bool.eq_false_iff.mpr c41
                        subst c41
                        have H1 : ((graftwoodlaw06_awake.f k2).bind fun t179 => (some t179)) = some r := by rw [if_neg (show ¬ (false = true) by decide)] at H; exact H
                        clear H
                        have H := H1
                        clear H1
                        replace H := Option.bind_eq_some_iff.mp H
                        obtain ⟨t179, A440, H⟩ := H
                        replace H : (some t179) = some r := H
                        have A44 := Aside0.mk A440
                        clear A440
                        obtain rfl := Option.some.inj H
                        go_wp2_with (first | (go_at_call 11; (with_reducible refine (word_Whole.calls k2 (wrap64 (Int.tmod a0 3)) t169 false _ A36.out).mono ?_); rintro e w45 ⟨rfl, hb⟩; have n0_ := Aside0.mk (below_step (by repeat (first | (with_reducible first | exact HB.out | apply below_alloc | apply pw_below_drewN | apply below_drew1) | exact HB.out)) hb); clear HB; have HB := n0_; clear n0_; (try clear hb); (try clear hb2); (try clear hk); (try clear hi)) | (go_at_call 11; (with_reducible refine (word_Whole.calls k2 (wrap64 (Int.tmod a0 3)) (t169 ++ t170) false _ A40.out).mono ?_); rintro e w46 ⟨rfl, hb⟩; have n0_ := Aside0.mk (below_step (by repeat (first | (with_reducible first | exact HB.out | apply below_alloc | apply pw_below_drewN | apply below_drew1) | exact HB.out)) hb); clear HB; have HB := n0_; clear n0_; (try clear hb); (try clear hb2); (try clear hk); (try clear hi)) | (go_at_call 12; (with_reducible refine (graftwoodlaw06_awake.calls k2  t179 _ A44.out).mono ?_); rintro e w47 ⟨rfl, hb⟩; have n0_ := Aside0.mk (below_step (by repeat (first | (with_reducible first | exact HB.out | apply below_alloc | apply pw_below_drewN | apply below_drew1) | exact HB.out)) hb); clear HB; have HB := n0_; clear n0_; (try clear hb); (try clear hb2); (try clear hk); (try clear hi)))
                        go_ret
                        exact ⟨by first | rfl | (simp [errW_none, errW_some] <;> rfl) | (simp [*, errW_none, errW_some] <;> rfl), by repeat (first | (with_reducible first | exact HB.out | apply below_alloc | apply pw_below_drewN | apply below_drew1) | exact HB.out)⟩
                    · rw [if_neg c39] at H
                      exact absurd H (by simp)
  · rw [if_neg c7] at H
    exact absurd H (by simp)

/-- THE ONE PURE STATEMENT of graftwoodlaw06_WordLives: yours. -/
def graftwoodlaw06_WordLives.Pure : Prop := ∀ (a0 : Int) (a1 : ByteArray) (a2 : ByteArray), (Lit.int .u8 a0).wf = true → a1.size ≤ 140737488351232 → a2.size ≤ 140737488351232 → ∃ k, graftwoodlaw06_WordLives.f k a0 a1 a2 = some true
theorem graftwoodlaw06_WordLives.walk (P : graftwoodlaw06_WordLives.Pure) (a0 : Int) (a1 : ByteArray) (a2 : ByteArray) (w : World) (w0 : (Lit.int .u8 a0).wf = true) (w1 : a1.size ≤ 140737488351232) (w2 : a2.size ≤ 140737488351232) :
    Calls Try.prog 4 #[.int .u8 a0, .string a1, .string a2] w fun e w' => e = .returned (.bool true) ∧ Below w.heap.size w w' := by
  obtain ⟨k, h⟩ := P a0 a1 a2 w0 w1 w2
  refine (graftwoodlaw06_WordLives.calls k a0 a1 a2 true w h).mono ?_
  rintro e w' ⟨rfl, hd⟩
  exact ⟨rfl, hd⟩

/-! ### graftwoodlaw06_WordKinds: function 5 -/
def graftwoodlaw06_WordKinds.f (k : Nat) (a0 : ByteArray) : Option (Bool) := (graftwoodlaw06_Few.f a0).bind fun t180 => ((word_Whole.f k 0 t180).bind fun t181 => ((word_Whole.f k 1 t180).bind fun t182 => ((word_Whole.f k 2 t180).bind fun t183 => (if t182 = true then (if t183 = true then (some false) else (if t181 = true then (if t180.toList = ([] : List UInt8) then (some false) else ((graftwoodlaw06_awake.f k).bind fun t184 => (some t184))) else (some false))) else (if t183 = true then (if t181 = true then (if t180.toList = ([] : List UInt8) then (some false) else ((graftwoodlaw06_awake.f k).bind fun t185 => (some t185))) else (some false)) else (if t180.toList = ([] : List UInt8) then (if t181 = true then (some false) else ((graftwoodlaw06_awake.f k).bind fun t186 => (some t186))) else ((graftwoodlaw06_awake.f k).bind fun t187 => (some t187))))))))
theorem graftwoodlaw06_WordKinds.mono : ∀ a0 k, LeO (graftwoodlaw06_WordKinds.f k a0) (graftwoodlaw06_WordKinds.f (k + 1) a0) := by
  intro a0 k
  unfold graftwoodlaw06_WordKinds.f
  repeat' first
      | (with_reducible exact graftwoodlaw06_awake.mono _)
      | (with_reducible exact word_Whole.mono _ _ _)
      | (with_reducible exact LeO.refl _)
      | (with_reducible exact LeO.none _)
      | (with_reducible refine LeO.ite ?_ ?_)
      | (with_reducible refine LeO.bind ?_ (fun _ => ?_))
      | exact graftwoodlaw06_awake.mono _
      | exact word_Whole.mono _ _ _
      | exact LeO.none _
      | refine LeO.ite ?_ ?_
      | refine LeO.bind ?_ (fun _ => ?_)
set_option maxHeartbeats 8000000 in
set_option maxRecDepth 100000 in
theorem graftwoodlaw06_WordKinds.calls (k : Nat) (a0 : ByteArray) (r : Bool) (w : World) (h : graftwoodlaw06_WordKinds.f k a0 = some r) :
    Calls Try.prog 5 #[.string a0] w fun e w' => e = .returned (.bool r) ∧ Below w.heap.size w w' := by
  have HB := Aside0.mk (Below.refl w.heap.size w)
  have H : ((graftwoodlaw06_Few.f a0).bind fun t180 => ((word_Whole.f k 0 t180).bind fun t181 => ((word_Whole.f k 1 t180).bind fun t182 => ((word_Whole.f k 2 t180).bind fun t183 => (if t182 = true then (if t183 = true then (some false) else (if t181 = true then (if t180.toList = ([] : List UInt8) then (some false) else ((graftwoodlaw06_awake.f k).bind fun t184 => (some t184))) else (some false))) else (if t183 = true then (if t181 = true then (if t180.toList = ([] : List UInt8) then (some false) else ((graftwoodlaw06_awake.f k).bind fun t185 => (some t185))) else (some false)) else (if t180.toList = ([] : List UInt8) then (if t181 = true then (some false) else ((graftwoodlaw06_awake.f k).bind fun t186 => (some t186))) else ((graftwoodlaw06_awake.f k).bind fun t187 => (some t187))))))))) = some r := h
  clear h
  replace H := Option.bind_eq_some_iff.mp H
  obtain ⟨t180, A20, H⟩ := H
  replace H : ((word_Whole.f k 0 t180).bind fun t181 => ((word_Whole.f k 1 t180).bind fun t182 => ((word_Whole.f k 2 t180).bind fun t183 => (if t182 = true then (if t183 = true then (some false) else (if t181 = true then (if t180.toList = ([] : List UInt8) then (some false) else ((graftwoodlaw06_awake.f k).bind fun t184 => (some t184))) else (some false))) else (if t183 = true then (if t181 = true then (if t180.toList = ([] : List UInt8) then (some false) else ((graftwoodlaw06_awake.f k).bind fun t185 => (some t185))) else (some false)) else (if t180.toList = ([] : List UInt8) then (if t181 = true then (some false) else ((graftwoodlaw06_awake.f k).bind fun t186 => (some t186))) else ((graftwoodlaw06_awake.f k).bind fun t187 => (some t187)))))))) = some r := H
  have A2 := Aside0.mk A20
  clear A20
  replace H := Option.bind_eq_some_iff.mp H
  obtain ⟨t181, A30, H⟩ := H
  replace H : ((word_Whole.f k 1 t180).bind fun t182 => ((word_Whole.f k 2 t180).bind fun t183 => (if t182 = true then (if t183 = true then (some false) else (if t181 = true then (if t180.toList = ([] : List UInt8) then (some false) else ((graftwoodlaw06_awake.f k).bind fun t184 => (some t184))) else (some false))) else (if t183 = true then (if t181 = true then (if t180.toList = ([] : List UInt8) then (some false) else ((graftwoodlaw06_awake.f k).bind fun t185 => (some t185))) else (some false)) else (if t180.toList = ([] : List UInt8) then (if t181 = true then (some false) else ((graftwoodlaw06_awake.f k).bind fun t186 => (some t186))) else ((graftwoodlaw06_awake.f k).bind fun t187 => (some t187))))))) = some r := H
  have A3 := Aside0.mk A30
  clear A30
  replace H := Option.bind_eq_some_iff.mp H
  obtain ⟨t182, A40, H⟩ := H
  replace H : ((word_Whole.f k 2 t180).bind fun t183 => (if t182 = true then (if t183 = true then (some false) else (if t181 = true then (if t180.toList = ([] : List UInt8) then (some false) else ((graftwoodlaw06_awake.f k).bind fun t184 => (some t184))) else (some false))) else (if t183 = true then (if t181 = true then (if t180.toList = ([] : List UInt8) then (some false) else ((graftwoodlaw06_awake.f k).bind fun t185 => (some t185))) else (some false)) else (if t180.toList = ([] : List UInt8) then (if t181 = true then (some false) else ((graftwoodlaw06_awake.f k).bind fun t186 => (some t186))) else ((graftwoodlaw06_awake.f k).bind fun t187 => (some t187)))))) = some r := H
  have A4 := Aside0.mk A40
  clear A40
  replace H := Option.bind_eq_some_iff.mp H
  obtain ⟨t183, A50, H⟩ := H
  replace H : (if t182 = true then (if t183 = true then (some false) else (if t181 = true then (if t180.toList = ([] : List UInt8) then (some false) else ((graftwoodlaw06_awake.f k).bind fun t184 => (some t184))) else (some false))) else (if t183 = true then (if t181 = true then (if t180.toList = ([] : List UInt8) then (some false) else ((graftwoodlaw06_awake.f k).bind fun t185 => (some t185))) else (some false)) else (if t180.toList = ([] : List UInt8) then (if t181 = true then (some false) else ((graftwoodlaw06_awake.f k).bind fun t186 => (some t186))) else ((graftwoodlaw06_awake.f k).bind fun t187 => (some t187))))) = some r := H
  have A5 := Aside0.mk A50
  clear A50
  by_cases c6 : t182 = true
  · subst c6
    have H1 : (if t183 = true then (some false) else (if t181 = true then (if t180.toList = ([] : List UInt8) then (some false) else ((graftwoodlaw06_awake.f k).bind fun t184 => (some t184))) else (some false))) = some r := by rw [if_pos rfl] at H; exact H
    clear H
    have H := H1
    clear H1
    by_cases c7 : t183 = true
    · subst c7
      have H1 : (some false) = some r := by rw [if_pos rfl] at H; exact H
      clear H
      have H := H1
      clear H1
      obtain rfl := Option.some.inj H
      go_enter Try.func5, Try.ntmps5
      go_wp2_with (first | ((with_reducible refine gate_callee (f := 9) rfl ?_); refine goesL_ (some 7) rfl rfl Try.func9 (by kernel_rfl) rfl #[.string a0] rfl (by (try simp only [List.map_toArray, List.map_cons, List.map_nil]); first | done | rfl | (simp only [List.length_drop, List.length_take]; rfl)) ?_; (with_reducible refine (graftwoodlaw06_Few.calls a0 t180 _ A2.out).mono ?_); rintro e w' ⟨rfl, ⟨nd, rfl⟩⟩; refine ⟨_, rfl, ?_⟩) | ((with_reducible refine gate_callee (f := 11) rfl ?_); refine goesL_ (some 9) rfl rfl Try.func11 (by kernel_rfl) rfl #[.int .i64 0, .string t180] rfl (by (try simp only [List.map_toArray, List.map_cons, List.map_nil]); first | done | rfl | (simp only [List.length_drop, List.length_take]; rfl)) ?_; (with_reducible refine (word_Whole.calls k 0 t180 t181 _ A3.out).mono ?_); rintro e w8 ⟨rfl, hb⟩; refine ⟨_, rfl, ?_⟩; have n0_ := Aside0.mk (below_step (by repeat (first | (with_reducible first | exact HB.out | apply below_alloc | apply pw_below_drewN | apply below_drew1) | exact HB.out)) hb); clear HB; have HB := n0_; clear n0_; (try clear hb); (try clear hb2); (try clear hk); (try clear hi)) | ((with_reducible refine gate_callee (f := 11) rfl ?_); refine goesL_ (some 11) rfl rfl Try.func11 (by kernel_rfl) rfl #[.int .i64 1, .string t180] rfl (by (try simp only [List.map_toArray, List.map_cons, List.map_nil]); first | done | rfl | (simp only [List.length_drop, List.length_take]; rfl)) ?_; (with_reducible refine (word_Whole.calls k 1 t180 true _ A4.out).mono ?_); rintro e w9 ⟨rfl, hb⟩; refine ⟨_, rfl, ?_⟩; have n0_ := Aside0.mk (below_step (by repeat (first | (with_reducible first | exact HB.out | apply below_alloc | apply pw_below_drewN | apply below_drew1) | exact HB.out)) hb); clear HB; have HB := n0_; clear n0_; (try clear hb); (try clear hb2); (try clear hk); (try clear hi)) | ((with_reducible refine gate_callee (f := 11) rfl ?_); refine goesL_ (some 13) rfl rfl Try.func11 (by kernel_rfl) rfl #[.int .i64 2, .string t180] rfl (by (try simp only [List.map_toArray, List.map_cons, List.map_nil]); first | done | rfl | (simp only [List.length_drop, List.length_take]; rfl)) ?_; (with_reducible refine (word_Whole.calls k 2 t180 true _ A5.out).mono ?_); rintro e w10 ⟨rfl, hb⟩; refine ⟨_, rfl, ?_⟩; have n0_ := Aside0.mk (below_step (by repeat (first | (with_reducible first | exact HB.out | apply below_alloc | apply pw_below_drewN | apply below_drew1) | exact HB.out)) hb); clear HB; have HB := n0_; clear n0_; (try clear hb); (try clear hb2); (try clear hk); (try clear hi)))
      go_ret
      exact ⟨by first | rfl | (simp [errW_none, errW_some] <;> rfl) | (simp [*, errW_none, errW_some] <;> rfl), by repeat (first | (with_reducible first | exact HB.out | apply below_alloc | apply pw_below_drewN | apply below_drew1) | exact HB.out)⟩
    · replace c7 := Bool.eq_false_iff.mpr c7
      subst c7
      have H1 : (if t181 = true then (if t180.toList = ([] : List UInt8) then (some false) else ((graftwoodlaw06_awake.f k).bind fun t184 => (some t184))) else (some false)) = some r := by rw [if_neg (show ¬ (false = true) by decide)] at H; exact H
      clear H
      have H := H1
      clear H1
      by_cases c11 : t181 = true
      · subst c11
        have H1 : (if t180.toList = ([] : List UInt8) then (some false) else ((graftwoodlaw06_awake.f k).bind fun t184 => (some t184))) = some r := by rw [if_pos rfl] at H; exact H
        clear H
        have H := H1
        clear H1
        by_cases c12 : t180.toList = ([] : List UInt8)
        · rw [if_pos c12] at H
          have c12b0 : (t180.toList == ([] : List UInt8)) = true := beq_iff_eq.mpr c12
          have c12b1 : (t180.toList != ([] : List UInt8)) = false := bne_eq_false_iff_eq.mpr c12
          clear c12
          obtain rfl := Option.some.inj H
          go_enter Try.func5, Try.ntmps5
          go_wp2_with (first | ((with_reducible refine gate_callee (f := 9) rfl ?_); refine goesL_ (some 7) rfl rfl Try.func9 (by kernel_rfl) rfl #[.string a0] rfl (by (try simp only [List.map_toArray, List.map_cons, List.map_nil]); first | done | rfl | (simp only [List.length_drop, List.length_take]; rfl)) ?_; (with_reducible refine (graftwoodlaw06_Few.calls a0 t180 _ A2.out).mono ?_); rintro e w' ⟨rfl, ⟨nd, rfl⟩⟩; refine ⟨_, rfl, ?_⟩) | ((with_reducible refine gate_callee (f := 11) rfl ?_); refine goesL_ (some 9) rfl rfl Try.func11 (by kernel_rfl) rfl #[.int .i64 0, .string t180] rfl (by (try simp only [List.map_toArray, List.map_cons, List.map_nil]); first | done | rfl | (simp only [List.length_drop, List.length_take]; rfl)) ?_; (with_reducible refine (word_Whole.calls k 0 t180 true _ A3.out).mono ?_); rintro e w13 ⟨rfl, hb⟩; refine ⟨_, rfl, ?_⟩; have n0_ := Aside0.mk (below_step (by repeat (first | (with_reducible first | exact HB.out | apply below_alloc | apply pw_below_drewN | apply below_drew1) | exact HB.out)) hb); clear HB; have HB := n0_; clear n0_; (try clear hb); (try clear hb2); (try clear hk); (try clear hi)) | ((with_reducible refine gate_callee (f := 11) rfl ?_); refine goesL_ (some 11) rfl rfl Try.func11 (by kernel_rfl) rfl #[.int .i64 1, .string t180] rfl (by (try simp only [List.map_toArray, List.map_cons, List.map_nil]); first | done | rfl | (simp only [List.length_drop, List.length_take]; rfl)) ?_; (with_reducible refine (word_Whole.calls k 1 t180 true _ A4.out).mono ?_); rintro e w14 ⟨rfl, hb⟩; refine ⟨_, rfl, ?_⟩; have n0_ := Aside0.mk (below_step (by repeat (first | (with_reducible first | exact HB.out | apply below_alloc | apply pw_below_drewN | apply below_drew1) | exact HB.out)) hb); clear HB; have HB := n0_; clear n0_; (try clear hb); (try clear hb2); (try clear hk); (try clear hi)) | ((with_reducible refine gate_callee (f := 11) rfl ?_); refine goesL_ (some 13) rfl rfl Try.func11 (by kernel_rfl) rfl #[.int .i64 2, .string t180] rfl (by (try simp only [List.map_toArray, List.map_cons, List.map_nil]); first | done | rfl | (simp only [List.length_drop, List.length_take]; rfl)) ?_; (with_reducible refine (word_Whole.calls k 2 t180 false _ A5.out).mono ?_); rintro e w15 ⟨rfl, hb⟩; refine ⟨_, rfl, ?_⟩; have n0_ := Aside0.mk (below_step (by repeat (first | (with_reducible first | exact HB.out | apply below_alloc | apply pw_below_drewN | apply below_drew1) | exact HB.out)) hb); clear HB; have HB := n0_; clear n0_; (try clear hb); (try clear hb2); (try clear hk); (try clear hi)))
          go_ret
          exact ⟨by first | rfl | (simp [errW_none, errW_some] <;> rfl) | (simp [*, errW_none, errW_some] <;> rfl), by repeat (first | (with_reducible first | exact HB.out | apply below_alloc | apply pw_below_drewN | apply below_drew1) | exact HB.out)⟩
        · rw [if_neg c12] at H
          have c12b0 : (t180.toList == ([] : List UInt8)) = false := beq_eq_false_iff_ne.mpr c12
          have c12b1 : (t180.toList != ([] : List UInt8)) = true := bne_iff_ne.mpr c12
          replace H := Option.bind_eq_some_iff.mp H
          obtain ⟨t184, A160, H⟩ := H
          replace H : (some t184) = some r := H
          have A16 := Aside0.mk A160
          clear A160
          obtain rfl := Option.some.inj H
          go_enter Try.func5, Try.ntmps5
          go_wp2_with (first | ((with_reducible refine gate_callee (f := 9) rfl ?_); refine goesL_ (some 7) rfl rfl Try.func9 (by kernel_rfl) rfl #[.string a0] rfl (by (try simp only [List.map_toArray, List.map_cons, List.map_nil]); first | done | rfl | (simp only [List.length_drop, List.length_take]; rfl)) ?_; (with_reducible refine (graftwoodlaw06_Few.calls a0 t180 _ A2.out).mono ?_); rintro e w' ⟨rfl, ⟨nd, rfl⟩⟩; refine ⟨_, rfl, ?_⟩) | ((with_reducible refine gate_callee (f := 11) rfl ?_); refine goesL_ (some 9) rfl rfl Try.func11 (by kernel_rfl) rfl #[.int .i64 0, .string t180] rfl (by (try simp only [List.map_toArray, List.map_cons, List.map_nil]); first | done | rfl | (simp only [List.length_drop, List.length_take]; rfl)) ?_; (with_reducible refine (word_Whole.calls k 0 t180 true _ A3.out).mono ?_); rintro e w17 ⟨rfl, hb⟩; refine ⟨_, rfl, ?_⟩; have n0_ := Aside0.mk (below_step (by repeat (first | (with_reducible first | exact HB.out | apply below_alloc | apply pw_below_drewN | apply below_drew1) | exact HB.out)) hb); clear HB; have HB := n0_; clear n0_; (try clear hb); (try clear hb2); (try clear hk); (try clear hi)) | ((with_reducible refine gate_callee (f := 11) rfl ?_); refine goesL_ (some 11) rfl rfl Try.func11 (by kernel_rfl) rfl #[.int .i64 1, .string t180] rfl (by (try simp only [List.map_toArray, List.map_cons, List.map_nil]); first | done | rfl | (simp only [List.length_drop, List.length_take]; rfl)) ?_; (with_reducible refine (word_Whole.calls k 1 t180 true _ A4.out).mono ?_); rintro e w18 ⟨rfl, hb⟩; refine ⟨_, rfl, ?_⟩; have n0_ := Aside0.mk (below_step (by repeat (first | (with_reducible first | exact HB.out | apply below_alloc | apply pw_below_drewN | apply below_drew1) | exact HB.out)) hb); clear HB; have HB := n0_; clear n0_; (try clear hb); (try clear hb2); (try clear hk); (try clear hi)) | ((with_reducible refine gate_callee (f := 11) rfl ?_); refine goesL_ (some 13) rfl rfl Try.func11 (by kernel_rfl) rfl #[.int .i64 2, .string t180] rfl (by (try simp only [List.map_toArray, List.map_cons, List.map_nil]); first | done | rfl | (simp only [List.length_drop, List.length_take]; rfl)) ?_; (with_reducible refine (word_Whole.calls k 2 t180 false _ A5.out).mono ?_); rintro e w19 ⟨rfl, hb⟩; refine ⟨_, rfl, ?_⟩; have n0_ := Aside0.mk (below_step (by repeat (first | (with_reducible first | exact HB.out | apply below_alloc | apply pw_below_drewN | apply below_drew1) | exact HB.out)) hb); clear HB; have HB := n0_; clear n0_; (try clear hb); (try clear hb2); (try clear hk); (try clear hi)) | (go_at_call 12; (with_reducible refine (graftwoodlaw06_awake.calls k  t184 _ A16.out).mono ?_); rintro e w20 ⟨rfl, hb⟩; have n0_ := Aside0.mk (below_step (by repeat (first | (with_reducible first | exact HB.out | apply below_alloc | apply pw_below_drewN | apply below_drew1) | exact HB.out)) hb); clear HB; have HB := n0_; clear n0_; (try clear hb); (try clear hb2); (try clear hk); (try clear hi)))
          go_ret
          exact ⟨by first | rfl | (simp [errW_none, errW_some] <;> rfl) | (simp [*, errW_none, errW_some] <;> rfl), by repeat (first | (with_reducible first | exact HB.out | apply below_alloc | apply pw_below_drewN | apply below_drew1) | exact HB.out)⟩
      · replace c11 := Bool.eq_false_iff.mpr c11
        subst c11
        have H1 : (some false) = some r := by rw [if_neg (show ¬ (false = true) by decide)] at H; exact H
        clear H
        have H := H1
        clear H1
        obtain rfl := Option.some.inj H
        go_enter Try.func5, Try.ntmps5
        go_wp2_with (first | ((with_reducible refine gate_callee (f := 9) rfl ?_); refine goesL_ (some 7) rfl rfl Try.func9 (by kernel_rfl) rfl #[.string a0] rfl (by (try simp only [List.map_toArray, List.map_cons, List.map_nil]); first | done | rfl | (simp only [List.length_drop, List.length_take]; rfl)) ?_; (with_reducible refine (graftwoodlaw06_Few.calls a0 t180 _ A2.out).mono ?_); rintro e w' ⟨rfl, ⟨nd, rfl⟩⟩; refine ⟨_, rfl, ?_⟩) | ((with_reducible refine gate_callee (f := 11) rfl ?_); refine goesL_ (some 9) rfl rfl Try.func11 (by kernel_rfl) rfl #[.int .i64 0, .string t180] rfl (by (try simp only [List.map_toArray, List.map_cons, List.map_nil]); first | done | rfl | (simp only [List.length_drop, List.length_take]; rfl)) ?_; (with_reducible refine (word_Whole.calls k 0 t180 false _ A3.out).mono ?_); rintro e w21 ⟨rfl, hb⟩; refine ⟨_, rfl, ?_⟩; have n0_ := Aside0.mk (below_step (by repeat (first | (with_reducible first | exact HB.out | apply below_alloc | apply pw_below_drewN | apply below_drew1) | exact HB.out)) hb); clear HB; have HB := n0_; clear n0_; (try clear hb); (try clear hb2); (try clear hk); (try clear hi)) | ((with_reducible refine gate_callee (f := 11) rfl ?_); refine goesL_ (some 11) rfl rfl Try.func11 (by kernel_rfl) rfl #[.int .i64 1, .string t180] rfl (by (try simp only [List.map_toArray, List.map_cons, List.map_nil]); first | done | rfl | (simp only [List.length_drop, List.length_take]; rfl)) ?_; (with_reducible refine (word_Whole.calls k 1 t180 true _ A4.out).mono ?_); rintro e w22 ⟨rfl, hb⟩; refine ⟨_, rfl, ?_⟩; have n0_ := Aside0.mk (below_step (by repeat (first | (with_reducible first | exact HB.out | apply below_alloc | apply pw_below_drewN | apply below_drew1) | exact HB.out)) hb); clear HB; have HB := n0_; clear n0_; (try clear hb); (try clear hb2); (try clear hk); (try clear hi)) | ((with_reducible refine gate_callee (f := 11) rfl ?_); refine goesL_ (some 13) rfl rfl Try.func11 (by kernel_rfl) rfl #[.int .i64 2, .string t180] rfl (by (try simp only [List.map_toArray, List.map_cons, List.map_nil]); first | done | rfl | (simp only [List.length_drop, List.length_take]; rfl)) ?_; (with_reducible refine (word_Whole.calls k 2 t180 false _ A5.out).mono ?_); rintro e w23 ⟨rfl, hb⟩; refine ⟨_, rfl, ?_⟩; have n0_ := Aside0.mk (below_step (by repeat (first | (with_reducible first | exact HB.out | apply below_alloc | apply pw_below_drewN | apply below_drew1) | exact HB.out)) hb); clear HB; have HB := n0_; clear n0_; (try clear hb); (try clear hb2); (try clear hk); (try clear hi)))
        go_ret
        exact ⟨by first | rfl | (simp [errW_none, errW_some] <;> rfl) | (simp [*, errW_none, errW_some] <;> rfl), by repeat (first | (with_reducible first | exact HB.out | apply below_alloc | apply pw_below_drewN | apply below_drew1) | exact HB.out)⟩
  · replace c6 := Bool.eq_false_iff.mpr c6
    subst c6
    have H1 : (if t183 = true then (if t181 = true then (if t180.toList = ([] : List UInt8) then (some false) else ((graftwoodlaw06_awake.f k).bind fun t185 => (some t185))) else (some false)) else (if t180.toList = ([] : List UInt8) then (if t181 = true then (some false) else ((graftwoodlaw06_awake.f k).bind fun t186 => (some t186))) else ((graftwoodlaw06_awake.f k).bind fun t187 => (some t187)))) = some r := by rw [if_neg (show ¬ (false = true) by decide)] at H; exact H
    clear H
    have H := H1
    clear H1
    by_cases c24 : t183 = true
    · subst c24
      have H1 : (if t181 = true then (if t180.toList = ([] : List UInt8) then (some false) else ((graftwoodlaw06_awake.f k).bind fun t185 => (some t185))) else (some false)) = some r := by rw [if_pos rfl] at H; exact H
      clear H
      have H := H1
      clear H1
      by_cases c25 : t181 = true
      · subst c25
        have H1 : (if t180.toList = ([] : List UInt8) then (some false) else ((graftwoodlaw06_awake.f k).bind fun t185 => (some t185))) = some r := by rw [if_pos rfl] at H; exact H
        clear H
        have H := H1
        clear H1
        by_cases c26 : t180.toList = ([] : List UInt8)
        · rw [if_pos c26] at H
          have c26b0 : (t180.toList == ([] : List UInt8)) = true := beq_iff_eq.mpr c26
          have c26b1 : (t180.toList != ([] : List UInt8)) = false := bne_eq_false_iff_eq.mpr c26
          clear c26
          obtain rfl := Option.some.inj H
          go_enter Try.func5, Try.ntmps5
          go_wp2_with (first | ((with_reducible refine gate_callee (f := 9) rfl ?_); refine goesL_ (some 7) rfl rfl Try.func9 (by kernel_rfl) rfl #[.string a0] rfl (by (try simp only [List.map_toArray, List.map_cons, List.map_nil]); first | done | rfl | (simp only [List.length_drop, List.length_take]; rfl)) ?_; (with_reducible refine (graftwoodlaw06_Few.calls a0 t180 _ A2.out).mono ?_); rintro e w' ⟨rfl, ⟨nd, rfl⟩⟩; refine ⟨_, rfl, ?_⟩) | ((with_reducible refine gate_callee (f := 11) rfl ?_); refine goesL_ (some 9) rfl rfl Try.func11 (by kernel_rfl) rfl #[.int .i64 0, .string t180] rfl (by (try simp only [List.map_toArray, List.map_cons, List.map_nil]); first | done | rfl | (simp only [List.length_drop, List.length_take]; rfl)) ?_; (with_reducible refine (word_Whole.calls k 0 t180 true _ A3.out).mono ?_); rintro e w27 ⟨rfl, hb⟩; refine ⟨_, rfl, ?_⟩; have n0_ := Aside0.mk (below_step (by repeat (first | (with_reducible first | exact HB.out | apply below_alloc | apply pw_below_drewN | apply below_drew1) | exact HB.out)) hb); clear HB; have HB := n0_; clear n0_; (try clear hb); (try clear hb2); (try clear hk); (try clear hi)) | ((with_reducible refine gate_callee (f := 11) rfl ?_); refine goesL_ (some 11) rfl rfl Try.func11 (by kernel_rfl) rfl #[.int .i64 1, .string t180] rfl (by (try simp only [List.map_toArray, List.map_cons, List.map_nil]); first | done | rfl | (simp only [List.length_drop, List.length_take]; rfl)) ?_; (with_reducible refine (word_Whole.calls k 1 t180 false _ A4.out).mono ?_); rintro e w28 ⟨rfl, hb⟩; refine ⟨_, rfl, ?_⟩; have n0_ := Aside0.mk (below_step (by repeat (first | (with_reducible first | exact HB.out | apply below_alloc | apply pw_below_drewN | apply below_drew1) | exact HB.out)) hb); clear HB; have HB := n0_; clear n0_; (try clear hb); (try clear hb2); (try clear hk); (try clear hi)) | ((with_reducible refine gate_callee (f := 11) rfl ?_); refine goesL_ (some 13) rfl rfl Try.func11 (by kernel_rfl) rfl #[.int .i64 2, .string t180] rfl (by (try simp only [List.map_toArray, List.map_cons, List.map_nil]); first | done | rfl | (simp only [List.length_drop, List.length_take]; rfl)) ?_; (with_reducible refine (word_Whole.calls k 2 t180 true _ A5.out).mono ?_); rintro e w29 ⟨rfl, hb⟩; refine ⟨_, rfl, ?_⟩; have n0_ := Aside0.mk (below_step (by repeat (first | (with_reducible first | exact HB.out | apply below_alloc | apply pw_below_drewN | apply below_drew1) | exact HB.out)) hb); clear HB; have HB := n0_; clear n0_; (try clear hb); (try clear hb2); (try clear hk); (try clear hi)))
          go_ret
          exact ⟨by first | rfl | (simp [errW_none, errW_some] <;> rfl) | (simp [*, errW_none, errW_some] <;> rfl), by repeat (first | (with_reducible first | exact HB.out | apply below_alloc | apply pw_below_drewN | apply below_drew1) | exact HB.out)⟩
        · rw [if_neg c26] at H
          have c26b0 : (t180.toList == ([] : List UInt8)) = false := beq_eq_false_iff_ne.mpr c26
          have c26b1 : (t180.toList != ([] : List UInt8)) = true := bne_iff_ne.mpr c26
          replace H := Option.bind_eq_some_iff.mp H
          obtain ⟨t185, A300, H⟩ := H
          replace H : (some t185) = some r := H
          have A30 := Aside0.mk A300
          clear A300
          obtain rfl := Option.some.inj H
          go_enter Try.func5, Try.ntmps5
          go_wp2_with (first | ((with_reducible refine gate_callee (f := 9) rfl ?_); refine goesL_ (some 7) rfl rfl Try.func9 (by kernel_rfl) rfl #[.string a0] rfl (by (try simp only [List.map_toArray, List.map_cons, List.map_nil]); first | done | rfl | (simp only [List.length_drop, List.length_take]; rfl)) ?_; (with_reducible refine (graftwoodlaw06_Few.calls a0 t180 _ A2.out).mono ?_); rintro e w' ⟨rfl, ⟨nd, rfl⟩⟩; refine ⟨_, rfl, ?_⟩) | ((with_reducible refine gate_callee (f := 11) rfl ?_); refine goesL_ (some 9) rfl rfl Try.func11 (by kernel_rfl) rfl #[.int .i64 0, .string t180] rfl (by (try simp only [List.map_toArray, List.map_cons, List.map_nil]); first | done | rfl | (simp only [List.length_drop, List.length_take]; rfl)) ?_; (with_reducible refine (word_Whole.calls k 0 t180 true _ A3.out).mono ?_); rintro e w31 ⟨rfl, hb⟩; refine ⟨_, rfl, ?_⟩; have n0_ := Aside0.mk (below_step (by repeat (first | (with_reducible first | exact HB.out | apply below_alloc | apply pw_below_drewN | apply below_drew1) | exact HB.out)) hb); clear HB; have HB := n0_; clear n0_; (try clear hb); (try clear hb2); (try clear hk); (try clear hi)) | ((with_reducible refine gate_callee (f := 11) rfl ?_); refine goesL_ (some 11) rfl rfl Try.func11 (by kernel_rfl) rfl #[.int .i64 1, .string t180] rfl (by (try simp only [List.map_toArray, List.map_cons, List.map_nil]); first | done | rfl | (simp only [List.length_drop, List.length_take]; rfl)) ?_; (with_reducible refine (word_Whole.calls k 1 t180 false _ A4.out).mono ?_); rintro e w32 ⟨rfl, hb⟩; refine ⟨_, rfl, ?_⟩; have n0_ := Aside0.mk (below_step (by repeat (first | (with_reducible first | exact HB.out | apply below_alloc | apply pw_below_drewN | apply below_drew1) | exact HB.out)) hb); clear HB; have HB := n0_; clear n0_; (try clear hb); (try clear hb2); (try clear hk); (try clear hi)) | ((with_reducible refine gate_callee (f := 11) rfl ?_); refine goesL_ (some 13) rfl rfl Try.func11 (by kernel_rfl) rfl #[.int .i64 2, .string t180] rfl (by (try simp only [List.map_toArray, List.map_cons, List.map_nil]); first | done | rfl | (simp only [List.length_drop, List.length_take]; rfl)) ?_; (with_reducible refine (word_Whole.calls k 2 t180 true _ A5.out).mono ?_); rintro e w33 ⟨rfl, hb⟩; refine ⟨_, rfl, ?_⟩; have n0_ := Aside0.mk (below_step (by repeat (first | (with_reducible first | exact HB.out | apply below_alloc | apply pw_below_drewN | apply below_drew1) | exact HB.out)) hb); clear HB; have HB := n0_; clear n0_; (try clear hb); (try clear hb2); (try clear hk); (try clear hi)) | (go_at_call 12; (with_reducible refine (graftwoodlaw06_awake.calls k  t185 _ A30.out).mono ?_); rintro e w34 ⟨rfl, hb⟩; have n0_ := Aside0.mk (below_step (by repeat (first | (with_reducible first | exact HB.out | apply below_alloc | apply pw_below_drewN | apply below_drew1) | exact HB.out)) hb); clear HB; have HB := n0_; clear n0_; (try clear hb); (try clear hb2); (try clear hk); (try clear hi)))
          go_ret
          exact ⟨by first | rfl | (simp [errW_none, errW_some] <;> rfl) | (simp [*, errW_none, errW_some] <;> rfl), by repeat (first | (with_reducible first | exact HB.out | apply below_alloc | apply pw_below_drewN | apply below_drew1) | exact HB.out)⟩
      · replace c25 := Bool.eq_false_iff.mpr c25
        subst c25
        have H1 : (some false) = some r := by rw [if_neg (show ¬ (false = true) by decide)] at H; exact H
        clear H
        have H := H1
        clear H1
        obtain rfl := Option.some.inj H
        go_enter Try.func5, Try.ntmps5
        go_wp2_with (first | ((with_reducible refine gate_callee (f := 9) rfl ?_); refine goesL_ (some 7) rfl rfl Try.func9 (by kernel_rfl) rfl #[.string a0] rfl (by (try simp only [List.map_toArray, List.map_cons, List.map_nil]); first | done | rfl | (simp only [List.length_drop, List.length_take]; rfl)) ?_; (with_reducible refine (graftwoodlaw06_Few.calls a0 t180 _ A2.out).mono ?_); rintro e w' ⟨rfl, ⟨nd, rfl⟩⟩; refine ⟨_, rfl, ?_⟩) | ((with_reducible refine gate_callee (f := 11) rfl ?_); refine goesL_ (some 9) rfl rfl Try.func11 (by kernel_rfl) rfl #[.int .i64 0, .string t180] rfl (by (try simp only [List.map_toArray, List.map_cons, List.map_nil]); first | done | rfl | (simp only [List.length_drop, List.length_take]; rfl)) ?_; (with_reducible refine (word_Whole.calls k 0 t180 false _ A3.out).mono ?_); rintro e w35 ⟨rfl, hb⟩; refine ⟨_, rfl, ?_⟩; have n0_ := Aside0.mk (below_step (by repeat (first | (with_reducible first | exact HB.out | apply below_alloc | apply pw_below_drewN | apply below_drew1) | exact HB.out)) hb); clear HB; have HB := n0_; clear n0_; (try clear hb); (try clear hb2); (try clear hk); (try clear hi)) | ((with_reducible refine gate_callee (f := 11) rfl ?_); refine goesL_ (some 11) rfl rfl Try.func11 (by kernel_rfl) rfl #[.int .i64 1, .string t180] rfl (by (try simp only [List.map_toArray, List.map_cons, List.map_nil]); first | done | rfl | (simp only [List.length_drop, List.length_take]; rfl)) ?_; (with_reducible refine (word_Whole.calls k 1 t180 false _ A4.out).mono ?_); rintro e w36 ⟨rfl, hb⟩; refine ⟨_, rfl, ?_⟩; have n0_ := Aside0.mk (below_step (by repeat (first | (with_reducible first | exact HB.out | apply below_alloc | apply pw_below_drewN | apply below_drew1) | exact HB.out)) hb); clear HB; have HB := n0_; clear n0_; (try clear hb); (try clear hb2); (try clear hk); (try clear hi)) | ((with_reducible refine gate_callee (f := 11) rfl ?_); refine goesL_ (some 13) rfl rfl Try.func11 (by kernel_rfl) rfl #[.int .i64 2, .string t180] rfl (by (try simp only [List.map_toArray, List.map_cons, List.map_nil]); first | done | rfl | (simp only [List.length_drop, List.length_take]; rfl)) ?_; (with_reducible refine (word_Whole.calls k 2 t180 true _ A5.out).mono ?_); rintro e w37 ⟨rfl, hb⟩; refine ⟨_, rfl, ?_⟩; have n0_ := Aside0.mk (below_step (by repeat (first | (with_reducible first | exact HB.out | apply below_alloc | apply pw_below_drewN | apply below_drew1) | exact HB.out)) hb); clear HB; have HB := n0_; clear n0_; (try clear hb); (try clear hb2); (try clear hk); (try clear hi)))
        go_ret
        exact ⟨by first | rfl | (simp [errW_none, errW_some] <;> rfl) | (simp [*, errW_none, errW_some] <;> rfl), by repeat (first | (with_reducible first | exact HB.out | apply below_alloc | apply pw_below_drewN | apply below_drew1) | exact HB.out)⟩
    · replace c24 := Bool.eq_false_iff.mpr c24
      subst c24
      have H1 : (if t180.toList = ([] : List UInt8) then (if t181 = true then (some false) else ((graftwoodlaw06_awake.f k).bind fun t186 => (some t186))) else ((graftwoodlaw06_awake.f k).bind fun t187 => (some t187))) = some r := by rw [if_neg (show ¬ (false = true) by decide)] at H; exact H
      clear H
      have H := H1
      clear H1
      by_cases c38 : t180.toList = ([] : List UInt8)
      · rw [if_pos c38] at H
        have c38b0 : (t180.toList == ([] : List UInt8)) = true := beq_iff_eq.mpr c38
        have c38b1 : (t180.toList != ([] : List UInt8)) = false := bne_eq_false_iff_eq.mpr c38
        clear c38
        by_cases c39 : t181 = true
        · subst c39
          have H1 : (some false) = some r := by rw [if_pos rfl] at H; exact H
          clear H
          have H := H1
          clear H1
          obtain rfl := Option.some.inj H
          go_enter Try.func5, Try.ntmps5
          go_wp2_with (first | ((with_reducible refine gate_callee (f := 9) rfl ?_); refine goesL_ (some 7) rfl rfl Try.func9 (by kernel_rfl) rfl #[.string a0] rfl (by (try simp only [List.map_toArray, List.map_cons, List.map_nil]); first | done | rfl | (simp only [List.length_drop, List.length_take]; rfl)) ?_; (with_reducible refine (graftwoodlaw06_Few.calls a0 t180 _ A2.out).mono ?_); rintro e w' ⟨rfl, ⟨nd, rfl⟩⟩; refine ⟨_, rfl, ?_⟩) | ((with_reducible refine gate_callee (f := 11) rfl ?_); refine goesL_ (some 9) rfl rfl Try.func11 (by kernel_rfl) rfl #[.int .i64 0, .string t180] rfl (by (try simp only [List.map_toArray, List.map_cons, List.map_nil]); first | done | rfl | (simp only [List.length_drop, List.length_take]; rfl)) ?_; (with_reducible refine (word_Whole.calls k 0 t180 true _ A3.out).mono ?_); rintro e w40 ⟨rfl, hb⟩; refine ⟨_, rfl, ?_⟩; have n0_ := Aside0.mk (below_step (by repeat (first | (with_reducible first | exact HB.out | apply below_alloc | apply pw_below_drewN | apply below_drew1) | exact HB.out)) hb); clear HB; have HB := n0_; clear n0_; (try clear hb); (try clear hb2); (try clear hk); (try clear hi)) | ((with_reducible refine gate_callee (f := 11) rfl ?_); refine goesL_ (some 11) rfl rfl Try.func11 (by kernel_rfl) rfl #[.int .i64 1, .string t180] rfl (by (try simp only [List.map_toArray, List.map_cons, List.map_nil]); first | done | rfl | (simp only [List.length_drop, List.length_take]; rfl)) ?_; (with_reducible refine (word_Whole.calls k 1 t180 false _ A4.out).mono ?_); rintro e w41 ⟨rfl, hb⟩; refine ⟨_, rfl, ?_⟩; have n0_ := Aside0.mk (below_step (by repeat (first | (with_reducible first | exact HB.out | apply below_alloc | apply pw_below_drewN | apply below_drew1) | exact HB.out)) hb); clear HB; have HB := n0_; clear n0_; (try clear hb); (try clear hb2); (try clear hk); (try clear hi)) | ((with_reducible refine gate_callee (f := 11) rfl ?_); refine goesL_ (some 13) rfl rfl Try.func11 (by kernel_rfl) rfl #[.int .i64 2, .string t180] rfl (by (try simp only [List.map_toArray, List.map_cons, List.map_nil]); first | done | rfl | (simp only [List.length_drop, List.length_take]; rfl)) ?_; (with_reducible refine (word_Whole.calls k 2 t180 false _ A5.out).mono ?_); rintro e w42 ⟨rfl, hb⟩; refine ⟨_, rfl, ?_⟩; have n0_ := Aside0.mk (below_step (by repeat (first | (with_reducible first | exact HB.out | apply below_alloc | apply pw_below_drewN | apply below_drew1) | exact HB.out)) hb); clear HB; have HB := n0_; clear n0_; (try clear hb); (try clear hb2); (try clear hk); (try clear hi)))
          go_ret
          exact ⟨by first | rfl | (simp [errW_none, errW_some] <;> rfl) | (simp [*, errW_none, errW_some] <;> rfl), by repeat (first | (with_reducible first | exact HB.out | apply below_alloc | apply pw_below_drewN | apply below_drew1) | exact HB.out)⟩
        · replace c39 := Bool.eq_false_iff.mpr c39
          subst c39
          have H1 : ((graftwoodlaw06_awake.f k).bind fun t186 => (some t186)) = some r := by rw [if_neg (show ¬ (false = true) by decide)] at H; exact H
          clear H
          have H := H1
          clear H1
          replace H := Option.bind_eq_some_iff.mp H
          obtain ⟨t186, A430, H⟩ := H
          replace H : (some t186) = some r := H
          have A43 := Aside0.mk A430
          clear A430
          obtain rfl := Option.some.inj H
          go_enter Try.func5, Try.ntmps5
          go_wp2_with (first | ((with_reducible refine gate_callee (f := 9) rfl ?_); refine goesL_ (some 7) rfl rfl Try.func9 (by kernel_rfl) rfl #[.string a0] rfl (by (try simp only [List.map_toArray, List.map_cons, List.map_nil]); first | done | rfl | (simp only [List.length_drop, List.length_take]; rfl)) ?_; (with_reducible refine (graftwoodlaw06_Few.calls a0 t180 _ A2.out).mono ?_); rintro e w' ⟨rfl, ⟨nd, rfl⟩⟩; refine ⟨_, rfl, ?_⟩) | ((with_reducible refine gate_callee (f := 11) rfl ?_); refine goesL_ (some 9) rfl rfl Try.func11 (by kernel_rfl) rfl #[.int .i64 0, .string t180] rfl (by (try simp only [List.map_toArray, List.map_cons, List.map_nil]); first | done | rfl | (simp only [List.length_drop, List.length_take]; rfl)) ?_; (with_reducible refine (word_Whole.calls k 0 t180 false _ A3.out).mono ?_); rintro e w44 ⟨rfl, hb⟩; refine ⟨_, rfl, ?_⟩; have n0_ := Aside0.mk (below_step (by repeat (first | (with_reducible first | exact HB.out | apply below_alloc | apply pw_below_drewN | apply below_drew1) | exact HB.out)) hb); clear HB; have HB := n0_; clear n0_; (try clear hb); (try clear hb2); (try clear hk); (try clear hi)) | ((with_reducible refine gate_callee (f := 11) rfl ?_); refine goesL_ (some 11) rfl rfl Try.func11 (by kernel_rfl) rfl #[.int .i64 1, .string t180] rfl (by (try simp only [List.map_toArray, List.map_cons, List.map_nil]); first | done | rfl | (simp only [List.length_drop, List.length_take]; rfl)) ?_; (with_reducible refine (word_Whole.calls k 1 t180 false _ A4.out).mono ?_); rintro e w45 ⟨rfl, hb⟩; refine ⟨_, rfl, ?_⟩; have n0_ := Aside0.mk (below_step (by repeat (first | (with_reducible first | exact HB.out | apply below_alloc | apply pw_below_drewN | apply below_drew1) | exact HB.out)) hb); clear HB; have HB := n0_; clear n0_; (try clear hb); (try clear hb2); (try clear hk); (try clear hi)) | ((with_reducible refine gate_callee (f := 11) rfl ?_); refine goesL_ (some 13) rfl rfl Try.func11 (by kernel_rfl) rfl #[.int .i64 2, .string t180] rfl (by (try simp only [List.map_toArray, List.map_cons, List.map_nil]); first | done | rfl | (simp only [List.length_drop, List.length_take]; rfl)) ?_; (with_reducible refine (word_Whole.calls k 2 t180 false _ A5.out).mono ?_); rintro e w46 ⟨rfl, hb⟩; refine ⟨_, rfl, ?_⟩; have n0_ := Aside0.mk (below_step (by repeat (first | (with_reducible first | exact HB.out | apply below_alloc | apply pw_below_drewN | apply below_drew1) | exact HB.out)) hb); clear HB; have HB := n0_; clear n0_; (try clear hb); (try clear hb2); (try clear hk); (try clear hi)) | (go_at_call 12; (with_reducible refine (graftwoodlaw06_awake.calls k  t186 _ A43.out).mono ?_); rintro e w47 ⟨rfl, hb⟩; have n0_ := Aside0.mk (below_step (by repeat (first | (with_reducible first | exact HB.out | apply below_alloc | apply pw_below_drewN | apply below_drew1) | exact HB.out)) hb); clear HB; have HB := n0_; clear n0_; (try clear hb); (try clear hb2); (try clear hk); (try clear hi)))
          go_ret
          exact ⟨by first | rfl | (simp [errW_none, errW_some] <;> rfl) | (simp [*, errW_none, errW_some] <;> rfl), by repeat (first | (with_reducible first | exact HB.out | apply below_alloc | apply pw_below_drewN | apply below_drew1) | exact HB.out)⟩
      · rw [if_neg c38] at H
        have c38b0 : (t180.toList == ([] : List UInt8)) = false := beq_eq_false_iff_ne.mpr c38
        have c38b1 : (t180.toList != ([] : List UInt8)) = true := bne_iff_ne.mpr c38
        replace H := Option.bind_eq_some_iff.mp H
        obtain ⟨t187, A480, H⟩ := H
        replace H : (some t187) = some r := H
        have A48 := Aside0.mk A480
        clear A480
        obtain rfl := Option.some.inj H
        go_enter Try.func5, Try.ntmps5
        go_wp2_with (first | ((with_reducible refine gate_callee (f := 9) rfl ?_); refine goesL_ (some 7) rfl rfl Try.func9 (by kernel_rfl) rfl #[.string a0] rfl (by (try simp only [List.map_toArray, List.map_cons, List.map_nil]); first | done | rfl | (simp only [List.length_drop, List.length_take]; rfl)) ?_; (with_reducible refine (graftwoodlaw06_Few.calls a0 t180 _ A2.out).mono ?_); rintro e w' ⟨rfl, ⟨nd, rfl⟩⟩; refine ⟨_, rfl, ?_⟩) | ((with_reducible refine gate_callee (f := 11) rfl ?_); refine goesL_ (some 9) rfl rfl Try.func11 (by kernel_rfl) rfl #[.int .i64 0, .string t180] rfl (by (try simp only [List.map_toArray, List.map_cons, List.map_nil]); first | done | rfl | (simp only [List.length_drop, List.length_take]; rfl)) ?_; (with_reducible refine (word_Whole.calls k 0 t180 t181 _ A3.out).mono ?_); rintro e w49 ⟨rfl, hb⟩; refine ⟨_, rfl, ?_⟩; have n0_ := Aside0.mk (below_step (by repeat (first | (with_reducible first | exact HB.out | apply below_alloc | apply pw_below_drewN | apply below_drew1) | exact HB.out)) hb); clear HB; have HB := n0_; clear n0_; (try clear hb); (try clear hb2); (try clear hk); (try clear hi)) | ((with_reducible refine gate_callee (f := 11) rfl ?_); refine goesL_ (some 11) rfl rfl Try.func11 (by kernel_rfl) rfl #[.int .i64 1, .string t180] rfl (by (try simp only [List.map_toArray, List.map_cons, List.map_nil]); first | done | rfl | (simp only [List.length_drop, List.length_take]; rfl)) ?_; (with_reducible refine (word_Whole.calls k 1 t180 false _ A4.out).mono ?_); rintro e w50 ⟨rfl, hb⟩; refine ⟨_, rfl, ?_⟩; have n0_ := Aside0.mk (below_step (by repeat (first | (with_reducible first | exact HB.out | apply below_alloc | apply pw_below_drewN | apply below_drew1) | exact HB.out)) hb); clear HB; have HB := n0_; clear n0_; (try clear hb); (try clear hb2); (try clear hk); (try clear hi)) | ((with_reducible refine gate_callee (f := 11) rfl ?_); refine goesL_ (some 13) rfl rfl Try.func11 (by kernel_rfl) rfl #[.int .i64 2, .string t180] rfl (by (try simp only [List.map_toArray, List.map_cons, List.map_nil]); first | done | rfl | (simp only [List.length_drop, List.length_take]; rfl)) ?_; (with_reducible refine (word_Whole.calls k 2 t180 false _ A5.out).mono ?_); rintro e w51 ⟨rfl, hb⟩; refine ⟨_, rfl, ?_⟩; have n0_ := Aside0.mk (below_step (by repeat (first | (with_reducible first | exact HB.out | apply below_alloc | apply pw_below_drewN | apply below_drew1) | exact HB.out)) hb); clear HB; have HB := n0_; clear n0_; (try clear hb); (try clear hb2); (try clear hk); (try clear hi)) | (go_at_call 12; (with_reducible refine (graftwoodlaw06_awake.calls k  t187 _ A48.out).mono ?_); rintro e w52 ⟨rfl, hb⟩; have n0_ := Aside0.mk (below_step (by repeat (first | (with_reducible first | exact HB.out | apply below_alloc | apply pw_below_drewN | apply below_drew1) | exact HB.out)) hb); clear HB; have HB := n0_; clear n0_; (try clear hb); (try clear hb2); (try clear hk); (try clear hi)))
        go_ret
        exact ⟨by first | rfl | (simp [errW_none, errW_some] <;> rfl) | (simp [*, errW_none, errW_some] <;> rfl), by repeat (first | (with_reducible first | exact HB.out | apply below_alloc | apply pw_below_drewN | apply below_drew1) | exact HB.out)⟩

/-- THE ONE PURE STATEMENT of graftwoodlaw06_WordKinds: yours. -/
def graftwoodlaw06_WordKinds.Pure : Prop := ∀ (a0 : ByteArray), a0.size ≤ 140737488351232 → ∃ k, graftwoodlaw06_WordKinds.f k a0 = some true
theorem graftwoodlaw06_WordKinds.walk (P : graftwoodlaw06_WordKinds.Pure) (a0 : ByteArray) (w : World) (w0 : a0.size ≤ 140737488351232) :
    Calls Try.prog 5 #[.string a0] w fun e w' => e = .returned (.bool true) ∧ Below w.heap.size w w' := by
  obtain ⟨k, h⟩ := P a0 w0
  refine (graftwoodlaw06_WordKinds.calls k a0 true w h).mono ?_
  rintro e w' ⟨rfl, hd⟩
  exact ⟨rfl, hd⟩

/-! ### word_Step: function 17 -/
def word_Step.f (k : Nat) (a0 : Int) (a1 : Int) (a2 : Int) : Option (Int × Bool) := (word_find.f a0 a1).bind fun bt188 => ((word_step.f k bt188.1 bt188.2.1 bt188.2.2 a2).bind fun bt193 => (some (bt193.1, bt193.2)))
theorem word_Step.mono : ∀ a0 a1 a2 k, LeO (word_Step.f k a0 a1 a2) (word_Step.f (k + 1) a0 a1 a2) := by
  intro a0 a1 a2 k
  unfold word_Step.f
  repeat' first
      | (with_reducible exact word_step.mono _ _ _ _ _)
      | (with_reducible exact LeO.refl _)
      | (with_reducible exact LeO.none _)
      | (with_reducible refine LeO.ite ?_ ?_)
      | (with_reducible refine LeO.bind ?_ (fun _ => ?_))
      | exact word_step.mono _ _ _ _ _
      | exact LeO.none _
      | refine LeO.ite ?_ ?_
      | refine LeO.bind ?_ (fun _ => ?_)
set_option maxHeartbeats 8000000 in
set_option maxRecDepth 100000 in
theorem word_Step.calls (k : Nat) (a0 : Int) (a1 : Int) (a2 : Int) (r1 : Int) (r2 : Bool) (w : World) (h : word_Step.f k a0 a1 a2 = some (r1, r2)) :
    Calls Try.prog 17 #[.int .i64 a0, .int .i64 a1, .int .u8 a2] w fun e w' => e = .returned (.tuple #[.int .i64 r1, .bool r2]) ∧ Below w.heap.size w w' := by
  have HB := Aside0.mk (Below.refl w.heap.size w)
  have H : ((word_find.f a0 a1).bind fun bt188 => ((word_step.f k bt188.1 bt188.2.1 bt188.2.2 a2).bind fun bt193 => (some (bt193.1, bt193.2)))) = some (r1, r2) := h
  clear h
  replace H := Option.bind_eq_some_iff.mp H
  obtain ⟨⟨t188, t191, t192⟩, A40, H⟩ := H
  replace H : ((word_step.f k t188 t191 t192 a2).bind fun bt193 => (some (bt193.1, bt193.2))) = some (r1, r2) := H
  have A4 := Aside0.mk A40
  clear A40
  replace H := Option.bind_eq_some_iff.mp H
  obtain ⟨⟨t193, t194⟩, A50, H⟩ := H
  replace H : (some (t193, t194)) = some (r1, r2) := H
  have A5 := Aside0.mk A50
  clear A50
  simp only [Option.some.injEq, Prod.mk.injEq] at H
  obtain ⟨rfl, rfl⟩ := H
  go_enter Try.func17, Try.ntmps17
  go_wp2_with (first | ((with_reducible refine gate_callee (f := 25) rfl ?_); refine goesL_ (some 10) rfl rfl Try.func25 (by kernel_rfl) rfl #[.int .i64 a0, .int .i64 a1] rfl (by (try simp only [List.map_toArray, List.map_cons, List.map_nil]); first | done | rfl | (simp only [List.length_drop, List.length_take]; rfl)) ?_; (with_reducible refine (word_find.calls a0 a1 t188 t191 t192 _ A4.out).mono ?_); rintro e w6 ⟨v189, rfl, ho0, hb⟩; refine ⟨_, rfl, ?_⟩; have n0_ := Aside0.mk (Kd.V_lower (Kd.V_mono (ok' := fun k_ => True) ho0 (fun k_ hk_ => trivial)) (below_size (by repeat (first | (with_reducible first | exact HB.out | apply below_alloc | apply pw_below_drewN | apply below_drew1) | exact HB.out)))); have n1_ := Aside0.mk (below_step (by repeat (first | (with_reducible first | exact HB.out | apply below_alloc | apply pw_below_drewN | apply below_drew1) | exact HB.out)) hb); clear HB; have HO190 := n0_; have HB := n1_; clear n0_ n1_; (try clear hb); (try clear hb2); (try clear hk); (try clear hi); (try clear ho0); obtain ⟨Ao7, co7, eo7⟩ := Kd.V_slice HO190.out; subst eo7) | ((with_reducible refine gate_callee (f := 26) rfl ?_); refine goesL_ (some 12) rfl rfl Try.func26 (by kernel_rfl) rfl #[.agg #[.slice Ao7 t188.length co7, .bool t191, .string t192], .int .u8 a2] rfl (by (try simp only [List.map_toArray, List.map_cons, List.map_nil]); first | done | rfl | (simp only [List.length_drop, List.length_take]; rfl)) ?_; (with_reducible refine (word_step.calls k _ _ t188 t191 t192 a2 t193 t194 _ ?side1 ?side2 A5.out).mono ?_); (case side1 => repeat (first | exact (Kd.V_reads' HO190.out).2.2 | (with_reducible refine Kd.C_alloc ?_ _) | (with_reducible refine Kd.C_drewN ?_ _) | (with_reducible refine Kd.C_drew ?_))); (case side2 => exact (Kd.V_reads' HO190.out).2.1); rintro e w8 ⟨rfl, hb⟩; refine ⟨_, rfl, ?_⟩; have n0_ := Aside0.mk (Kd.V_below (by (with_reducible repeat (first | apply Kd.V_alloc | apply Kd.V_drewN | apply Kd.V_drew)); exact HO190.out) hb); have n1_ := Aside0.mk (below_step (by repeat (first | (with_reducible first | exact HB.out | apply below_alloc | apply pw_below_drewN | apply below_drew1) | exact HB.out)) hb); clear HO190; clear HB; have HO190 := n0_; have HB := n1_; clear n0_ n1_; (try clear hb); (try clear hb2); (try clear hk); (try clear hi)))
  go_ret2
  exact ⟨by first | rfl | (simp [errW_none, errW_some] <;> rfl) | (simp [*, errW_none, errW_some] <;> rfl), by repeat (first | (with_reducible first | exact HB.out | apply below_alloc | apply pw_below_drewN | apply below_drew1) | exact HB.out)⟩

end Go.Proofs.Ytbkcjgjcnnggbaa.Q
