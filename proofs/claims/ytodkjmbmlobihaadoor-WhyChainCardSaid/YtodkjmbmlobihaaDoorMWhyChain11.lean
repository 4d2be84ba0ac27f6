/- Part 11 of this claim: several texts one behind the other: Fgraftwoodlaw19WhyLeast. What each shows stands in its theorems; conditions: sizes of texts and lists, as the functions' definitions say. -/
import Derived.Test.YtodkjmbmlobihaaDoorMWhyChain0
import Derived.Test.YtodkjmbmlobihaaDoorMWhyChain1
import Derived.Test.YtodkjmbmlobihaaDoorMWhyChain9
import Derived.Test.YtodkjmbmlobihaaDoorMWhyChain7
import Derived.Test.YtodkjmbmlobihaaDoorMWhyChain8
section
namespace Go.Proofs.YtodkjmbmlobihaaDoor.Q
open Go.RowKit Go.Proofs.YtodkjmbmlobihaaDoorW.PrintWords Go.Proofs.YtodkjmbmlobihaaDoorW.PrintLast Go.Proofs.YtodkjmbmlobihaaDoorW.PrintMore
attribute [local go_sem] max2_int min2_int max_two min_two max_three min_three max_four min_four   -- for this text's walks alone
set_option linter.unusedVariables false
set_option linter.unusedSimpArgs false
attribute [local go_sem high] eqA24
/-! ### graftwoodlaw19_WhyLeast: function 3 -/
mutual
def graftwoodlaw19_WhyLeast.l0 : Nat → List (S34) → List Int → List (S24) → List (S24) → Int → Option (Bool)
  | 0, _, _, _, _, _ => none
  | k + 1, x0, x2, x7, x9, x10 => if x10 < (x2.length : Int) then (graftwoodlaw19_WhyLeast.j1 k x0 x2 x7 x9 x10 (decide (x10 < 12))) else (graftwoodlaw19_WhyLeast.j1 k x0 x2 x7 x9 x10 false)
def graftwoodlaw19_WhyLeast.j1 : Nat → List (S34) → List Int → List (S24) → List (S24) → Int → Bool → Option (Bool)
  | 0, _, _, _, _, _, _ => none
  | k + 1, x0, x2, x7, x9, x10, x37 => if x37 = true then (graftwoodlaw19_WhyLeast.l1 k x0 x2 x7 x9 x10 ([] : List (S24)) false 0) else ((graftwoodlaw19_awake.f).bind fun t240 => (some t240))
def graftwoodlaw19_WhyLeast.l1 : Nat → List (S34) → List Int → List (S24) → List (S24) → Int → List (S24) → Bool → Int → Option (Bool)
  | 0, _, _, _, _, _, _, _, _ => none
  | k + 1, x0, x2, x7, x9, x10, x11, x12, x13 => if x13 < (x0.length : Int) then (if 0 ≤ x13 then (if 0 < (x9.length : Int) then (if ((((rd_T34 x0 x13).f1.f0).toList) == (((rd_T24 x9 0).f0).toList) && ((((rd_T34 x0 x13).f1.f1).toList) == (((rd_T24 x9 0).f1).toList))) = true then (if x12 = true then (if x11.length < 4398046511104 then (graftwoodlaw19_WhyLeast.l1 k x0 x2 x7 x9 x10 (x11 ++ [(⟨(rd_T34 x0 x13).f0.f0, (rd_T34 x0 x13).f0.f1⟩ : S24)]) true (wrap64 (x13 + 1))) else (none)) else (if x11.length < 4398046511104 then (graftwoodlaw19_WhyLeast.l1 k x0 x2 x7 x9 x10 (x11 ++ [(⟨(rd_T34 x0 x13).f0.f0, (rd_T34 x0 x13).f0.f1⟩ : S24)]) ((((rd_T34 x0 x13).f0.f0).toList) == ([] : List UInt8) && ((((rd_T34 x0 x13).f0.f1).toList) == ([] : List UInt8))) (wrap64 (x13 + 1))) else (none))) else (graftwoodlaw19_WhyLeast.l1 k x0 x2 x7 x9 x10 x11 x12 (wrap64 (x13 + 1)))) else (none)) else (none)) else (if x12 = true then (if (x9.length : Int) < (x7.length : Int) then (graftwoodlaw19_WhyLeast.j3 k x0 x2 x7 x9 x10 x11 true) else (if (x9.length : Int) = (x7.length : Int) then ((graftwoodlaw19_lower.f k x9 x7).bind fun t252 => (graftwoodlaw19_WhyLeast.j3 k x0 x2 x7 x9 x10 x11 t252)) else (graftwoodlaw19_WhyLeast.j3 k x0 x2 x7 x9 x10 x11 false))) else (graftwoodlaw19_WhyLeast.j3 k x0 x2 x7 x9 x10 x11 false))
def graftwoodlaw19_WhyLeast.j3 : Nat → List (S34) → List Int → List (S24) → List (S24) → Int → List (S24) → Bool → Option (Bool)
  | 0, _, _, _, _, _, _, _ => none
  | k + 1, x0, x2, x7, x9, x10, x11, x92 => if x92 = true then (some false) else (if (x11.length : Int) = 0 then ((graftwoodlaw19_awake.f).bind fun t253 => (some t253)) else (if 0 ≤ x10 then (if x10 < (x2.length : Int) then (if 0 ≤ (Int.tmod (wrap64 (rd x2 x10)) (x11.length : Int)) then (if (Int.tmod (wrap64 (rd x2 x10)) (x11.length : Int)) < (x11.length : Int) then (if ((((rd_T24 x11 (Int.tmod (wrap64 (rd x2 x10)) (x11.length : Int))).f0).toList) == ([] : List UInt8) && ((((rd_T24 x11 (Int.tmod (wrap64 (rd x2 x10)) (x11.length : Int))).f1).toList) == ([] : List UInt8))) = true then ((graftwoodlaw19_awake.f).bind fun t257 => (some t257)) else ((some (([(⟨(rd_T24 x11 (Int.tmod (wrap64 (rd x2 x10)) (x11.length : Int))).f0, (rd_T24 x11 (Int.tmod (wrap64 (rd x2 x10)) (x11.length : Int))).f1⟩ : S24)] : List (S24)) : List (S24))).bind fun y258 => (if y258.length + x9.length < 4398046511104 then (graftwoodlaw19_WhyLeast.l0 k x0 x2 x7 (y258 ++ x9) (wrap64 (x10 + 1))) else (none)))) else (none)) else (none)) else (none)) else (none)))
end
def graftwoodlaw19_WhyLeast.f (k : Nat) (l0 : List (S34)) (a1_0 : ByteArray) (a1_1 : ByteArray) (l2 : List Int) : Option (Bool) := (graftwoodlaw18_Few.f k l0).bind fun t227 => ((graftwoodlaw05_One.f a1_0 a1_1).bind fun bt230 => ((why_Chain.f t227 bt230.1 bt230.2).bind fun bt232 => (if bt232.2 = 0 then (graftwoodlaw19_WhyLeast.l0 k t227 l2 bt232.1 (([(⟨bt230.1, bt230.2⟩ : S24)] : List (S24))) 0) else ((graftwoodlaw19_awake.f).bind fun t236 => (some t236)))))
theorem graftwoodlaw19_WhyLeast.mono_l : ∀ k, (∀ y0 y1 y2 y3 y4, LeO (graftwoodlaw19_WhyLeast.l0 k y0 y1 y2 y3 y4) (graftwoodlaw19_WhyLeast.l0 (k + 1) y0 y1 y2 y3 y4)) ∧ (∀ y0 y1 y2 y3 y4 y5, LeO (graftwoodlaw19_WhyLeast.j1 k y0 y1 y2 y3 y4 y5) (graftwoodlaw19_WhyLeast.j1 (k + 1) y0 y1 y2 y3 y4 y5)) ∧ (∀ y0 y1 y2 y3 y4 y5 y6 y7, LeO (graftwoodlaw19_WhyLeast.l1 k y0 y1 y2 y3 y4 y5 y6 y7) (graftwoodlaw19_WhyLeast.l1 (k + 1) y0 y1 y2 y3 y4 y5 y6 y7)) ∧ (∀ y0 y1 y2 y3 y4 y5 y6, LeO (graftwoodlaw19_WhyLeast.j3 k y0 y1 y2 y3 y4 y5 y6) (graftwoodlaw19_WhyLeast.j3 (k + 1) y0 y1 y2 y3 y4 y5 y6))
  | 0 => ⟨fun _ _ _ _ _ r h => by simp [graftwoodlaw19_WhyLeast.l0] at h, fun _ _ _ _ _ _ r h => by simp [graftwoodlaw19_WhyLeast.j1] at h, fun _ _ _ _ _ _ _ _ r h => by simp [graftwoodlaw19_WhyLeast.l1] at h, fun _ _ _ _ _ _ _ r h => by simp [graftwoodlaw19_WhyLeast.j3] at h⟩
  | k + 1 => by
    obtain ⟨ih0, ih1, ih2, ih3⟩ := graftwoodlaw19_WhyLeast.mono_l k
    refine ⟨?_, ?_, ?_, ?_⟩
    · intro y0 y1 y2 y3 y4
      unfold graftwoodlaw19_WhyLeast.l0
      repeat' first
      | (with_reducible exact ih0 _ _ _ _ _)
      | (with_reducible exact ih1 _ _ _ _ _ _)
      | (with_reducible exact ih2 _ _ _ _ _ _ _ _)
      | (with_reducible exact ih3 _ _ _ _ _ _ _)
      | (with_reducible exact graftwoodlaw18_Few.mono _ _)
      | (with_reducible exact graftwoodlaw19_lower.mono _ _ _)
      | (with_reducible exact LeO.refl _)
      | (with_reducible exact LeO.none _)
      | (with_reducible refine LeO.ite ?_ ?_)
      | (with_reducible refine LeO.bind ?_ (fun _ => ?_))
      | exact ih0 _ _ _ _ _
      | exact ih1 _ _ _ _ _ _
      | exact ih2 _ _ _ _ _ _ _ _
      | exact ih3 _ _ _ _ _ _ _
      | exact graftwoodlaw18_Few.mono _ _
      | exact graftwoodlaw19_lower.mono _ _ _
      | exact LeO.none _
      | refine LeO.ite ?_ ?_
      | refine LeO.bind ?_ (fun _ => ?_)
    · intro y0 y1 y2 y3 y4 y5
      unfold graftwoodlaw19_WhyLeast.j1
      repeat' first
      | (with_reducible exact ih0 _ _ _ _ _)
      | (with_reducible exact ih1 _ _ _ _ _ _)
      | (with_reducible exact ih2 _ _ _ _ _ _ _ _)
      | (with_reducible exact ih3 _ _ _ _ _ _ _)
      | (with_reducible exact graftwoodlaw18_Few.mono _ _)
      | (with_reducible exact graftwoodlaw19_lower.mono _ _ _)
      | (with_reducible exact LeO.refl _)
      | (with_reducible exact LeO.none _)
      | (with_reducible refine LeO.ite ?_ ?_)
      | (with_reducible refine LeO.bind ?_ (fun _ => ?_))
      | exact ih0 _ _ _ _ _
      | exact ih1 _ _ _ _ _ _
      | exact ih2 _ _ _ _ _ _ _ _
      | exact ih3 _ _ _ _ _ _ _
      | exact graftwoodlaw18_Few.mono _ _
      | exact graftwoodlaw19_lower.mono _ _ _
      | exact LeO.none _
      | refine LeO.ite ?_ ?_
      | refine LeO.bind ?_ (fun _ => ?_)
    · intro y0 y1 y2 y3 y4 y5 y6 y7
      unfold graftwoodlaw19_WhyLeast.l1
      repeat' first
      | (with_reducible exact ih0 _ _ _ _ _)
      | (with_reducible exact ih1 _ _ _ _ _ _)
      | (with_reducible exact ih2 _ _ _ _ _ _ _ _)
      | (with_reducible exact ih3 _ _ _ _ _ _ _)
      | (with_reducible exact graftwoodlaw18_Few.mono _ _)
      | (with_reducible exact graftwoodlaw19_lower.mono _ _ _)
      | (with_reducible exact LeO.refl _)
      | (with_reducible exact LeO.none _)
      | (with_reducible refine LeO.ite ?_ ?_)
      | (with_reducible refine LeO.bind ?_ (fun _ => ?_))
      | exact ih0 _ _ _ _ _
      | exact ih1 _ _ _ _ _ _
      | exact ih2 _ _ _ _ _ _ _ _
      | exact ih3 _ _ _ _ _ _ _
      | exact graftwoodlaw18_Few.mono _ _
      | exact graftwoodlaw19_lower.mono _ _ _
      | exact LeO.none _
      | refine LeO.ite ?_ ?_
      | refine LeO.bind ?_ (fun _ => ?_)
    · intro y0 y1 y2 y3 y4 y5 y6
      unfold graftwoodlaw19_WhyLeast.j3
      repeat' first
      | (with_reducible exact ih0 _ _ _ _ _)
      | (with_reducible exact ih1 _ _ _ _ _ _)
      | (with_reducible exact ih2 _ _ _ _ _ _ _ _)
      | (with_reducible exact ih3 _ _ _ _ _ _ _)
      | (with_reducible exact graftwoodlaw18_Few.mono _ _)
      | (with_reducible exact graftwoodlaw19_lower.mono _ _ _)
      | (with_reducible exact LeO.refl _)
      | (with_reducible exact LeO.none _)
      | (with_reducible refine LeO.ite ?_ ?_)
      | (with_reducible refine LeO.bind ?_ (fun _ => ?_))
      | exact ih0 _ _ _ _ _
      | exact ih1 _ _ _ _ _ _
      | exact ih2 _ _ _ _ _ _ _ _
      | exact ih3 _ _ _ _ _ _ _
      | exact graftwoodlaw18_Few.mono _ _
      | exact graftwoodlaw19_lower.mono _ _ _
      | exact LeO.none _
      | refine LeO.ite ?_ ?_
      | refine LeO.bind ?_ (fun _ => ?_)
theorem graftwoodlaw19_WhyLeast.mono : ∀ a0 a1 a2 a3 k, LeO (graftwoodlaw19_WhyLeast.f k a0 a1 a2 a3) (graftwoodlaw19_WhyLeast.f (k + 1) a0 a1 a2 a3) := by
  intro a0 a1 a2 a3 k
  obtain ⟨ih0, ih1, ih2, ih3⟩ := graftwoodlaw19_WhyLeast.mono_l k
  unfold graftwoodlaw19_WhyLeast.f
  repeat' first
      | (with_reducible exact ih0 _ _ _ _ _)
      | (with_reducible exact ih1 _ _ _ _ _ _)
      | (with_reducible exact ih2 _ _ _ _ _ _ _ _)
      | (with_reducible exact ih3 _ _ _ _ _ _ _)
      | (with_reducible exact graftwoodlaw18_Few.mono _ _)
      | (with_reducible exact graftwoodlaw19_lower.mono _ _ _)
      | (with_reducible exact LeO.refl _)
      | (with_reducible exact LeO.none _)
      | (with_reducible refine LeO.ite ?_ ?_)
      | (with_reducible refine LeO.bind ?_ (fun _ => ?_))
      | exact ih0 _ _ _ _ _
      | exact ih1 _ _ _ _ _ _
      | exact ih2 _ _ _ _ _ _ _ _
      | exact ih3 _ _ _ _ _ _ _
      | exact graftwoodlaw18_Few.mono _ _
      | exact graftwoodlaw19_lower.mono _ _ _
      | exact LeO.none _
      | refine LeO.ite ?_ ?_
      | refine LeO.bind ?_ (fun _ => ?_)
def graftwoodlaw19_WhyLeast.T14 : Bool × List (List Nat × List Nat) := (true, [([], []), ([], []), ([0, 1], [0, 1]), ([2], [2]), ([3], [3]), ([], []), ([5], [5]), ([6], [6]), ([4, 7], [4, 7])])
def graftwoodlaw19_WhyLeast.B14 : List Nat := [0, 0, 3, 7, 15, 0, 32, 96, 255]
theorem graftwoodlaw19_WhyLeast.tab14 : rtab .any (opsOf Tryd.f3 14) = graftwoodlaw19_WhyLeast.T14 := by kernel_rfl
theorem graftwoodlaw19_WhyLeast.bits14 : waitsOk graftwoodlaw19_WhyLeast.T14.2 graftwoodlaw19_WhyLeast.B14 = true := by kernel_rfl
set_option maxHeartbeats 8000000 in
set_option maxRecDepth 100000 in
theorem graftwoodlaw19_WhyLeast.calls (k : Nat) (A0 : Option Addr) (c0 : Nat) (l0 : List (S34)) (a1_0 : ByteArray) (a1_1 : ByteArray) (A2 : Option Addr) (c2 : Nat) (l2 : List Int) (r : Bool) (w : World) (hr0 : Kd.C k34 w A0 l0.length l0) (hc0 : l0.length ≤ c0) (hr2 : Kd.C (Kd.int .u8) w A2 l2.length l2) (hc2 : l2.length ≤ c2) (h : graftwoodlaw19_WhyLeast.f k l0 a1_0 a1_1 l2 = some r) (HR_ : Aside0 (r = true)) :
    Calls Tryd.prog 3 #[.slice A0 l0.length c0, .agg #[.string a1_0, .string a1_1], .slice A2 l2.length c2] w fun e w' => e = .returned (.bool r) ∧ Below w.heap.size w w' := by
  have hu24 := Tryd.underlying24
  have HR0 := Aside0.mk hr0
  have HC0 := Aside0.mk hc0
  clear hr0 hc0
  have HR2 := Aside0.mk hr2
  have HC2 := Aside0.mk hc2
  clear hr2 hc2
  have HB := Aside0.mk (Below.refl w.heap.size w)
  have H : ((graftwoodlaw18_Few.f k l0).bind fun t227 => ((graftwoodlaw05_One.f a1_0 a1_1).bind fun bt230 => ((why_Chain.f t227 bt230.1 bt230.2).bind fun bt232 => (if bt232.2 = 0 then (graftwoodlaw19_WhyLeast.l0 k t227 l2 bt232.1 (([(⟨bt230.1, bt230.2⟩ : S24)] : List (S24))) 0) else ((graftwoodlaw19_awake.f).bind fun t236 => (some t236)))))) = some r := h
  clear h
  replace H := Option.bind_eq_some_iff.mp H
  obtain ⟨t227, A40, H⟩ := H
  replace H : ((graftwoodlaw05_One.f a1_0 a1_1).bind fun bt230 => ((why_Chain.f t227 bt230.1 bt230.2).bind fun bt232 => (if bt232.2 = 0 then (graftwoodlaw19_WhyLeast.l0 k t227 l2 bt232.1 (([(⟨bt230.1, bt230.2⟩ : S24)] : List (S24))) 0) else ((graftwoodlaw19_awake.f).bind fun t236 => (some t236))))) = some r := H
  have A4 := Aside0.mk A40
  clear A40
  replace H := Option.bind_eq_some_iff.mp H
  obtain ⟨⟨t230, t231⟩, A50, H⟩ := H
  replace H : ((why_Chain.f t227 t230 t231).bind fun bt232 => (if bt232.2 = 0 then (graftwoodlaw19_WhyLeast.l0 k t227 l2 bt232.1 (([(⟨t230, t231⟩ : S24)] : List (S24))) 0) else ((graftwoodlaw19_awake.f).bind fun t236 => (some t236)))) = some r := H
  have A5 := Aside0.mk A50
  clear A50
  replace H := Option.bind_eq_some_iff.mp H
  obtain ⟨⟨t232, t235⟩, A60, H⟩ := H
  replace H : (if t235 = 0 then (graftwoodlaw19_WhyLeast.l0 k t227 l2 t232 (([(⟨t230, t231⟩ : S24)] : List (S24))) 0) else ((graftwoodlaw19_awake.f).bind fun t236 => (some t236))) = some r := H
  have A6 := Aside0.mk A60
  clear A60
  by_cases c7 : t235 = 0
  · rw [if_pos c7] at H
    have c7b0 : (t235 == 0) = true := beq_iff_eq.mpr c7
    have c7b1 : (t235 != 0) = false := bne_eq_false_iff_eq.mpr c7
    clear c7
    obtain ⟨y237, hy237⟩ : ∃ y_ : List (S24), y_ = (([(⟨t230, t231⟩ : S24)] : List (S24))) := ⟨_, rfl⟩
    replace H : (graftwoodlaw19_WhyLeast.l0 k t227 l2 t232 y237 0) = some r := by first | (rw [hy237]; with_reducible exact H) | (have H2_ := (Option.bind_some _ _).symm.trans H; rw [hy237]; with_reducible exact H2_) | (have H2_ := (Option.bind_some _ _).symm.trans H; with_reducible exact H2_) | with_reducible exact H | (rw [hy237]; exact H) | exact H
    have Ny237 := Aside0.mk hy237
    clear hy237
    have H' := Aside0.mk H
    clear H
    go_enter Tryd.func3, Tryd.ntmps3
    try go_wp2_with (first | ((with_reducible refine gate_dst (N := 4) rfl ?_); (try (refine gate_guard (by rfl) ?_; dsimp only)); refine box_event ?hg (N := 4) ?hd (cs := #[.string a1_0, .string a1_1]) (t := 24) ?hr ?_; (case hd => rfl); (case hg => rfl); (case hr => first | (go_simp; done) | (go_simp; rfl)); intro gb226 hg w8 hbox hb; have n0_ := Aside0.mk (below_step (by repeat (first | (with_reducible first | exact HB.out | apply below_alloc | apply pw_below_drewN | apply below_drew1) | exact HB.out)) hb); have n1_ := Aside0.mk (hbox); have n2_ := Aside0.mk ((by rw [hg]; exact (below_size (by repeat (first | (with_reducible first | exact HB.out | apply below_alloc | apply pw_below_drewN | apply below_drew1) | exact HB.out))) : w.heap.size ≤ gb226)); have n3_ := Aside0.mk ((by rw [hg]; exact (below_size (by repeat (first | (with_reducible first | exact HB.out | apply below_alloc | apply pw_below_drewN | apply below_drew1) | exact HB.out))) : w.heap.size ≤ gb226)); clear HB; have HB := n0_; have BK226 := n1_; have GW226 := n2_; have GE226 := n3_; clear n0_ n1_ n2_ n3_; clear hb hbox hg))
    have n0_ := Aside0.mk (blk_drew BK226.out)
    have n1_ := Aside0.mk (below_drew1 HB.out)
    clear BK226
    clear HB
    have BK226 := n0_
    have HB := n1_
    clear n0_ n1_
    refine start_ (n := 6) (S := fun w' => w'.cell? ⟨gb226, 0, none⟩ = some (.string a1_0) ∧ w'.cell? ⟨gb226, 1, none⟩ = some (.string a1_1)) (ds := [5]) #[false, false, false, false, false, false] (by kernel_rfl) rfl rfl ⟨(blk_cell BK226.out 0).trans rfl, (blk_cell BK226.out 1).trans rfl⟩ (fun hHeld => ?_)
    generalize w8.drew = w9 at BK226 HB hHeld ⊢
    refine pure_ (i := 0) (N := some 15) (v := ?_) (a' := ?_) #[true, false, false, false, false, false] rfl rfl (by kernel_rfl) (fun _ _ _ h => h) (Or.inl ⟨by rfl, ?_⟩) ?_ ?_
    rotate_left
    · intro w'
      go_simp
      with_reducible rfl
    rotate_left
    · simp only [Act.put, List.setIfInBounds_toArray, List.set_cons_zero, List.set_cons_succ, i64_w, i32_w]
      rfl
    refine take_ (i := 2) (N := some 17) (v := ?_) (a' := ?_) #[true, false, true, false, false, false] rfl rfl (by kernel_rfl) (fun _ _ _ h => h) (Or.inl ⟨by rfl, ?_⟩) hHeld ?_ ?_
    rotate_left
    · rintro w' ⟨s0, s1⟩
      go_simp
      with_reducible rfl
    rotate_left
    · simp only [Act.put, List.setIfInBounds_toArray, List.set_cons_zero, List.set_cons_succ, i64_w, i32_w]
      rfl
    refine one_ (i := 1) (N := some 16) #[true, true, true, false, false, false] rfl rfl (by kernel_rfl) (by decide) (fun K hK => ?_)
    refine goes_ Tryd.func6 (by kernel_rfl) rfl #[.slice A0 l0.length c0] (by rfl) rfl rfl (by (try simp only [List.map_toArray, List.map_cons, List.map_nil]); first | done | rfl | (simp only [List.length_drop, List.length_take]; rfl)) ?_
    with_reducible refine (graftwoodlaw18_Few.calls k _ _ l0 t227 _ ?side1 ?side2 A4.out).mono ?_
    (case side1 => repeat (first | exact (Kd.C_below HR0.out HB.out) | (with_reducible refine Kd.C_alloc ?_ _) | (with_reducible refine Kd.C_drewN ?_ _) | (with_reducible refine Kd.C_drew ?_)))
    (case side2 => exact HC0.out)
    rintro e w10 ⟨v228, rfl, ho0, hb⟩
    refine ⟨_, rfl, ?_⟩
    have n0_ := Aside0.mk (Kd.R_lower ho0 (below_size (by repeat (first | (with_reducible first | exact HB.out | apply below_alloc | apply pw_below_drewN | apply below_drew1 | refine below_set ?_ GE226.out) | exact HB.out))))
    have n1_ := Aside0.mk (blk_below (g := gb226) (o := .cells #[.string a1_0, .string a1_1] 24 (0, 0)) (by (with_reducible repeat (first | refine blk_drewN ?_ _ | refine blk_drew ?_ | refine blk_alloc ?_ _)); exact BK226.out) hb)
    have n2_ := Aside0.mk (below_step (by repeat (first | (with_reducible first | exact HB.out | apply below_alloc | apply pw_below_drewN | apply below_drew1 | refine below_set ?_ GE226.out) | exact HB.out)) hb)
    clear BK226
    clear HB
    have HO229 := n0_
    have BK226 := n1_
    have HB := n2_
    clear n0_ n1_ n2_
    (try clear hb)
    (try clear hb2)
    (try clear hk)
    (try clear hi)
    (try clear ho0)
    refine hK.out _ _ ⟨(blk_cell BK226.out 0).trans rfl, (blk_cell BK226.out 1).trans rfl⟩ (fun hHeld => ?_)
    clear hK K
    refine norm_ (a' := ?_) ?_ ?_
    rotate_left
    · show Act.put _ (some 16) _ = _
      simp only [Act.put, List.setIfInBounds_toArray, List.set_cons_zero, List.set_cons_succ, i64_w, i32_w]
      rfl
    refine one_ (i := 3) (N := some 18) #[true, true, true, true, false, false] rfl rfl (by kernel_rfl) (by decide) (fun K hK => ?_)
    refine goes_ Tryd.func7 (by kernel_rfl) rfl #[.agg #[.string a1_0, .string a1_1]] (by rfl) rfl rfl (by (try simp only [List.map_toArray, List.map_cons, List.map_nil]); first | done | rfl | (simp only [List.length_drop, List.length_take]; rfl)) ?_
    with_reducible refine (graftwoodlaw05_One.calls a1_0 a1_1 t230 t231 _ A5.out).mono ?_
    rintro e w11 ⟨rfl, hb⟩
    refine ⟨_, rfl, ?_⟩
    have n0_ := Aside0.mk (Kd.R_below (by (with_reducible repeat (first | apply Kd.R_alloc | apply Kd.R_drewN | apply Kd.R_drew)); exact HO229.out) hb)
    have n1_ := Aside0.mk (blk_below (g := gb226) (o := .cells #[.string a1_0, .string a1_1] 24 (0, 0)) (by (with_reducible repeat (first | refine blk_drewN ?_ _ | refine blk_drew ?_ | refine blk_alloc ?_ _)); exact BK226.out) hb)
    have n2_ := Aside0.mk (below_step (by repeat (first | (with_reducible first | exact HB.out | apply below_alloc | apply pw_below_drewN | apply below_drew1 | refine below_set ?_ GE226.out) | exact HB.out)) hb)
    clear HO229
    clear BK226
    clear HB
    have HO229 := n0_
    have BK226 := n1_
    have HB := n2_
    clear n0_ n1_ n2_
    (try clear hb)
    (try clear hb2)
    (try clear hk)
    (try clear hi)
    refine hK.out _ _ ⟨(blk_cell BK226.out 0).trans rfl, (blk_cell BK226.out 1).trans rfl⟩ (fun hHeld => ?_)
    clear hK K
    refine norm_ (a' := ?_) ?_ ?_
    rotate_left
    · show Act.put _ (some 18) _ = _
      simp only [Act.put, List.setIfInBounds_toArray, List.set_cons_zero, List.set_cons_succ, i64_w, i32_w]
      rfl
    refine pure_ (i := 4) (N := some 0) (v := ?_) (a' := ?_) #[true, true, true, true, true, false] rfl rfl (by kernel_rfl) (fun _ _ _ h => h) (Or.inl ⟨by rfl, ?_⟩) ?_ ?_
    rotate_left
    · intro w'
      go_simp
      with_reducible rfl
    rotate_left
    · simp only [Act.put, List.setIfInBounds_toArray, List.set_cons_zero, List.set_cons_succ, i64_w, i32_w]
      rfl
    refine last_ (i := 5) (N := none) #[true, true, true, true, true, true] rfl rfl (by kernel_rfl) (by decide) (fun K hK => ?_)
    have hs12 : w11.cell? ⟨gb226, 0, none⟩ = some (.string a1_0) := (blk_cell BK226.out 0).trans rfl
    have hfs12 := blk_frozen BK226.out 0
    have hs13 : w11.cell? ⟨gb226, 1, none⟩ = some (.string a1_1) := (blk_cell BK226.out 1).trans rfl
    have hfs13 := blk_frozen BK226.out 1
    refine skip_ (w1 := ?_) (by rfl) rfl ?_ ?_
    rotate_left
    · go_simp
      rfl
    refine hK.out _ _ ?_
    clear hK K
    refine done_ (by kernel_rfl) ?_
    have hcz14_0 : w11.cell? ⟨gb226, 0, none⟩ = some (.string a1_0) := (blk_cell BK226.out 0).trans rfl
    have hcz14_1 : w11.cell? ⟨gb226, 1, none⟩ = some (.string a1_1) := (blk_cell BK226.out 1).trans rfl
    have hfz14_0 := blk_frozen BK226.out 0
    have hfz14_1 := blk_frozen BK226.out 1
    obtain ⟨Ao15, co15, eo15⟩ := Kd.R_slice HO229.out
    subst eo15
    try go_wp2_with (first | ((with_reducible refine gate_callee (f := 8) rfl ?_); refine goesL_ (some 22) rfl rfl Tryd.func8 (by kernel_rfl) rfl #[.slice Ao15 t227.length co15, .agg #[.string t230, .string t231]] rfl (by (try simp only [List.map_toArray, List.map_cons, List.map_nil]); first | done | rfl | (simp only [List.length_drop, List.length_take]; rfl)) ?_; (with_reducible refine (why_Chain.calls _ _ t227 t230 t231 t232 t235 _ ?side1 ?side2 A6.out).mono ?_); (case side1 => refine (Kd.R_reads' (e := 34) (base := w.heap.size) (ok := fun k_ => True) (n := t227.length) (c := co15) ?_).2.2; exact (by (with_reducible repeat (first | apply Kd.R_alloc | apply Kd.R_drewN | apply Kd.R_drew)); exact (Kd.R_mono (Kd.R_far (p := ⟨gb226, 1, none⟩) (Kd.R_far (p := ⟨gb226, 0, none⟩) (Kd.R_types HO229.out BK226.out (by decide)) (fun _ hk => hk.2) (.string t230)) (fun _ hk => hk.2) (.string t231)) (fun _ h_ => h_.1)))); (case side2 => exact (Kd.R_reads' HO229.out).2.1); rintro e w16 ⟨v233, rfl, ho0, hb⟩; refine ⟨_, rfl, ?_⟩; have n0_ := Aside0.mk (Kd.R_below (by (with_reducible repeat (first | apply Kd.R_alloc | apply Kd.R_drewN | apply Kd.R_drew)); exact (Kd.R_mono (Kd.R_far (p := ⟨gb226, 1, none⟩) (Kd.R_far (p := ⟨gb226, 0, none⟩) (Kd.R_types HO229.out BK226.out (by decide)) (fun _ hk => hk.2) (.string t230)) (fun _ hk => hk.2) (.string t231)) (fun _ h_ => h_.1))) hb); have n1_ := Aside0.mk (Kd.R_lower (Kd.R_newB ho0 (g := gb226) (o := .cells #[.string t230, .string t231] 24 (0, 0)) (by (with_reducible repeat (first | refine blk_drewN ?_ _ | refine blk_drew ?_ | refine blk_alloc ?_ _)); refine blk_put (cs := #[.string t230, .string a1_1]) ?_ 1 _ rfl; (with_reducible repeat (first | refine blk_drewN ?_ _ | refine blk_drew ?_ | refine blk_alloc ?_ _)); refine blk_put (cs := #[.string a1_0, .string a1_1]) ?_ 0 _ rfl; (with_reducible repeat (first | refine blk_drewN ?_ _ | refine blk_drew ?_ | refine blk_alloc ?_ _)); exact BK226.out)) (below_size (by repeat (first | (with_reducible first | exact HB.out | apply below_alloc | apply pw_below_drewN | apply below_drew1 | refine below_set ?_ GE226.out) | exact HB.out)))); have n2_ := Aside0.mk (blk_below (g := gb226) (o := .cells #[.string t230, .string t231] 24 (0, 0)) (by (with_reducible repeat (first | refine blk_drewN ?_ _ | refine blk_drew ?_ | refine blk_alloc ?_ _)); refine blk_put (cs := #[.string t230, .string a1_1]) ?_ 1 _ rfl; (with_reducible repeat (first | refine blk_drewN ?_ _ | refine blk_drew ?_ | refine blk_alloc ?_ _)); refine blk_put (cs := #[.string a1_0, .string a1_1]) ?_ 0 _ rfl; (with_reducible repeat (first | refine blk_drewN ?_ _ | refine blk_drew ?_ | refine blk_alloc ?_ _)); exact BK226.out) hb); have n3_ := Aside0.mk (below_step (by repeat (first | (with_reducible first | exact HB.out | apply below_alloc | apply pw_below_drewN | apply below_drew1 | refine below_set ?_ GE226.out) | exact HB.out)) hb); clear HO229; clear BK226; clear HB; have HO229 := n0_; have HO234 := n1_; have BK226 := n2_; have HB := n3_; clear n0_ n1_ n2_ n3_; (try clear hb); (try clear hb2); (try clear hk); (try clear hi); (try clear ho0); have hcz17_0 : w16.cell? ⟨gb226, 0, none⟩ = some (.string t230) := (blk_cell BK226.out 0).trans rfl; have hcz17_1 : w16.cell? ⟨gb226, 1, none⟩ = some (.string t231) := (blk_cell BK226.out 1).trans rfl; have hfz17_0 := blk_frozen BK226.out 0; have hfz17_1 := blk_frozen BK226.out 1) | ((with_reducible refine gate_dst (N := 29) rfl ?_); (try (refine gate_guard (by rfl) ?_; dsimp only)); refine Kd.R_lit k24 _ 24 ?hg (N := 29) ?hd (xs := ([(⟨t230, t231⟩ : S24)] : List (S24))) (inner := [.string t230, .string t231]) (ok := fun _ => True) (okp := fun _ => True) ?hr ?hp (fun _ hk => hk) trivial (Below.refl _ _) (Nat.le_refl _) (by simp) ?_; (case hd => rfl); (case hg => rfl); (case hr => first | (go_simp; done) | (go_simp; rfl)); (case hp => exact (Reps.c2 (show Kd.M k24 _ _ _ (⟨t230, t231⟩ : S24) [.string t230, .string t231] from (k24_mkM _ _ _ (⟨t230, t231⟩ : S24) )) (Reps.none _ _))); intro v238 w18 ho19 hb hg_ hnew_; clear hg_ hnew_; (first | rw [← Ny237.out] at ho19 | (simp only [Int.reduceToNat] at ho19; rw [← Ny237.out] at ho19)); have n0_ := Aside0.mk (Kd.R_below (by (with_reducible repeat (first | apply Kd.R_alloc | apply Kd.R_drewN | apply Kd.R_drew)); exact HO229.out) hb); have n1_ := Aside0.mk (Kd.R_elder' (by (with_reducible repeat (first | apply Kd.R_alloc | apply Kd.R_drewN | apply Kd.R_drew)); exact HO234.out) (Kd.R_base ho19) hb); have n2_ := Aside0.mk (Kd.R_lower (Kd.R_newB (Kd.R_new' ho19 (Kd.R_lt (by (with_reducible repeat (first | apply Kd.R_alloc | apply Kd.R_drewN | apply Kd.R_drew)); exact HO234.out))) (g := gb226) (o := .cells #[.string t230, .string t231] 24 (0, 0)) (by (with_reducible repeat (first | refine blk_drewN ?_ _ | refine blk_drew ?_ | refine blk_alloc ?_ _)); exact BK226.out)) (below_size (by repeat (first | (with_reducible first | exact HB.out | apply below_alloc | apply pw_below_drewN | apply below_drew1 | refine below_set ?_ GE226.out) | exact HB.out)))); have n3_ := Aside0.mk (blk_below (g := gb226) (o := .cells #[.string t230, .string t231] 24 (0, 0)) (by (with_reducible repeat (first | refine blk_drewN ?_ _ | refine blk_drew ?_ | refine blk_alloc ?_ _)); exact BK226.out) hb); have n4_ := Aside0.mk (below_step (by repeat (first | (with_reducible first | exact HB.out | apply below_alloc | apply pw_below_drewN | apply below_drew1 | refine below_set ?_ GE226.out) | exact HB.out)) hb); clear HO229; clear HO234; clear BK226; clear HB; have HO229 := n0_; have HO234 := n1_; have HO239 := n2_; have BK226 := n3_; have HB := n4_; clear n0_ n1_ n2_ n3_ n4_; clear hb ho19))
    go_loopg [9, 10] k (fun kq v9 v10 w' => ∃ (x9_1 : List (S24)) (x10_1 : Int), v10 = .int .i64 x10_1 ∧ Aside0 (graftwoodlaw19_WhyLeast.l0 kq t227 l2 t232 x9_1 x10_1 = some r) ∧ Aside0 (kq ≤ k) ∧ Aside0 (Kd.R k34 34 w' w.heap.size (fun _ => True) (.slice Ao15 t227.length co15) t227) ∧ Aside0 (Kd.R k24 24 w' w.heap.size (fun k_ => some k_ ≠ (v9 : Value).ownBlock ∧ k_ ≠ gb226) v233 t232) ∧ Aside0 (Kd.R k24 24 w' w.heap.size (fun k_ => some k_ ≠ (v233 : Value).ownBlock ∧ k_ ≠ gb226) v9 x9_1) ∧ Aside0 (w'.heap[gb226]? = some (.cells #[.string t230, .string t231] 24 (0, 0))) ∧ Aside0 (Below w.heap.size w w'))
    case atStart => exact ⟨(y237), (0), (by first | rfl | (simp; done) | (simp [*]; done)), H', ⟨Nat.le_refl _⟩, ⟨by (with_reducible repeat (first | apply Kd.R_alloc | apply Kd.R_drewN | apply Kd.R_drew)); exact HO229.out⟩, ⟨by (with_reducible repeat (first | apply Kd.R_alloc | apply Kd.R_drewN | apply Kd.R_drew)); exact Kd.R_mono HO234.out (fun _ hk => ⟨hk.2, hk.1.2⟩)⟩, ⟨by (with_reducible repeat (first | apply Kd.R_alloc | apply Kd.R_drewN | apply Kd.R_drew)); exact Kd.R_mono HO239.out (fun _ hk => ⟨hk.1.2, hk.2⟩)⟩, ⟨by (with_reducible repeat (first | refine blk_drewN ?_ _ | refine blk_drew ?_ | refine blk_alloc ?_ _)); exact BK226.out⟩, ⟨by repeat (first | (with_reducible first | exact HB.out | apply below_alloc | apply pw_below_drewN | apply below_drew1 | refine below_set ?_ GE226.out) | exact HB.out)⟩⟩
    case round =>
      clear H'
      try clear c2
      try clear p2
      try clear c3
      try clear c6
      try clear c7
      try clear c7b0
      try clear c7b1
      try clear c8
      try clear hcz14_0
      try clear hcz14_1
      try clear hcz17_0
      try clear hcz17_1
      try clear hfz14_0
      try clear hfz14_1
      try clear hfz17_0
      try clear hfz17_1
      obtain ⟨x9_1, x10_1, rfl, HA, HK1, HO_0, HO_7, HO_9, BK226, HB⟩ := hrel
      cases gk with
      | zero => exact absurd HA.out (by simp [graftwoodlaw19_WhyLeast.l0])
      | succ k1 =>
        have H := HA.out
        clear HA
        simp only [graftwoodlaw19_WhyLeast.l0] at H
        have HC20 := Aside0.mk H
        clear H
        go_upto_region 7 with (fail)
        go_cut [37] (fun v37 wc => ∃ (kq : Nat) (x37_19 : Bool), v37 = .bool x37_19 ∧ Aside0 (graftwoodlaw19_WhyLeast.j1 kq t227 l2 t232 x9_1 x10_1 x37_19 = some r) ∧ Aside0 (kq ≤ k1) ∧ Aside0 (Kd.R k34 34 wc w.heap.size (fun _ => True) (.slice Ao15 t227.length co15) t227) ∧ Aside0 (Kd.R k24 24 wc w.heap.size (fun k_ => some k_ ≠ (u9 : Value).ownBlock ∧ k_ ≠ gb226) v233 t232) ∧ Aside0 (Kd.R k24 24 wc w.heap.size (fun k_ => some k_ ≠ (v233 : Value).ownBlock ∧ k_ ≠ gb226) u9 x9_1) ∧ Aside0 (wc.heap[gb226]? = some (.cells #[.string t230, .string t231] 24 (0, 0))) ∧ Aside0 (Below w.heap.size w wc))
        case first =>
          have H := HC20.out
          clear HC20
          by_cases c21 : x10_1 < (l2.length : Int)
          · rw [if_pos c21] at H
            have c21b0 : decide (x10_1 < (l2.length : Int)) = true := decide_eq_true c21
            clear c21
            (first | rw [c21b0] | (simp only [i64_w, i32_w]; rw [c21b0]) | skip)
            have H' := Aside0.mk H
            clear H
            go_wp2
            go_meet
            case rel => exact ⟨_, (decide (x10_1 < 12)), (by first | rfl | (simp; done) | (simp [*]; done)), H', ⟨by have := HK1.out; first | omega | exact Nat.le_refl _⟩, ⟨by (with_reducible repeat (first | apply Kd.R_alloc | apply Kd.R_drewN | apply Kd.R_drew)); exact HO_0.out⟩, ⟨by (with_reducible repeat (first | apply Kd.R_alloc | apply Kd.R_drewN | apply Kd.R_drew)); exact HO_7.out⟩, ⟨by (with_reducible repeat (first | apply Kd.R_alloc | apply Kd.R_drewN | apply Kd.R_drew)); exact HO_9.out⟩, ⟨by (with_reducible repeat (first | refine blk_drewN ?_ _ | refine blk_drew ?_ | refine blk_alloc ?_ _)); exact BK226.out⟩, ⟨by repeat (first | (with_reducible first | exact HB.out | apply below_alloc | apply pw_below_drewN | apply below_drew1 | refine below_set ?_ GE226.out) | exact HB.out)⟩⟩
          · rw [if_neg c21] at H
            have c21b0 : decide (x10_1 < (l2.length : Int)) = false := decide_eq_false c21
            clear c21
            (first | rw [c21b0] | (simp only [i64_w, i32_w]; rw [c21b0]) | skip)
            have H' := Aside0.mk H
            clear H
            go_wp2
            go_meet
            case rel => exact ⟨_, (false), (by first | rfl | (simp; done) | (simp [*]; done)), H', ⟨by have := HK1.out; first | omega | exact Nat.le_refl _⟩, ⟨by (with_reducible repeat (first | apply Kd.R_alloc | apply Kd.R_drewN | apply Kd.R_drew)); exact HO_0.out⟩, ⟨by (with_reducible repeat (first | apply Kd.R_alloc | apply Kd.R_drewN | apply Kd.R_drew)); exact HO_7.out⟩, ⟨by (with_reducible repeat (first | apply Kd.R_alloc | apply Kd.R_drewN | apply Kd.R_drew)); exact HO_9.out⟩, ⟨by (with_reducible repeat (first | refine blk_drewN ?_ _ | refine blk_drew ?_ | refine blk_alloc ?_ _)); exact BK226.out⟩, ⟨by repeat (first | (with_reducible first | exact HB.out | apply below_alloc | apply pw_below_drewN | apply below_drew1 | refine below_set ?_ GE226.out) | exact HB.out)⟩⟩
        case rest =>
          clear HC20
          try clear c2
          try clear p2
          try clear c3
          try clear c6
          try clear c7
          try clear c7b0
          try clear c7b1
          try clear c8
          try clear c21
          try clear c21b0
          try clear hcz14_0
          try clear hcz14_1
          try clear hcz17_0
          try clear hcz17_1
          try clear hfz14_0
          try clear hfz14_1
          try clear hfz17_0
          try clear hfz17_1
          try clear p2
          obtain ⟨kq, x37_19, rfl, HA, HJ19, HO_0, HO_7, HO_9, BK226, HB⟩ := hcut
          cases kq with
          | zero => exact absurd HA.out (by simp [graftwoodlaw19_WhyLeast.j1])
          | succ kj19 =>
            have H := HA.out
            clear HA
            simp only [graftwoodlaw19_WhyLeast.j1] at H
            by_cases c22 : x37_19 = true
            · subst c22
              have H1 : (graftwoodlaw19_WhyLeast.l1 kj19 t227 l2 t232 x9_1 x10_1 ([] : List (S24)) false 0) = some r := by rw [if_pos rfl] at H; exact H
              clear H
              have H := H1
              clear H1
              have H' := Aside0.mk H
              clear H
              go_wp2
              go_loopg [11, 12, 13] kj19 (fun kq v11 v12 v13 w' => ∃ (x11_3 : List (S24)) (x12_3 : Bool) (x13_3 : Int), v12 = .bool x12_3 ∧ v13 = .int .i64 x13_3 ∧ Aside0 (graftwoodlaw19_WhyLeast.l1 kq t227 l2 t232 x9_1 x10_1 x11_3 x12_3 x13_3 = some r) ∧ Aside0 (kq ≤ kj19) ∧ Aside0 (Kd.R k34 34 w' w.heap.size (fun _ => True) (.slice Ao15 t227.length co15) t227) ∧ Aside0 (Kd.R k24 24 w' w.heap.size (fun k_ => some k_ ≠ (u9 : Value).ownBlock ∧ some k_ ≠ (v11 : Value).ownBlock ∧ k_ ≠ gb226) v233 t232) ∧ Aside0 (Kd.R k24 24 w' w.heap.size (fun k_ => some k_ ≠ (v233 : Value).ownBlock ∧ some k_ ≠ (v11 : Value).ownBlock ∧ k_ ≠ gb226) u9 x9_1) ∧ Aside0 (Kd.R k24 24 w' w.heap.size (fun k_ => some k_ ≠ (v233 : Value).ownBlock ∧ some k_ ≠ (u9 : Value).ownBlock ∧ k_ ≠ gb226) v11 x11_3) ∧ Aside0 (w'.heap[gb226]? = some (.cells #[.string t230, .string t231] 24 (0, 0))) ∧ Aside0 (Below w.heap.size w w'))
              case atStart => exact ⟨(([] : List (S24))), (false), (0), (by first | rfl | (simp; done) | (simp [*]; done)), (by first | rfl | (simp; done) | (simp [*]; done)), H', ⟨Nat.le_refl _⟩, ⟨by (with_reducible repeat (first | apply Kd.R_alloc | apply Kd.R_drewN | apply Kd.R_drew)); exact HO_0.out⟩, ⟨by (with_reducible repeat (first | apply Kd.R_alloc | apply Kd.R_drewN | apply Kd.R_drew)); exact Kd.R_mono HO_7.out (fun _ hk => ⟨hk.1, ⟨(by simp [Value.ownBlock]), hk.2⟩⟩)⟩, ⟨by (with_reducible repeat (first | apply Kd.R_alloc | apply Kd.R_drewN | apply Kd.R_drew)); exact Kd.R_mono HO_9.out (fun _ hk => ⟨hk.1, ⟨(by simp [Value.ownBlock]), hk.2⟩⟩)⟩, ⟨by first | exact Kd.R_nil _ _ _ _ _ | exact Kd.N_nil _ _ _ _ _ | exact Kd.V_nil _ _ _ _ _ | exact Kd.Q_nil _ _ _ _ _ | exact Kd.S_nil _ _ _ _ _⟩, ⟨by (with_reducible repeat (first | refine blk_drewN ?_ _ | refine blk_drew ?_ | refine blk_alloc ?_ _)); exact BK226.out⟩, ⟨by repeat (first | (with_reducible first | exact HB.out | apply below_alloc | apply pw_below_drewN | apply below_drew1 | refine below_set ?_ GE226.out) | exact HB.out)⟩⟩
              case round =>
                clear H'
                try clear c2
                try clear p2
                try clear c3
                try clear c6
                try clear c7
                try clear c7b0
                try clear c7b1
                try clear c8
                try clear c21
                try clear c21b0
                try clear c22
                try clear hcz14_0
                try clear hcz14_1
                try clear hcz17_0
                try clear hcz17_1
                try clear hfz14_0
                try clear hfz14_1
                try clear hfz17_0
                try clear hfz17_1
                try clear p2
                obtain ⟨x11_3, x12_3, x13_3, rfl, rfl, HA, HK3, HO_0, HO_7, HO_9, HO_11, BK226, HB⟩ := hrel
                cases gk with
                | zero => exact absurd HA.out (by simp [graftwoodlaw19_WhyLeast.l1])
                | succ k3 =>
                  have H := HA.out
                  clear HA
                  simp only [graftwoodlaw19_WhyLeast.l1] at H
                  by_cases c23 : x13_3 < (t227.length : Int)
                  · rw [if_pos c23] at H
                    have c23b0 : decide (x13_3 < (t227.length : Int)) = true := decide_eq_true c23
                    clear c23
                    by_cases c24 : 0 ≤ x13_3
                    · rw [if_pos c24] at H
                      have c24b0 : decide (0 ≤ x13_3) = true := decide_eq_true c24
                      clear c24
                      by_cases c25 : 0 < (x9_1.length : Int)
                      · rw [if_pos c25] at H
                        have c25b0 : decide (0 < (x9_1.length : Int)) = true := decide_eq_true c25
                        have c25b1 : decide (0 < x9_1.length) = true := decide_eq_true (by omega)
                        clear c25
                        by_cases c26 : ((((rd_T34 t227 x13_3).f1.f0).toList) == (((rd_T24 x9_1 0).f0).toList) && ((((rd_T34 t227 x13_3).f1.f1).toList) == (((rd_T24 x9_1 0).f1).toList))) = true
                        · rw [if_pos c26] at H
                          have c26b0 : ((((rd_T34 t227 x13_3).f1.f0).toList) == (((rd_T24 x9_1 0).f0).toList) && ((((rd_T34 t227 x13_3).f1.f1).toList) == (((rd_T24 x9_1 0).f1).toList))) = true := c26
                          (try (have c26b1 : decide ((((rd_T34 t227 x13_3).f1.f0).toList) = (((rd_T24 x9_1 0).f0).toList) && ((((rd_T34 t227 x13_3).f1.f1).toList) == (((rd_T24 x9_1 0).f1).toList))) = true := by simpa using c26))
                          (try (have c26b2 : ((((rd_T34 t227 x13_3).f1.f0).toList) == (((rd_T24 x9_1 0).f0).toList) && ((((rd_T34 t227 x13_3).f1.f1).toList) == (((rd_T24 x9_1 0).f1).toList))) = true := by simpa using c26))
                          clear c26
                          by_cases c27 : x12_3 = true
                          · subst c27
                            have H1 : (if x11_3.length < 4398046511104 then (graftwoodlaw19_WhyLeast.l1 k3 t227 l2 t232 x9_1 x10_1 (x11_3 ++ [(⟨(rd_T34 t227 x13_3).f0.f0, (rd_T34 t227 x13_3).f0.f1⟩ : S24)]) true (wrap64 (x13_3 + 1))) else (none)) = some r := by rw [if_pos rfl] at H; exact H
                            clear H
                            have H := H1
                            clear H1
                            by_cases c28 : x11_3.length < 4398046511104
                            · rw [if_pos c28] at H
                              have LMc28 := Aside0.mk c28
                              clear c28
                              obtain ⟨y244, hy244⟩ : ∃ y_ : List (S24), y_ = (x11_3 ++ [(⟨(rd_T34 t227 x13_3).f0.f0, (rd_T34 t227 x13_3).f0.f1⟩ : S24)]) := ⟨_, rfl⟩
                              replace H : (graftwoodlaw19_WhyLeast.l1 k3 t227 l2 t232 x9_1 x10_1 y244 true (wrap64 (x13_3 + 1))) = some r := by first | (rw [hy244]; with_reducible exact H) | (have H2_ := (Option.bind_some _ _).symm.trans H; rw [hy244]; with_reducible exact H2_) | (have H2_ := (Option.bind_some _ _).symm.trans H; with_reducible exact H2_) | with_reducible exact H | (rw [hy244]; exact H) | exact H
                              have Ny244 := Aside0.mk hy244
                              clear hy244
                              have H' := Aside0.mk H
                              clear H
                              try go_wp2
                              have n0_ := Aside0.mk (Kd.R_drew HO_0.out)
                              have n1_ := Aside0.mk (Kd.R_drew HO_7.out)
                              have n2_ := Aside0.mk (Kd.R_drew HO_9.out)
                              have n3_ := Aside0.mk (Kd.R_drew HO_11.out)
                              have n4_ := Aside0.mk (blk_drew BK226.out)
                              have n5_ := Aside0.mk (below_drew1 HB.out)
                              clear HO_0
                              clear HO_7
                              clear HO_9
                              clear HO_11
                              clear BK226
                              clear HB
                              have HO_0 := n0_
                              have HO_7 := n1_
                              have HO_9 := n2_
                              have HO_11 := n3_
                              have BK226 := n4_
                              have HB := n5_
                              clear n0_ n1_ n2_ n3_ n4_ n5_
                              have p241 : 0 ≤ (x13_3 : Int) := of_decide_eq_true (by first | (with_reducible assumption) | assumption)
                              have q241 : x13_3 < (t227.length : Int) := of_decide_eq_true (by first | (with_reducible assumption) | assumption)
                              obtain ⟨ad241, e241, hx241_0, hx241_1, hx241_2, hx241_3⟩ := at_T34 (Kd.R_reads' HO_0.out).2.2 x13_3 p241 q241
                              cases e241
                              replace p241 := eq_true p241
                              replace q241 := eq_true q241
                              obtain ⟨Ao30, co30, eo30⟩ := Kd.R_slice HO_9.out
                              (first | subst eo30 | (injection eo30 with f1_ f2_ f3_; have f4_ := f1_.symm; have f5_ := f3_.symm; clear f1_ f2_ f3_; subst f4_; subst f5_))
                              have p242 : 0 ≤ (0 : Int) := (by omega)
                              have q242 : 0 < (x9_1.length : Int) := of_decide_eq_true (by first | (with_reducible assumption) | assumption)
                              obtain ⟨ad242, e242, hx242_0, hx242_1⟩ := at_T24 (Kd.R_reads' HO_9.out).2.2 0 p242 q242
                              cases e242
                              have qi242 : (0 < x9_1.length) = True := eq_true (by omega)
                              (try rw [show ((0 : Int)).toNat = 0 from rfl] at hx242_0)
                              (try rw [show 0 * 2 = 0 from rfl] at hx242_0)
                              (try rw [Addr.add_zero'] at hx242_0)
                              (try rw [show ((0 : Int)).toNat = 0 from rfl] at hx242_1)
                              (try rw [show 0 * 2 = 0 from rfl] at hx242_1)
                              (try rw [Addr.add_zero'] at hx242_1)
                              replace p242 := eq_true p242
                              replace q242 := eq_true q242
                              refine start_ (n := 9) (S := fun w' => w'.cell? (ad241.add ((x13_3).toNat * 4)) = some (.string ((rd_T34 t227 x13_3).f0.f0)) ∧ w'.cell? ⟨(ad241.add ((x13_3).toNat * 4)).block, (ad241.add ((x13_3).toNat * 4)).off + 1, none⟩ = some (.string ((rd_T34 t227 x13_3).f0.f1)) ∧ w'.cell? ⟨(ad241.add ((x13_3).toNat * 4)).block, (ad241.add ((x13_3).toNat * 4)).off + 2, none⟩ = some (.string ((rd_T34 t227 x13_3).f1.f0)) ∧ w'.cell? ⟨(ad241.add ((x13_3).toNat * 4)).block, (ad241.add ((x13_3).toNat * 4)).off + 3, none⟩ = some (.string ((rd_T34 t227 x13_3).f1.f1)) ∧ w'.cell? ad242 = some (.string ((rd_T24 x9_1 0).f0)) ∧ w'.cell? ⟨ad242.block, ad242.off + 1, none⟩ = some (.string ((rd_T24 x9_1 0).f1))) (ds := []) #[false, false, false, false, false, false, false, false, false] (by kernel_rfl) rfl rfl ⟨hx241_0, hx241_1, hx241_2, hx241_3, hx242_0, hx242_1⟩ (fun hHeld => ?_); refine with_tabW graftwoodlaw19_WhyLeast.tab14 graftwoodlaw19_WhyLeast.bits14 (fun HT_ HW_ => ?_)
                              generalize wr.drew = w29 at HO_0 HO_7 HO_9 HO_11 BK226 HB hx241_0 hx241_1 hx241_2 hx241_3 hx242_0 hx242_1 hHeld ⊢
                              refine pure_ (i := 0) (N := some 46) (v := ?_) (a' := ?_) #[true, false, false, false, false, false, false, false, false] rfl rfl (any_of HT_.out (by kernel_rfl)) (fun _ _ _ h => h) (Or.inl ⟨by rfl, ?_⟩) ?_ ?_
                              rotate_left
                              · intro w'
                                go_simp
                                with_reducible rfl
                              rotate_left
                              · simp only [Act.put, List.setIfInBounds_toArray, List.set_cons_zero, List.set_cons_succ, i64_w, i32_w]
                                rfl
                              refine pure_ (i := 1) (N := some 47) (v := ?_) (a' := ?_) #[true, true, false, false, false, false, false, false, false] rfl rfl (any_of HT_.out (by kernel_rfl)) (fun _ _ _ h => h) (Or.inl ⟨by rfl, ?_⟩) ?_ ?_
                              rotate_left
                              · intro w'
                                go_simp
                                with_reducible rfl
                              rotate_left
                              · simp only [Act.put, List.setIfInBounds_toArray, List.set_cons_zero, List.set_cons_succ, i64_w, i32_w]
                                rfl
                              refine pure_ (i := 2) (N := some 48) (v := ?_) (a' := ?_) #[true, true, true, false, false, false, false, false, false] rfl rfl (any_of HT_.out (by kernel_rfl)) (fun _ _ _ h => h) (Or.inl ⟨by rfl, ?_⟩) ?_ ?_
                              rotate_left
                              · intro w'
                                go_simp
                                with_reducible rfl
                              rotate_left
                              · simp only [Act.put, List.setIfInBounds_toArray, List.set_cons_zero, List.set_cons_succ, i64_w, i32_w]
                                rfl
                              refine pure_ (i := 3) (N := some 49) (v := ?_) (a' := ?_) #[true, true, true, true, false, false, false, false, false] rfl rfl (any_of HT_.out (by kernel_rfl)) (fun _ _ _ h => h) (Or.inl ⟨by rfl, ?_⟩) ?_ ?_
                              rotate_left
                              · intro w'
                                go_simp
                                with_reducible rfl
                              rotate_left
                              · simp only [Act.put, List.setIfInBounds_toArray, List.set_cons_zero, List.set_cons_succ, i64_w, i32_w]
                                rfl
                              refine pure_ (i := 5) (N := some 51) (v := ?_) (a' := ?_) #[true, true, true, true, false, true, false, false, false] rfl rfl (any_of HT_.out (by kernel_rfl)) (fun _ _ _ h => h) (Or.inl ⟨by rfl, ?_⟩) ?_ ?_
                              rotate_left
                              · intro w'
                                go_simp
                                with_reducible rfl
                              rotate_left
                              · simp only [Act.put, List.setIfInBounds_toArray, List.set_cons_zero, List.set_cons_succ, i64_w, i32_w]
                                rfl
                              refine pure_ (i := 6) (N := some 52) (v := ?_) (a' := ?_) #[true, true, true, true, false, true, true, false, false] rfl rfl (any_of HT_.out (by kernel_rfl)) (fun _ _ _ h => h) (Or.inl ⟨by rfl, ?_⟩) ?_ ?_
                              rotate_left
                              · intro w'
                                go_simp
                                with_reducible rfl
                              rotate_left
                              · simp only [Act.put, List.setIfInBounds_toArray, List.set_cons_zero, List.set_cons_succ, i64_w, i32_w]
                                rfl
                              refine take_ (i := 4) (N := some 50) (v := ?_) (a' := ?_) #[true, true, true, true, true, true, true, false, false] rfl rfl (take_ofW HT_.out HW_.out (by kernel_rfl)) (fun _ _ _ h => h) (Or.inl ⟨by rfl, ?_⟩) hHeld ?_ ?_
                              rotate_left
                              · rintro w' ⟨s0, s1, s2, s3, s4, s5⟩
                                go_simp
                                with_reducible rfl
                              rotate_left
                              · simp only [Act.put, List.setIfInBounds_toArray, List.set_cons_zero, List.set_cons_succ, i64_w, i32_w]
                                rfl
                              refine take_ (i := 7) (N := some 53) (v := ?_) (a' := ?_) #[true, true, true, true, true, true, true, true, false] rfl rfl (take_ofW HT_.out HW_.out (by kernel_rfl)) (fun _ _ _ h => h) (Or.inl ⟨by rfl, ?_⟩) hHeld ?_ ?_
                              rotate_left
                              · rintro w' ⟨s0, s1, s2, s3, s4, s5⟩
                                go_simp
                                with_reducible rfl
                              rotate_left
                              · simp only [Act.put, List.setIfInBounds_toArray, List.set_cons_zero, List.set_cons_succ, i64_w, i32_w]
                                rfl
                              refine pure_ (i := 8) (N := some 54) (v := ?_) (a' := ?_) #[true, true, true, true, true, true, true, true, true] rfl rfl (any_of HT_.out (by kernel_rfl)) (fun _ _ _ h => h) (Or.inl ⟨by rfl, ?_⟩) ?_ ?_
                              rotate_left
                              · intro w'
                                go_simp
                                with_reducible rfl
                              rotate_left
                              · simp only [Act.put, List.setIfInBounds_toArray, List.set_cons_zero, List.set_cons_succ, i64_w, i32_w]
                                rfl
                              refine done_ (done_of HT_.out (by kernel_rfl)) ?_
                              have p243 : 0 ≤ (x13_3 : Int) := of_decide_eq_true (by first | (with_reducible assumption) | assumption)
                              have q243 : x13_3 < (t227.length : Int) := of_decide_eq_true (by first | (with_reducible assumption) | assumption)
                              obtain ⟨ad243, e243, hx243_0, hx243_1, hx243_2, hx243_3⟩ := at_T34 (Kd.R_reads' HO_0.out).2.2 x13_3 p243 q243
                              obtain rfl : ad241 = ad243 := (by injection e243)
                              replace p243 := eq_true p243
                              replace q243 := eq_true q243
                              try go_wp2_with (first | ((with_reducible refine gate_builtin (b := .append) (xs := #[.tmp 65, .tmp 71]) rfl ?_); (try (refine gate_guard (by rfl) ?_; dsimp only)); at_builtin; refine Kd.R_append k24 (w0 := w) w.heap.size rfl (.tmp 65) (.tmp 71) 28 24 (.agg #[(.string ⟨#[]⟩), (.string ⟨#[]⟩)]) 32 rfl Tryd.underlying28 info24 rfl (by decide) (by omega) u11 x11_3 (⟨(rd_T34 t227 x13_3).f0.f0, (rd_T34 t227 x13_3).f0.f1⟩ : S24) [.string ((rd_T34 t227 x13_3).f0.f0), .string ((rd_T34 t227 x13_3).f0.f1)] (fun k_ => some k_ ≠ (v233 : Value).ownBlock ∧ some k_ ≠ (.slice (some ad242) x9_1.length co30 : Value).ownBlock ∧ k_ ≠ gb226) (fun _ => False) rfl rfl ?aP (fun _ hk => hk.elim) ?aF ?aO ?aB ?aS ?aL ?_; (case aP => exact k24_mkM _ _ _ (⟨(rd_T34 t227 x13_3).f0.f0, (rd_T34 t227 x13_3).f0.f1⟩ : S24)); (case aB => exact (by repeat (first | (with_reducible first | exact HB.out | apply below_alloc | apply pw_below_drewN | apply below_drew1 | refine below_set ?_ GE226.out) | exact HB.out))); (case aF => exact (fun k_ hk => ⟨Kd.fresh' (Kd.R_lt (by (with_reducible repeat (first | apply Kd.R_alloc | apply Kd.R_drewN | apply Kd.R_drew)); exact HO_7.out)) k_ hk, Kd.fresh' (Kd.R_lt (by (with_reducible repeat (first | apply Kd.R_alloc | apply Kd.R_drewN | apply Kd.R_drew)); exact HO_9.out)) k_ hk, Kd.freshB (g := gb226) (o := .cells #[.string t230, .string t231] 24 (0, 0)) (by (with_reducible repeat (first | refine blk_drewN ?_ _ | refine blk_drew ?_ | refine blk_alloc ?_ _)); exact BK226.out) k_ hk⟩)); (case aO => exact (by (with_reducible repeat (first | apply Kd.R_alloc | apply Kd.R_drewN | apply Kd.R_drew)); exact HO_11.out)); (case aS => exact (below_size (by repeat (first | (with_reducible first | exact HB.out | apply below_alloc | apply pw_below_drewN | apply below_drew1 | refine below_set ?_ GE226.out) | exact HB.out)))); (case aL => have := LMc28.out; omega); intro v245 w31 ho hb hg hat; rw [← Ny244.out] at ho; have n0_ := Aside0.mk (Kd.R_over' (by (with_reducible repeat (first | apply Kd.R_alloc | apply Kd.R_drewN | apply Kd.R_drew)); exact HO_0.out) (Kd.R_typed (by (with_reducible repeat (first | apply Kd.R_alloc | apply Kd.R_drewN | apply Kd.R_drew)); exact HO_11.out)) (by decide) hg); have n1_ := Aside0.mk (Kd.R_after (ok := (fun k_ => some k_ ≠ (.slice (some ad242) x9_1.length co30 : Value).ownBlock ∧ k_ ≠ gb226)) (by (with_reducible repeat (first | apply Kd.R_alloc | apply Kd.R_drewN | apply Kd.R_drew)); exact Kd.R_mono HO_7.out (fun _ hk => ⟨⟨hk.1, hk.2.2⟩, hk.2.1⟩)) hg hat); have n2_ := Aside0.mk (Kd.R_after (ok := (fun k_ => some k_ ≠ (v233 : Value).ownBlock ∧ k_ ≠ gb226)) (by (with_reducible repeat (first | apply Kd.R_alloc | apply Kd.R_drewN | apply Kd.R_drew)); exact Kd.R_mono HO_9.out (fun _ hk => ⟨⟨hk.1, hk.2.2⟩, hk.2.1⟩)) hg hat); have n3_ := Aside0.mk (blk_grown (g := gb226) (o := .cells #[.string t230, .string t231] 24 (0, 0)) (by (with_reducible repeat (first | refine blk_drewN ?_ _ | refine blk_drew ?_ | refine blk_alloc ?_ _)); exact BK226.out) hg (Kd.R_away HO_11.out (fun _ hk => hk.2.2))); have n4_ := Aside0.mk (hb); have n5_ := Aside0.mk (ho); clear HO_0; clear HO_7; clear HO_9; clear BK226; clear HB; clear HO_11; have HO_0 := n0_; have HO_7 := n1_; have HO_9 := n2_; have BK226 := n3_; have HB := n4_; have HO246 := n5_; clear n0_ n1_ n2_ n3_ n4_ n5_; clear ho hb hg hat))
                              go_roundg k3
                              case measure => have := HK1.out; have := HJ19.out; have := HK3.out; omega
                              case rel => exact ⟨(y244), (true), (wrap64 (x13_3 + 1)), (by first | rfl | (simp; done) | (simp [*]; done)), (by first | rfl | (simp; done) | (simp [*]; done)), H', ⟨by have := HK1.out; have := HJ19.out; have := HK3.out; omega⟩, ⟨by (with_reducible repeat (first | apply Kd.R_alloc | apply Kd.R_drewN | apply Kd.R_drew)); exact HO_0.out⟩, ⟨by (with_reducible repeat (first | apply Kd.R_alloc | apply Kd.R_drewN | apply Kd.R_drew)); exact Kd.R_mono HO_7.out (fun _ hk => ⟨hk.1.1, ⟨hk.2, hk.1.2⟩⟩)⟩, ⟨by (with_reducible repeat (first | apply Kd.R_alloc | apply Kd.R_drewN | apply Kd.R_drew)); exact Kd.R_mono HO_9.out (fun _ hk => ⟨hk.1.1, ⟨hk.2, hk.1.2⟩⟩)⟩, ⟨by (with_reducible repeat (first | apply Kd.R_alloc | apply Kd.R_drewN | apply Kd.R_drew)); exact HO246.out⟩, ⟨by (with_reducible repeat (first | refine blk_drewN ?_ _ | refine blk_drew ?_ | refine blk_alloc ?_ _)); exact BK226.out⟩, ⟨by repeat (first | (with_reducible first | exact HB.out | apply below_alloc | apply pw_below_drewN | apply below_drew1 | refine below_set ?_ GE226.out) | exact HB.out)⟩⟩
                            · rw [if_neg c28] at H
                              exact absurd H (by simp)
                          · replace c27 := Bool.eq_false_iff.mpr c27
                            subst c27
                            have H1 : (if x11_3.length < 4398046511104 then (graftwoodlaw19_WhyLeast.l1 k3 t227 l2 t232 x9_1 x10_1 (x11_3 ++ [(⟨(rd_T34 t227 x13_3).f0.f0, (rd_T34 t227 x13_3).f0.f1⟩ : S24)]) ((((rd_T34 t227 x13_3).f0.f0).toList) == ([] : List UInt8) && ((((rd_T34 t227 x13_3).f0.f1).toList) == ([] : List UInt8))) (wrap64 (x13_3 + 1))) else (none)) = some r := by rw [if_neg (show ¬ (false = true) by decide)] at H; exact H
                            clear H
                            have H := H1
                            clear H1
                            by_cases c32 : x11_3.length < 4398046511104
                            · rw [if_pos c32] at H
                              have LMc32 := Aside0.mk c32
                              clear c32
                              obtain ⟨y249, hy249⟩ : ∃ y_ : List (S24), y_ = (x11_3 ++ [(⟨(rd_T34 t227 x13_3).f0.f0, (rd_T34 t227 x13_3).f0.f1⟩ : S24)]) := ⟨_, rfl⟩
                              replace H : (graftwoodlaw19_WhyLeast.l1 k3 t227 l2 t232 x9_1 x10_1 y249 ((((rd_T34 t227 x13_3).f0.f0).toList) == ([] : List UInt8) && ((((rd_T34 t227 x13_3).f0.f1).toList) == ([] : List UInt8))) (wrap64 (x13_3 + 1))) = some r := by first | (rw [hy249]; with_reducible exact H) | (have H2_ := (Option.bind_some _ _).symm.trans H; rw [hy249]; with_reducible exact H2_) | (have H2_ := (Option.bind_some _ _).symm.trans H; with_reducible exact H2_) | with_reducible exact H | (rw [hy249]; exact H) | exact H
                              have Ny249 := Aside0.mk hy249
                              clear hy249
                              have H' := Aside0.mk H
                              clear H
                              try go_wp2
                              have n0_ := Aside0.mk (Kd.R_drew HO_0.out)
                              have n1_ := Aside0.mk (Kd.R_drew HO_7.out)
                              have n2_ := Aside0.mk (Kd.R_drew HO_9.out)
                              have n3_ := Aside0.mk (Kd.R_drew HO_11.out)
                              have n4_ := Aside0.mk (blk_drew BK226.out)
                              have n5_ := Aside0.mk (below_drew1 HB.out)
                              clear HO_0
                              clear HO_7
                              clear HO_9
                              clear HO_11
                              clear BK226
                              clear HB
                              have HO_0 := n0_
                              have HO_7 := n1_
                              have HO_9 := n2_
                              have HO_11 := n3_
                              have BK226 := n4_
                              have HB := n5_
                              clear n0_ n1_ n2_ n3_ n4_ n5_
                              have p241 : 0 ≤ (x13_3 : Int) := of_decide_eq_true (by first | (with_reducible assumption) | assumption)
                              have q241 : x13_3 < (t227.length : Int) := of_decide_eq_true (by first | (with_reducible assumption) | assumption)
                              obtain ⟨ad241, e241, hx241_0, hx241_1, hx241_2, hx241_3⟩ := at_T34 (Kd.R_reads' HO_0.out).2.2 x13_3 p241 q241
                              cases e241
                              replace p241 := eq_true p241
                              replace q241 := eq_true q241
                              obtain ⟨Ao34, co34, eo34⟩ := Kd.R_slice HO_9.out
                              (first | subst eo34 | (injection eo34 with f1_ f2_ f3_; have f4_ := f1_.symm; have f5_ := f3_.symm; clear f1_ f2_ f3_; subst f4_; subst f5_))
                              have p242 : 0 ≤ (0 : Int) := (by omega)
                              have q242 : 0 < (x9_1.length : Int) := of_decide_eq_true (by first | (with_reducible assumption) | assumption)
                              obtain ⟨ad242, e242, hx242_0, hx242_1⟩ := at_T24 (Kd.R_reads' HO_9.out).2.2 0 p242 q242
                              cases e242
                              have qi242 : (0 < x9_1.length) = True := eq_true (by omega)
                              (try rw [show ((0 : Int)).toNat = 0 from rfl] at hx242_0)
                              (try rw [show 0 * 2 = 0 from rfl] at hx242_0)
                              (try rw [Addr.add_zero'] at hx242_0)
                              (try rw [show ((0 : Int)).toNat = 0 from rfl] at hx242_1)
                              (try rw [show 0 * 2 = 0 from rfl] at hx242_1)
                              (try rw [Addr.add_zero'] at hx242_1)
                              replace p242 := eq_true p242
                              replace q242 := eq_true q242
                              refine start_ (n := 9) (S := fun w' => w'.cell? (ad241.add ((x13_3).toNat * 4)) = some (.string ((rd_T34 t227 x13_3).f0.f0)) ∧ w'.cell? ⟨(ad241.add ((x13_3).toNat * 4)).block, (ad241.add ((x13_3).toNat * 4)).off + 1, none⟩ = some (.string ((rd_T34 t227 x13_3).f0.f1)) ∧ w'.cell? ⟨(ad241.add ((x13_3).toNat * 4)).block, (ad241.add ((x13_3).toNat * 4)).off + 2, none⟩ = some (.string ((rd_T34 t227 x13_3).f1.f0)) ∧ w'.cell? ⟨(ad241.add ((x13_3).toNat * 4)).block, (ad241.add ((x13_3).toNat * 4)).off + 3, none⟩ = some (.string ((rd_T34 t227 x13_3).f1.f1)) ∧ w'.cell? ad242 = some (.string ((rd_T24 x9_1 0).f0)) ∧ w'.cell? ⟨ad242.block, ad242.off + 1, none⟩ = some (.string ((rd_T24 x9_1 0).f1))) (ds := []) #[false, false, false, false, false, false, false, false, false] (by kernel_rfl) rfl rfl ⟨hx241_0, hx241_1, hx241_2, hx241_3, hx242_0, hx242_1⟩ (fun hHeld => ?_); refine with_tabW graftwoodlaw19_WhyLeast.tab14 graftwoodlaw19_WhyLeast.bits14 (fun HT_ HW_ => ?_)
                              generalize wr.drew = w33 at HO_0 HO_7 HO_9 HO_11 BK226 HB hx241_0 hx241_1 hx241_2 hx241_3 hx242_0 hx242_1 hHeld ⊢
                              refine pure_ (i := 0) (N := some 46) (v := ?_) (a' := ?_) #[true, false, false, false, false, false, false, false, false] rfl rfl (any_of HT_.out (by kernel_rfl)) (fun _ _ _ h => h) (Or.inl ⟨by rfl, ?_⟩) ?_ ?_
                              rotate_left
                              · intro w'
                                go_simp
                                with_reducible rfl
                              rotate_left
                              · simp only [Act.put, List.setIfInBounds_toArray, List.set_cons_zero, List.set_cons_succ, i64_w, i32_w]
                                rfl
                              refine pure_ (i := 1) (N := some 47) (v := ?_) (a' := ?_) #[true, true, false, false, false, false, false, false, false] rfl rfl (any_of HT_.out (by kernel_rfl)) (fun _ _ _ h => h) (Or.inl ⟨by rfl, ?_⟩) ?_ ?_
                              rotate_left
                              · intro w'
                                go_simp
                                with_reducible rfl
                              rotate_left
                              · simp only [Act.put, List.setIfInBounds_toArray, List.set_cons_zero, List.set_cons_succ, i64_w, i32_w]
                                rfl
                              refine pure_ (i := 2) (N := some 48) (v := ?_) (a' := ?_) #[true, true, true, false, false, false, false, false, false] rfl rfl (any_of HT_.out (by kernel_rfl)) (fun _ _ _ h => h) (Or.inl ⟨by rfl, ?_⟩) ?_ ?_
                              rotate_left
                              · intro w'
                                go_simp
                                with_reducible rfl
                              rotate_left
                              · simp only [Act.put, List.setIfInBounds_toArray, List.set_cons_zero, List.set_cons_succ, i64_w, i32_w]
                                rfl
                              refine pure_ (i := 3) (N := some 49) (v := ?_) (a' := ?_) #[true, true, true, true, false, false, false, false, false] rfl rfl (any_of HT_.out (by kernel_rfl)) (fun _ _ _ h => h) (Or.inl ⟨by rfl, ?_⟩) ?_ ?_
                              rotate_left
                              · intro w'
                                go_simp
                                with_reducible rfl
                              rotate_left
                              · simp only [Act.put, List.setIfInBounds_toArray, List.set_cons_zero, List.set_cons_succ, i64_w, i32_w]
                                rfl
                              refine pure_ (i := 5) (N := some 51) (v := ?_) (a' := ?_) #[true, true, true, true, false, true, false, false, false] rfl rfl (any_of HT_.out (by kernel_rfl)) (fun _ _ _ h => h) (Or.inl ⟨by rfl, ?_⟩) ?_ ?_
                              rotate_left
                              · intro w'
                                go_simp
                                with_reducible rfl
                              rotate_left
                              · simp only [Act.put, List.setIfInBounds_toArray, List.set_cons_zero, List.set_cons_succ, i64_w, i32_w]
                                rfl
                              refine pure_ (i := 6) (N := some 52) (v := ?_) (a' := ?_) #[true, true, true, true, false, true, true, false, false] rfl rfl (any_of HT_.out (by kernel_rfl)) (fun _ _ _ h => h) (Or.inl ⟨by rfl, ?_⟩) ?_ ?_
                              rotate_left
                              · intro w'
                                go_simp
                                with_reducible rfl
                              rotate_left
                              · simp only [Act.put, List.setIfInBounds_toArray, List.set_cons_zero, List.set_cons_succ, i64_w, i32_w]
                                rfl
                              refine take_ (i := 4) (N := some 50) (v := ?_) (a' := ?_) #[true, true, true, true, true, true, true, false, false] rfl rfl (take_ofW HT_.out HW_.out (by kernel_rfl)) (fun _ _ _ h => h) (Or.inl ⟨by rfl, ?_⟩) hHeld ?_ ?_
                              rotate_left
                              · rintro w' ⟨s0, s1, s2, s3, s4, s5⟩
                                go_simp
                                with_reducible rfl
                              rotate_left
                              · simp only [Act.put, List.setIfInBounds_toArray, List.set_cons_zero, List.set_cons_succ, i64_w, i32_w]
                                rfl
                              refine take_ (i := 7) (N := some 53) (v := ?_) (a' := ?_) #[true, true, true, true, true, true, true, true, false] rfl rfl (take_ofW HT_.out HW_.out (by kernel_rfl)) (fun _ _ _ h => h) (Or.inl ⟨by rfl, ?_⟩) hHeld ?_ ?_
                              rotate_left
                              · rintro w' ⟨s0, s1, s2, s3, s4, s5⟩
                                go_simp
                                with_reducible rfl
                              rotate_left
                              · simp only [Act.put, List.setIfInBounds_toArray, List.set_cons_zero, List.set_cons_succ, i64_w, i32_w]
                                rfl
                              refine pure_ (i := 8) (N := some 54) (v := ?_) (a' := ?_) #[true, true, true, true, true, true, true, true, true] rfl rfl (any_of HT_.out (by kernel_rfl)) (fun _ _ _ h => h) (Or.inl ⟨by rfl, ?_⟩) ?_ ?_
                              rotate_left
                              · intro w'
                                go_simp
                                with_reducible rfl
                              rotate_left
                              · simp only [Act.put, List.setIfInBounds_toArray, List.set_cons_zero, List.set_cons_succ, i64_w, i32_w]
                                rfl
                              refine done_ (done_of HT_.out (by kernel_rfl)) ?_
                              have p247 : 0 ≤ (x13_3 : Int) := of_decide_eq_true (by first | (with_reducible assumption) | assumption)
                              have q247 : x13_3 < (t227.length : Int) := of_decide_eq_true (by first | (with_reducible assumption) | assumption)
                              obtain ⟨ad247, e247, hx247_0, hx247_1, hx247_2, hx247_3⟩ := at_T34 (Kd.R_reads' HO_0.out).2.2 x13_3 p247 q247
                              obtain rfl : ad241 = ad247 := (by injection e247)
                              replace p247 := eq_true p247
                              replace q247 := eq_true q247
                              have p248 : 0 ≤ (x13_3 : Int) := of_decide_eq_true (by first | (with_reducible assumption) | assumption)
                              have q248 : x13_3 < (t227.length : Int) := of_decide_eq_true (by first | (with_reducible assumption) | assumption)
                              obtain ⟨ad248, e248, hx248_0, hx248_1, hx248_2, hx248_3⟩ := at_T34 (Kd.R_reads' HO_0.out).2.2 x13_3 p248 q248
                              obtain rfl : ad241 = ad248 := (by injection e248)
                              replace p248 := eq_true p248
                              replace q248 := eq_true q248
                              try go_wp2_with (first | ((with_reducible refine gate_builtin (b := .append) (xs := #[.tmp 65, .tmp 71]) rfl ?_); (try (refine gate_guard (by rfl) ?_; dsimp only)); at_builtin; refine Kd.R_append k24 (w0 := w) w.heap.size rfl (.tmp 65) (.tmp 71) 28 24 (.agg #[(.string ⟨#[]⟩), (.string ⟨#[]⟩)]) 32 rfl Tryd.underlying28 info24 rfl (by decide) (by omega) u11 x11_3 (⟨(rd_T34 t227 x13_3).f0.f0, (rd_T34 t227 x13_3).f0.f1⟩ : S24) [.string ((rd_T34 t227 x13_3).f0.f0), .string ((rd_T34 t227 x13_3).f0.f1)] (fun k_ => some k_ ≠ (v233 : Value).ownBlock ∧ some k_ ≠ (.slice (some ad242) x9_1.length co34 : Value).ownBlock ∧ k_ ≠ gb226) (fun _ => False) rfl rfl ?aP (fun _ hk => hk.elim) ?aF ?aO ?aB ?aS ?aL ?_; (case aP => exact k24_mkM _ _ _ (⟨(rd_T34 t227 x13_3).f0.f0, (rd_T34 t227 x13_3).f0.f1⟩ : S24)); (case aB => exact (by repeat (first | (with_reducible first | exact HB.out | apply below_alloc | apply pw_below_drewN | apply below_drew1 | refine below_set ?_ GE226.out) | exact HB.out))); (case aF => exact (fun k_ hk => ⟨Kd.fresh' (Kd.R_lt (by (with_reducible repeat (first | apply Kd.R_alloc | apply Kd.R_drewN | apply Kd.R_drew)); exact HO_7.out)) k_ hk, Kd.fresh' (Kd.R_lt (by (with_reducible repeat (first | apply Kd.R_alloc | apply Kd.R_drewN | apply Kd.R_drew)); exact HO_9.out)) k_ hk, Kd.freshB (g := gb226) (o := .cells #[.string t230, .string t231] 24 (0, 0)) (by (with_reducible repeat (first | refine blk_drewN ?_ _ | refine blk_drew ?_ | refine blk_alloc ?_ _)); exact BK226.out) k_ hk⟩)); (case aO => exact (by (with_reducible repeat (first | apply Kd.R_alloc | apply Kd.R_drewN | apply Kd.R_drew)); exact HO_11.out)); (case aS => exact (below_size (by repeat (first | (with_reducible first | exact HB.out | apply below_alloc | apply pw_below_drewN | apply below_drew1 | refine below_set ?_ GE226.out) | exact HB.out)))); (case aL => have := LMc32.out; omega); intro v250 w35 ho hb hg hat; rw [← Ny249.out] at ho; have n0_ := Aside0.mk (Kd.R_over' (by (with_reducible repeat (first | apply Kd.R_alloc | apply Kd.R_drewN | apply Kd.R_drew)); exact HO_0.out) (Kd.R_typed (by (with_reducible repeat (first | apply Kd.R_alloc | apply Kd.R_drewN | apply Kd.R_drew)); exact HO_11.out)) (by decide) hg); have n1_ := Aside0.mk (Kd.R_after (ok := (fun k_ => some k_ ≠ (.slice (some ad242) x9_1.length co34 : Value).ownBlock ∧ k_ ≠ gb226)) (by (with_reducible repeat (first | apply Kd.R_alloc | apply Kd.R_drewN | apply Kd.R_drew)); exact Kd.R_mono HO_7.out (fun _ hk => ⟨⟨hk.1, hk.2.2⟩, hk.2.1⟩)) hg hat); have n2_ := Aside0.mk (Kd.R_after (ok := (fun k_ => some k_ ≠ (v233 : Value).ownBlock ∧ k_ ≠ gb226)) (by (with_reducible repeat (first | apply Kd.R_alloc | apply Kd.R_drewN | apply Kd.R_drew)); exact Kd.R_mono HO_9.out (fun _ hk => ⟨⟨hk.1, hk.2.2⟩, hk.2.1⟩)) hg hat); have n3_ := Aside0.mk (blk_grown (g := gb226) (o := .cells #[.string t230, .string t231] 24 (0, 0)) (by (with_reducible repeat (first | refine blk_drewN ?_ _ | refine blk_drew ?_ | refine blk_alloc ?_ _)); exact BK226.out) hg (Kd.R_away HO_11.out (fun _ hk => hk.2.2))); have n4_ := Aside0.mk (hb); have n5_ := Aside0.mk (ho); clear HO_0; clear HO_7; clear HO_9; clear BK226; clear HB; clear HO_11; have HO_0 := n0_; have HO_7 := n1_; have HO_9 := n2_; have BK226 := n3_; have HB := n4_; have HO251 := n5_; clear n0_ n1_ n2_ n3_ n4_ n5_; clear ho hb hg hat))
                              go_roundg k3
                              case measure => have := HK1.out; have := HJ19.out; have := HK3.out; omega
                              case rel => exact ⟨(y249), (((((rd_T34 t227 x13_3).f0.f0).toList) == ([] : List UInt8) && ((((rd_T34 t227 x13_3).f0.f1).toList) == ([] : List UInt8)))), (wrap64 (x13_3 + 1)), (by first | rfl | (simp; done) | (simp [*]; done)), (by first | rfl | (simp; done) | (simp [*]; done)), H', ⟨by have := HK1.out; have := HJ19.out; have := HK3.out; omega⟩, ⟨by (with_reducible repeat (first | apply Kd.R_alloc | apply Kd.R_drewN | apply Kd.R_drew)); exact HO_0.out⟩, ⟨by (with_reducible repeat (first | apply Kd.R_alloc | apply Kd.R_drewN | apply Kd.R_drew)); exact Kd.R_mono HO_7.out (fun _ hk => ⟨hk.1.1, ⟨hk.2, hk.1.2⟩⟩)⟩, ⟨by (with_reducible repeat (first | apply Kd.R_alloc | apply Kd.R_drewN | apply Kd.R_drew)); exact Kd.R_mono HO_9.out (fun _ hk => ⟨hk.1.1, ⟨hk.2, hk.1.2⟩⟩)⟩, ⟨by (with_reducible repeat (first | apply Kd.R_alloc | apply Kd.R_drewN | apply Kd.R_drew)); exact HO251.out⟩, ⟨by (with_reducible repeat (first | refine blk_drewN ?_ _ | refine blk_drew ?_ | refine blk_alloc ?_ _)); exact BK226.out⟩, ⟨by repeat (first | (with_reducible first | exact HB.out | apply below_alloc | apply pw_below_drewN | apply below_drew1 | refine below_set ?_ GE226.out) | exact HB.out)⟩⟩
                            · rw [if_neg c32] at H
                              exact absurd H (by simp)
                        · rw [if_neg c26] at H
                          have c26b0 : ((((rd_T34 t227 x13_3).f1.f0).toList) == (((rd_T24 x9_1 0).f0).toList) && ((((rd_T34 t227 x13_3).f1.f1).toList) == (((rd_T24 x9_1 0).f1).toList))) = false := by simpa using c26
                          (try (have c26b1 : decide ((((rd_T34 t227 x13_3).f1.f0).toList) = (((rd_T24 x9_1 0).f0).toList) && ((((rd_T34 t227 x13_3).f1.f1).toList) == (((rd_T24 x9_1 0).f1).toList))) = false := by simpa using c26))
                          (try (have c26b2 : ((((rd_T34 t227 x13_3).f1.f0).toList) == (((rd_T24 x9_1 0).f0).toList) && ((((rd_T34 t227 x13_3).f1.f1).toList) == (((rd_T24 x9_1 0).f1).toList))) = false := by simpa using c26))
                          (try (have c26b3 : ¬ ((((rd_T34 t227 x13_3).f1.f0).toList) = (((rd_T24 x9_1 0).f0).toList) && ((((rd_T34 t227 x13_3).f1.f1).toList) == (((rd_T24 x9_1 0).f1).toList))) := by simpa using c26))
                          clear c26
                          have H' := Aside0.mk H
                          clear H
                          try go_wp2
                          have n0_ := Aside0.mk (Kd.R_drew HO_0.out)
                          have n1_ := Aside0.mk (Kd.R_drew HO_7.out)
                          have n2_ := Aside0.mk (Kd.R_drew HO_9.out)
                          have n3_ := Aside0.mk (Kd.R_drew HO_11.out)
                          have n4_ := Aside0.mk (blk_drew BK226.out)
                          have n5_ := Aside0.mk (below_drew1 HB.out)
                          clear HO_0
                          clear HO_7
                          clear HO_9
                          clear HO_11
                          clear BK226
                          clear HB
                          have HO_0 := n0_
                          have HO_7 := n1_
                          have HO_9 := n2_
                          have HO_11 := n3_
                          have BK226 := n4_
                          have HB := n5_
                          clear n0_ n1_ n2_ n3_ n4_ n5_
                          have p241 : 0 ≤ (x13_3 : Int) := of_decide_eq_true (by first | (with_reducible assumption) | assumption)
                          have q241 : x13_3 < (t227.length : Int) := of_decide_eq_true (by first | (with_reducible assumption) | assumption)
                          obtain ⟨ad241, e241, hx241_0, hx241_1, hx241_2, hx241_3⟩ := at_T34 (Kd.R_reads' HO_0.out).2.2 x13_3 p241 q241
                          cases e241
                          replace p241 := eq_true p241
                          replace q241 := eq_true q241
                          obtain ⟨Ao37, co37, eo37⟩ := Kd.R_slice HO_9.out
                          (first | subst eo37 | (injection eo37 with f1_ f2_ f3_; have f4_ := f1_.symm; have f5_ := f3_.symm; clear f1_ f2_ f3_; subst f4_; subst f5_))
                          have p242 : 0 ≤ (0 : Int) := (by omega)
                          have q242 : 0 < (x9_1.length : Int) := of_decide_eq_true (by first | (with_reducible assumption) | assumption)
                          obtain ⟨ad242, e242, hx242_0, hx242_1⟩ := at_T24 (Kd.R_reads' HO_9.out).2.2 0 p242 q242
                          cases e242
                          have qi242 : (0 < x9_1.length) = True := eq_true (by omega)
                          (try rw [show ((0 : Int)).toNat = 0 from rfl] at hx242_0)
                          (try rw [show 0 * 2 = 0 from rfl] at hx242_0)
                          (try rw [Addr.add_zero'] at hx242_0)
                          (try rw [show ((0 : Int)).toNat = 0 from rfl] at hx242_1)
                          (try rw [show 0 * 2 = 0 from rfl] at hx242_1)
                          (try rw [Addr.add_zero'] at hx242_1)
                          replace p242 := eq_true p242
                          replace q242 := eq_true q242
                          refine start_ (n := 9) (S := fun w' => w'.cell? (ad241.add ((x13_3).toNat * 4)) = some (.string ((rd_T34 t227 x13_3).f0.f0)) ∧ w'.cell? ⟨(ad241.add ((x13_3).toNat * 4)).block, (ad241.add ((x13_3).toNat * 4)).off + 1, none⟩ = some (.string ((rd_T34 t227 x13_3).f0.f1)) ∧ w'.cell? ⟨(ad241.add ((x13_3).toNat * 4)).block, (ad241.add ((x13_3).toNat * 4)).off + 2, none⟩ = some (.string ((rd_T34 t227 x13_3).f1.f0)) ∧ w'.cell? ⟨(ad241.add ((x13_3).toNat * 4)).block, (ad241.add ((x13_3).toNat * 4)).off + 3, none⟩ = some (.string ((rd_T34 t227 x13_3).f1.f1)) ∧ w'.cell? ad242 = some (.string ((rd_T24 x9_1 0).f0)) ∧ w'.cell? ⟨ad242.block, ad242.off + 1, none⟩ = some (.string ((rd_T24 x9_1 0).f1))) (ds := []) #[false, false, false, false, false, false, false, false, false] (by kernel_rfl) rfl rfl ⟨hx241_0, hx241_1, hx241_2, hx241_3, hx242_0, hx242_1⟩ (fun hHeld => ?_); refine with_tabW graftwoodlaw19_WhyLeast.tab14 graftwoodlaw19_WhyLeast.bits14 (fun HT_ HW_ => ?_)
                          generalize wr.drew = w36 at HO_0 HO_7 HO_9 HO_11 BK226 HB hx241_0 hx241_1 hx241_2 hx241_3 hx242_0 hx242_1 hHeld ⊢
                          refine pure_ (i := 0) (N := some 46) (v := ?_) (a' := ?_) #[true, false, false, false, false, false, false, false, false] rfl rfl (any_of HT_.out (by kernel_rfl)) (fun _ _ _ h => h) (Or.inl ⟨by rfl, ?_⟩) ?_ ?_
                          rotate_left
                          · intro w'
                            go_simp
                            with_reducible rfl
                          rotate_left
                          · simp only [Act.put, List.setIfInBounds_toArray, List.set_cons_zero, List.set_cons_succ, i64_w, i32_w]
                            rfl
                          refine pure_ (i := 1) (N := some 47) (v := ?_) (a' := ?_) #[true, true, false, false, false, false, false, false, false] rfl rfl (any_of HT_.out (by kernel_rfl)) (fun _ _ _ h => h) (Or.inl ⟨by rfl, ?_⟩) ?_ ?_
                          rotate_left
                          · intro w'
                            go_simp
                            with_reducible rfl
                          rotate_left
                          · simp only [Act.put, List.setIfInBounds_toArray, List.set_cons_zero, List.set_cons_succ, i64_w, i32_w]
                            rfl
                          refine pure_ (i := 2) (N := some 48) (v := ?_) (a' := ?_) #[true, true, true, false, false, false, false, false, false] rfl rfl (any_of HT_.out (by kernel_rfl)) (fun _ _ _ h => h) (Or.inl ⟨by rfl, ?_⟩) ?_ ?_
                          rotate_left
                          · intro w'
                            go_simp
                            with_reducible rfl
                          rotate_left
                          · simp only [Act.put, List.setIfInBounds_toArray, List.set_cons_zero, List.set_cons_succ, i64_w, i32_w]
                            rfl
                          refine pure_ (i := 3) (N := some 49) (v := ?_) (a' := ?_) #[true, true, true, true, false, false, false, false, false] rfl rfl (any_of HT_.out (by kernel_rfl)) (fun _ _ _ h => h) (Or.inl ⟨by rfl, ?_⟩) ?_ ?_
                          rotate_left
                          · intro w'
                            go_simp
                            with_reducible rfl
                          rotate_left
                          · simp only [Act.put, List.setIfInBounds_toArray, List.set_cons_zero, List.set_cons_succ, i64_w, i32_w]
                            rfl
                          refine pure_ (i := 5) (N := some 51) (v := ?_) (a' := ?_) #[true, true, true, true, false, true, false, false, false] rfl rfl (any_of HT_.out (by kernel_rfl)) (fun _ _ _ h => h) (Or.inl ⟨by rfl, ?_⟩) ?_ ?_
                          rotate_left
                          · intro w'
                            go_simp
                            with_reducible rfl
                          rotate_left
                          · simp only [Act.put, List.setIfInBounds_toArray, List.set_cons_zero, List.set_cons_succ, i64_w, i32_w]
                            rfl
                          refine pure_ (i := 6) (N := some 52) (v := ?_) (a' := ?_) #[true, true, true, true, false, true, true, false, false] rfl rfl (any_of HT_.out (by kernel_rfl)) (fun _ _ _ h => h) (Or.inl ⟨by rfl, ?_⟩) ?_ ?_
                          rotate_left
                          · intro w'
                            go_simp
                            with_reducible rfl
                          rotate_left
                          · simp only [Act.put, List.setIfInBounds_toArray, List.set_cons_zero, List.set_cons_succ, i64_w, i32_w]
                            rfl
                          refine take_ (i := 4) (N := some 50) (v := ?_) (a' := ?_) #[true, true, true, true, true, true, true, false, false] rfl rfl (take_ofW HT_.out HW_.out (by kernel_rfl)) (fun _ _ _ h => h) (Or.inl ⟨by rfl, ?_⟩) hHeld ?_ ?_
                          rotate_left
                          · rintro w' ⟨s0, s1, s2, s3, s4, s5⟩
                            go_simp
                            with_reducible rfl
                          rotate_left
                          · simp only [Act.put, List.setIfInBounds_toArray, List.set_cons_zero, List.set_cons_succ, i64_w, i32_w]
                            rfl
                          refine take_ (i := 7) (N := some 53) (v := ?_) (a' := ?_) #[true, true, true, true, true, true, true, true, false] rfl rfl (take_ofW HT_.out HW_.out (by kernel_rfl)) (fun _ _ _ h => h) (Or.inl ⟨by rfl, ?_⟩) hHeld ?_ ?_
                          rotate_left
                          · rintro w' ⟨s0, s1, s2, s3, s4, s5⟩
                            go_simp
                            with_reducible rfl
                          rotate_left
                          · simp only [Act.put, List.setIfInBounds_toArray, List.set_cons_zero, List.set_cons_succ, i64_w, i32_w]
                            rfl
                          refine pure_ (i := 8) (N := some 54) (v := ?_) (a' := ?_) #[true, true, true, true, true, true, true, true, true] rfl rfl (any_of HT_.out (by kernel_rfl)) (fun _ _ _ h => h) (Or.inl ⟨by rfl, ?_⟩) ?_ ?_
                          rotate_left
                          · intro w'
                            go_simp
                            with_reducible rfl
                          rotate_left
                          · simp only [Act.put, List.setIfInBounds_toArray, List.set_cons_zero, List.set_cons_succ, i64_w, i32_w]
                            rfl
                          refine done_ (done_of HT_.out (by kernel_rfl)) ?_
                          try go_wp2
                          go_roundg k3
                          case measure => have := HK1.out; have := HJ19.out; have := HK3.out; omega
                          case rel => exact ⟨(x11_3), (x12_3), (wrap64 (x13_3 + 1)), (by first | rfl | (simp; done) | (simp [*]; done)), (by first | rfl | (simp; done) | (simp [*]; done)), H', ⟨by have := HK1.out; have := HJ19.out; have := HK3.out; omega⟩, ⟨by (with_reducible repeat (first | apply Kd.R_alloc | apply Kd.R_drewN | apply Kd.R_drew)); exact HO_0.out⟩, ⟨by (with_reducible repeat (first | apply Kd.R_alloc | apply Kd.R_drewN | apply Kd.R_drew)); exact HO_7.out⟩, ⟨by (with_reducible repeat (first | apply Kd.R_alloc | apply Kd.R_drewN | apply Kd.R_drew)); exact HO_9.out⟩, ⟨by (with_reducible repeat (first | apply Kd.R_alloc | apply Kd.R_drewN | apply Kd.R_drew)); exact HO_11.out⟩, ⟨by (with_reducible repeat (first | refine blk_drewN ?_ _ | refine blk_drew ?_ | refine blk_alloc ?_ _)); exact BK226.out⟩, ⟨by repeat (first | (with_reducible first | exact HB.out | apply below_alloc | apply pw_below_drewN | apply below_drew1 | refine below_set ?_ GE226.out) | exact HB.out)⟩⟩
                      · rw [if_neg c25] at H
                        exact absurd H (by simp)
                    · rw [if_neg c24] at H
                      exact absurd H (by simp)
                  · rw [if_neg c23] at H
                    have c23b0 : decide (x13_3 < (t227.length : Int)) = false := decide_eq_false c23
                    clear c23
                    have HC38 := Aside0.mk H
                    clear H
                    go_upto_region 17 with (fail)
                    go_cut [92] (fun v92 wc => ∃ (kq : Nat) (x92_37 : Bool), v92 = .bool x92_37 ∧ Aside0 (graftwoodlaw19_WhyLeast.j3 kq t227 l2 t232 x9_1 x10_1 x11_3 x92_37 = some r) ∧ Aside0 (kq ≤ k3) ∧ Aside0 (Kd.R k34 34 wc w.heap.size (fun _ => True) (.slice Ao15 t227.length co15) t227) ∧ Aside0 (Kd.R k24 24 wc w.heap.size (fun k_ => some k_ ≠ (u9 : Value).ownBlock ∧ some k_ ≠ (u11 : Value).ownBlock ∧ k_ ≠ gb226) v233 t232) ∧ Aside0 (Kd.R k24 24 wc w.heap.size (fun k_ => some k_ ≠ (v233 : Value).ownBlock ∧ some k_ ≠ (u11 : Value).ownBlock ∧ k_ ≠ gb226) u9 x9_1) ∧ Aside0 (Kd.R k24 24 wc w.heap.size (fun k_ => some k_ ≠ (v233 : Value).ownBlock ∧ some k_ ≠ (u9 : Value).ownBlock ∧ k_ ≠ gb226) u11 x11_3) ∧ Aside0 (wc.heap[gb226]? = some (.cells #[.string t230, .string t231] 24 (0, 0))) ∧ Aside0 (Below w.heap.size w wc))
                    case first =>
                      have H := HC38.out
                      clear HC38
                      by_cases c39 : x12_3 = true
                      · subst c39
                        have H1 : (if (x9_1.length : Int) < (t232.length : Int) then (graftwoodlaw19_WhyLeast.j3 k3 t227 l2 t232 x9_1 x10_1 x11_3 true) else (if (x9_1.length : Int) = (t232.length : Int) then ((graftwoodlaw19_lower.f k3 x9_1 t232).bind fun t252 => (graftwoodlaw19_WhyLeast.j3 k3 t227 l2 t232 x9_1 x10_1 x11_3 t252)) else (graftwoodlaw19_WhyLeast.j3 k3 t227 l2 t232 x9_1 x10_1 x11_3 false))) = some r := by rw [if_pos rfl] at H; exact H
                        clear H
                        have H := H1
                        clear H1
                        by_cases c40 : (x9_1.length : Int) < (t232.length : Int)
                        · rw [if_pos c40] at H
                          have c40b0 : decide ((x9_1.length : Int) < (t232.length : Int)) = true := decide_eq_true c40
                          have c40b1 : decide (x9_1.length < t232.length) = true := decide_eq_true (Int.ofNat_lt.mp c40)
                          clear c40
                          (first | rw [c40b0] | (simp only [i64_w, i32_w]; rw [c40b0]) | skip)
                          have H' := Aside0.mk H
                          clear H
                          obtain ⟨Ao41, co41, eo41⟩ := Kd.R_slice HO_9.out
                          subst eo41
                          obtain ⟨Ao42, co42, eo42⟩ := Kd.R_slice HO_7.out
                          subst eo42
                          go_wp2
                          go_meet
                          case rel => exact ⟨_, (true), (by first | rfl | (simp; done) | (simp [*]; done)), H', ⟨by have := HK1.out; have := HJ19.out; have := HK3.out; first | omega | exact Nat.le_refl _⟩, ⟨by (with_reducible repeat (first | apply Kd.R_alloc | apply Kd.R_drewN | apply Kd.R_drew)); exact HO_0.out⟩, ⟨by (with_reducible repeat (first | apply Kd.R_alloc | apply Kd.R_drewN | apply Kd.R_drew)); exact HO_7.out⟩, ⟨by (with_reducible repeat (first | apply Kd.R_alloc | apply Kd.R_drewN | apply Kd.R_drew)); exact HO_9.out⟩, ⟨by (with_reducible repeat (first | apply Kd.R_alloc | apply Kd.R_drewN | apply Kd.R_drew)); exact HO_11.out⟩, ⟨by (with_reducible repeat (first | refine blk_drewN ?_ _ | refine blk_drew ?_ | refine blk_alloc ?_ _)); exact BK226.out⟩, ⟨by repeat (first | (with_reducible first | exact HB.out | apply below_alloc | apply pw_below_drewN | apply below_drew1 | refine below_set ?_ GE226.out) | exact HB.out)⟩⟩
                        · rw [if_neg c40] at H
                          have c40b0 : decide ((x9_1.length : Int) < (t232.length : Int)) = false := decide_eq_false c40
                          have c40b1 : decide (x9_1.length < t232.length) = false := decide_eq_false (fun h => c40 (Int.ofNat_lt.mpr h))
                          clear c40
                          (first | rw [c40b0] | (simp only [i64_w, i32_w]; rw [c40b0]) | skip)
                          by_cases c43 : (x9_1.length : Int) = (t232.length : Int)
                          · rw [if_pos c43] at H
                            have c43b0 : ((x9_1.length : Int) == (t232.length : Int)) = true := beq_iff_eq.mpr c43
                            have c43b1 : ((x9_1.length : Int) != (t232.length : Int)) = false := bne_eq_false_iff_eq.mpr c43
                            have c43b2 : (x9_1.length == t232.length) = true := by first | simpa using c43 | (simp at c43 ⊢; omega)
                            clear c43
                            replace H := Option.bind_eq_some_iff.mp H
                            obtain ⟨t252, A440, H⟩ := H
                            replace H : (graftwoodlaw19_WhyLeast.j3 k3 t227 l2 t232 x9_1 x10_1 x11_3 t252) = some r := H
                            have A44 := Aside0.mk A440
                            clear A440
                            have H' := Aside0.mk H
                            clear H
                            obtain ⟨Ao45, co45, eo45⟩ := Kd.R_slice HO_9.out
                            subst eo45
                            obtain ⟨Ao46, co46, eo46⟩ := Kd.R_slice HO_7.out
                            subst eo46
                            go_wp2_with (first | (go_at_call 10; (with_reducible refine (graftwoodlaw19_lower.calls k3 _ _ x9_1 _ _ t232 t252 _ ?side1 ?side2 ?side3 ?side4 A44.out).mono ?_); (case side1 => repeat (first | exact (Kd.R_reads' HO_9.out).2.2 | (with_reducible refine Kd.C_alloc ?_ _) | (with_reducible refine Kd.C_drewN ?_ _) | (with_reducible refine Kd.C_drew ?_))); (case side2 => exact (Kd.R_reads' HO_9.out).2.1); (case side3 => repeat (first | exact (Kd.R_reads' HO_7.out).2.2 | (with_reducible refine Kd.C_alloc ?_ _) | (with_reducible refine Kd.C_drewN ?_ _) | (with_reducible refine Kd.C_drew ?_))); (case side4 => exact (Kd.R_reads' HO_7.out).2.1); rintro e w47 ⟨rfl, hb⟩; have n0_ := Aside0.mk (Kd.R_below (by (with_reducible repeat (first | apply Kd.R_alloc | apply Kd.R_drewN | apply Kd.R_drew)); exact HO_0.out) hb); have n1_ := Aside0.mk (Kd.R_below (by (with_reducible repeat (first | apply Kd.R_alloc | apply Kd.R_drewN | apply Kd.R_drew)); exact HO_7.out) hb); have n2_ := Aside0.mk (Kd.R_below (by (with_reducible repeat (first | apply Kd.R_alloc | apply Kd.R_drewN | apply Kd.R_drew)); exact HO_9.out) hb); have n3_ := Aside0.mk (Kd.R_below (by (with_reducible repeat (first | apply Kd.R_alloc | apply Kd.R_drewN | apply Kd.R_drew)); exact HO_11.out) hb); have n4_ := Aside0.mk (blk_below (g := gb226) (o := .cells #[.string t230, .string t231] 24 (0, 0)) (by (with_reducible repeat (first | refine blk_drewN ?_ _ | refine blk_drew ?_ | refine blk_alloc ?_ _)); exact BK226.out) hb); have n5_ := Aside0.mk (below_step (by repeat (first | (with_reducible first | exact HB.out | apply below_alloc | apply pw_below_drewN | apply below_drew1 | refine below_set ?_ GE226.out) | exact HB.out)) hb); clear HO_0; clear HO_7; clear HO_9; clear HO_11; clear BK226; clear HB; have HO_0 := n0_; have HO_7 := n1_; have HO_9 := n2_; have HO_11 := n3_; have BK226 := n4_; have HB := n5_; clear n0_ n1_ n2_ n3_ n4_ n5_; (try clear hb); (try clear hb2); (try clear hk); (try clear hi)))
                            go_meet
                            case rel => exact ⟨_, (t252), (by first | rfl | (simp; done) | (simp [*]; done)), H', ⟨by have := HK1.out; have := HJ19.out; have := HK3.out; first | omega | exact Nat.le_refl _⟩, ⟨by (with_reducible repeat (first | apply Kd.R_alloc | apply Kd.R_drewN | apply Kd.R_drew)); exact HO_0.out⟩, ⟨by (with_reducible repeat (first | apply Kd.R_alloc | apply Kd.R_drewN | apply Kd.R_drew)); exact HO_7.out⟩, ⟨by (with_reducible repeat (first | apply Kd.R_alloc | apply Kd.R_drewN | apply Kd.R_drew)); exact HO_9.out⟩, ⟨by (with_reducible repeat (first | apply Kd.R_alloc | apply Kd.R_drewN | apply Kd.R_drew)); exact HO_11.out⟩, ⟨by (with_reducible repeat (first | refine blk_drewN ?_ _ | refine blk_drew ?_ | refine blk_alloc ?_ _)); exact BK226.out⟩, ⟨by repeat (first | (with_reducible first | exact HB.out | apply below_alloc | apply pw_below_drewN | apply below_drew1 | refine below_set ?_ GE226.out) | exact HB.out)⟩⟩
                          · rw [if_neg c43] at H
                            have c43b0 : ((x9_1.length : Int) == (t232.length : Int)) = false := beq_eq_false_iff_ne.mpr c43
                            have c43b1 : ((x9_1.length : Int) != (t232.length : Int)) = true := bne_iff_ne.mpr c43
                            have c43b2 : (x9_1.length == t232.length) = false := by first | simpa using c43 | (simp at c43 ⊢; omega)
                            have H' := Aside0.mk H
                            clear H
                            obtain ⟨Ao48, co48, eo48⟩ := Kd.R_slice HO_9.out
                            subst eo48
                            obtain ⟨Ao49, co49, eo49⟩ := Kd.R_slice HO_7.out
                            subst eo49
                            go_wp2
                            go_meet
                            case rel => exact ⟨_, (false), (by first | rfl | (simp; done) | (simp [*]; done)), H', ⟨by have := HK1.out; have := HJ19.out; have := HK3.out; first | omega | exact Nat.le_refl _⟩, ⟨by (with_reducible repeat (first | apply Kd.R_alloc | apply Kd.R_drewN | apply Kd.R_drew)); exact HO_0.out⟩, ⟨by (with_reducible repeat (first | apply Kd.R_alloc | apply Kd.R_drewN | apply Kd.R_drew)); exact HO_7.out⟩, ⟨by (with_reducible repeat (first | apply Kd.R_alloc | apply Kd.R_drewN | apply Kd.R_drew)); exact HO_9.out⟩, ⟨by (with_reducible repeat (first | apply Kd.R_alloc | apply Kd.R_drewN | apply Kd.R_drew)); exact HO_11.out⟩, ⟨by (with_reducible repeat (first | refine blk_drewN ?_ _ | refine blk_drew ?_ | refine blk_alloc ?_ _)); exact BK226.out⟩, ⟨by repeat (first | (with_reducible first | exact HB.out | apply below_alloc | apply pw_below_drewN | apply below_drew1 | refine below_set ?_ GE226.out) | exact HB.out)⟩⟩
                      · replace c39 := Bool.eq_false_iff.mpr c39
                        subst c39
                        have H1 : (graftwoodlaw19_WhyLeast.j3 k3 t227 l2 t232 x9_1 x10_1 x11_3 false) = some r := by rw [if_neg (show ¬ (false = true) by decide)] at H; exact H
                        clear H
                        have H := H1
                        clear H1
                        have H' := Aside0.mk H
                        clear H
                        go_wp2
                        go_meet
                        case rel => exact ⟨_, (false), (by first | rfl | (simp; done) | (simp [*]; done)), H', ⟨by have := HK1.out; have := HJ19.out; have := HK3.out; first | omega | exact Nat.le_refl _⟩, ⟨by (with_reducible repeat (first | apply Kd.R_alloc | apply Kd.R_drewN | apply Kd.R_drew)); exact HO_0.out⟩, ⟨by (with_reducible repeat (first | apply Kd.R_alloc | apply Kd.R_drewN | apply Kd.R_drew)); exact HO_7.out⟩, ⟨by (with_reducible repeat (first | apply Kd.R_alloc | apply Kd.R_drewN | apply Kd.R_drew)); exact HO_9.out⟩, ⟨by (with_reducible repeat (first | apply Kd.R_alloc | apply Kd.R_drewN | apply Kd.R_drew)); exact HO_11.out⟩, ⟨by (with_reducible repeat (first | refine blk_drewN ?_ _ | refine blk_drew ?_ | refine blk_alloc ?_ _)); exact BK226.out⟩, ⟨by repeat (first | (with_reducible first | exact HB.out | apply below_alloc | apply pw_below_drewN | apply below_drew1 | refine below_set ?_ GE226.out) | exact HB.out)⟩⟩
                    case rest =>
                      clear HC38
                      try clear c2
                      try clear p2
                      try clear q2
                      try clear hx2
                      try clear qi2
                      try clear c3
                      try clear c4
                      try clear c6
                      try clear p6
                      try clear c7
                      try clear c7b0
                      try clear c7b1
                      try clear c8
                      try clear c21
                      try clear c21b0
                      try clear c22
                      try clear c23
                      try clear c23b0
                      try clear c24
                      try clear c24b0
                      try clear p24
                      try clear q24
                      try clear hx24
                      try clear qi24
                      try clear c25
                      try clear c25b0
                      try clear c25b1
                      try clear c26
                      try clear c26b0
                      try clear c26b1
                      try clear c26b2
                      try clear c27
                      try clear c28
                      try clear c32
                      try clear c39
                      try clear c40
                      try clear c40b0
                      try clear c40b1
                      try clear c43
                      try clear c43b0
                      try clear c43b1
                      try clear c43b2
                      try clear hcz14_0
                      try clear hcz14_1
                      try clear hcz17_0
                      try clear hcz17_1
                      try clear hfz14_0
                      try clear hfz14_1
                      try clear hfz17_0
                      try clear hfz17_1
                      try clear hx241_0
                      try clear hx241_1
                      try clear hx241_2
                      try clear hx241_3
                      try clear hx242_0
                      try clear hx242_1
                      try clear hx243_0
                      try clear hx243_1
                      try clear hx243_2
                      try clear hx243_3
                      try clear hx247_0
                      try clear hx247_1
                      try clear hx247_2
                      try clear hx247_3
                      try clear hx248_0
                      try clear hx248_1
                      try clear hx248_2
                      try clear hx248_3
                      try clear p2
                      try clear p241
                      try clear p242
                      try clear p243
                      try clear p247
                      try clear p248
                      try clear q241
                      try clear q242
                      try clear q243
                      try clear q247
                      try clear q248
                      obtain ⟨kq, x92_37, rfl, HA, HJ37, HO_0, HO_7, HO_9, HO_11, BK226, HB⟩ := hcut
                      cases kq with
                      | zero => exact absurd HA.out (by simp [graftwoodlaw19_WhyLeast.j3])
                      | succ kj37 =>
                        have H := HA.out
                        clear HA
                        simp only [graftwoodlaw19_WhyLeast.j3] at H
                        by_cases c50 : x92_37 = true
                        · subst c50
                          have H1 : (some false) = some r := by rw [if_pos rfl] at H; exact H
                          clear H
                          have H := H1
                          clear H1
                          exact absurd ((Option.some.inj H).trans HR_.out) (by decide)
                        · replace c50 := Bool.eq_false_iff.mpr c50
                          subst c50
                          have H1 : (if (x11_3.length : Int) = 0 then ((graftwoodlaw19_awake.f).bind fun t253 => (some t253)) else (if 0 ≤ x10_1 then (if x10_1 < (l2.length : Int) then (if 0 ≤ (Int.tmod (wrap64 (rd l2 x10_1)) (x11_3.length : Int)) then (if (Int.tmod (wrap64 (rd l2 x10_1)) (x11_3.length : Int)) < (x11_3.length : Int) then (if ((((rd_T24 x11_3 (Int.tmod (wrap64 (rd l2 x10_1)) (x11_3.length : Int))).f0).toList) == ([] : List UInt8) && ((((rd_T24 x11_3 (Int.tmod (wrap64 (rd l2 x10_1)) (x11_3.length : Int))).f1).toList) == ([] : List UInt8))) = true then ((graftwoodlaw19_awake.f).bind fun t257 => (some t257)) else ((some (([(⟨(rd_T24 x11_3 (Int.tmod (wrap64 (rd l2 x10_1)) (x11_3.length : Int))).f0, (rd_T24 x11_3 (Int.tmod (wrap64 (rd l2 x10_1)) (x11_3.length : Int))).f1⟩ : S24)] : List (S24)) : List (S24))).bind fun y258 => (if y258.length + x9_1.length < 4398046511104 then (graftwoodlaw19_WhyLeast.l0 kj37 t227 l2 t232 (y258 ++ x9_1) (wrap64 (x10_1 + 1))) else (none)))) else (none)) else (none)) else (none)) else (none))) = some r := by rw [if_neg (show ¬ (false = true) by decide)] at H; exact H
                          clear H
                          have H := H1
                          clear H1
                          by_cases c51 : (x11_3.length : Int) = 0
                          · rw [if_pos c51] at H
                            have c51b0 : ((x11_3.length : Int) == 0) = true := beq_iff_eq.mpr c51
                            have c51b1 : ((x11_3.length : Int) != 0) = false := bne_eq_false_iff_eq.mpr c51
                            clear c51
                            replace H := Option.bind_eq_some_iff.mp H
                            obtain ⟨t253, A520, H⟩ := H
                            replace H : (some t253) = some r := H
                            have A52 := Aside0.mk A520
                            clear A520
                            obtain rfl := Option.some.inj H
                            obtain ⟨Ao53, co53, eo53⟩ := Kd.R_slice HO_11.out
                            subst eo53
                            go_wp2_with (first | ((with_reducible refine gate_callee (f := 9) rfl ?_); refine goesL_ (some 96) rfl rfl Tryd.func9 (by kernel_rfl) rfl #[] rfl (by (try simp only [List.map_toArray, List.map_cons, List.map_nil]); first | done | rfl | (simp only [List.length_drop, List.length_take]; rfl)) ?_; (with_reducible refine (graftwoodlaw19_awake.calls  t253 _ A52.out HR_).mono ?_); rintro e w54 ⟨rfl, hb⟩; refine ⟨_, rfl, ?_⟩; have n0_ := Aside0.mk (Kd.R_below (by (with_reducible repeat (first | apply Kd.R_alloc | apply Kd.R_drewN | apply Kd.R_drew)); exact HO_0.out) hb); have n1_ := Aside0.mk (Kd.R_below (by (with_reducible repeat (first | apply Kd.R_alloc | apply Kd.R_drewN | apply Kd.R_drew)); exact HO_7.out) hb); have n2_ := Aside0.mk (Kd.R_below (by (with_reducible repeat (first | apply Kd.R_alloc | apply Kd.R_drewN | apply Kd.R_drew)); exact HO_9.out) hb); have n3_ := Aside0.mk (Kd.R_below (by (with_reducible repeat (first | apply Kd.R_alloc | apply Kd.R_drewN | apply Kd.R_drew)); exact HO_11.out) hb); have n4_ := Aside0.mk (blk_below (g := gb226) (o := .cells #[.string t230, .string t231] 24 (0, 0)) (by (with_reducible repeat (first | refine blk_drewN ?_ _ | refine blk_drew ?_ | refine blk_alloc ?_ _)); exact BK226.out) hb); have n5_ := Aside0.mk (below_step (by repeat (first | (with_reducible first | exact HB.out | apply below_alloc | apply pw_below_drewN | apply below_drew1 | refine below_set ?_ GE226.out) | exact HB.out)) hb); clear HO_0; clear HO_7; clear HO_9; clear HO_11; clear BK226; clear HB; have HO_0 := n0_; have HO_7 := n1_; have HO_9 := n2_; have HO_11 := n3_; have BK226 := n4_; have HB := n5_; clear n0_ n1_ n2_ n3_ n4_ n5_; (try clear hb); (try clear hb2); (try clear hk); (try clear hi)))
                            go_ret
                            exact ⟨by first | rfl | (simp [errW_none, errW_some] <;> rfl) | (simp [*, errW_none, errW_some] <;> rfl), by repeat (first | (with_reducible first | exact HB.out | apply below_alloc | apply pw_below_drewN | apply below_drew1 | refine below_set ?_ GE226.out) | exact HB.out)⟩
                          · rw [if_neg c51] at H
                            have c51b0 : ((x11_3.length : Int) == 0) = false := beq_eq_false_iff_ne.mpr c51
                            have c51b1 : ((x11_3.length : Int) != 0) = true := bne_iff_ne.mpr c51
                            have c51b2 : ¬ (x11_3 = []) := fun h_ => c51 (by rw [h_]; rfl)
                            by_cases c55 : 0 ≤ x10_1
                            · rw [if_pos c55] at H
                              have c55b0 : decide (0 ≤ x10_1) = true := decide_eq_true c55
                              clear c55
                              by_cases c56 : x10_1 < (l2.length : Int)
                              · rw [if_pos c56] at H
                                have c56b0 : decide (x10_1 < (l2.length : Int)) = true := decide_eq_true c56
                                clear c56
                                obtain ⟨ji57, hji57⟩ : ∃ j_ : Int, (Int.tmod (wrap64 (rd l2 x10_1)) (x11_3.length : Int)) = j_ := ⟨_, rfl⟩
                                replace H : (if 0 ≤ (ji57) then (if (ji57) < (x11_3.length : Int) then (if ((((rd_T24 x11_3 (ji57)).f0).toList) == ([] : List UInt8) && ((((rd_T24 x11_3 (ji57)).f1).toList) == ([] : List UInt8))) = true then ((graftwoodlaw19_awake.f).bind fun t257 => (some t257)) else ((some (([(⟨(rd_T24 x11_3 (ji57)).f0, (rd_T24 x11_3 (ji57)).f1⟩ : S24)] : List (S24)) : List (S24))).bind fun y258 => (if y258.length + x9_1.length < 4398046511104 then (graftwoodlaw19_WhyLeast.l0 kj37 t227 l2 t232 (y258 ++ x9_1) (wrap64 (x10_1 + 1))) else (none)))) else (none)) else (none)) = some r := by first | (rw [hji57] at H; exact H) | (simp only [hji57] at H ⊢; exact H)
                                by_cases c58 : 0 ≤ (ji57)
                                · rw [if_pos c58] at H
                                  have c58b0 : decide (0 ≤ (ji57)) = true := decide_eq_true c58
                                  clear c58
                                  by_cases c59 : (ji57) < (x11_3.length : Int)
                                  · rw [if_pos c59] at H
                                    have c59b0 : decide ((ji57) < (x11_3.length : Int)) = true := decide_eq_true c59
                                    clear c59
                                    by_cases c60 : ((((rd_T24 x11_3 (ji57)).f0).toList) == ([] : List UInt8) && ((((rd_T24 x11_3 (ji57)).f1).toList) == ([] : List UInt8))) = true
                                    · rw [if_pos c60] at H
                                      have c60b0 : ((((rd_T24 x11_3 (ji57)).f0).toList) == ([] : List UInt8) && ((((rd_T24 x11_3 (ji57)).f1).toList) == ([] : List UInt8))) = true := c60
                                      have c60b9e : ((((rd_T24 x11_3 (ji57)).f0).toList).isEmpty && ((((rd_T24 x11_3 (ji57)).f1).toList).isEmpty)) = true := by simpa using c60b0
                                      (try (have c60b1 : decide ((((rd_T24 x11_3 (ji57)).f0).toList) = ([] : List UInt8) && ((((rd_T24 x11_3 (ji57)).f1).toList) == ([] : List UInt8))) = true := by simpa using c60))
                                      (try (have c60b2 : ((((rd_T24 x11_3 (ji57)).f0).toList) == ([] : List UInt8) && ((((rd_T24 x11_3 (ji57)).f1).toList) == ([] : List UInt8))) = true := by simpa using c60))
                                      clear c60
                                      replace H := Option.bind_eq_some_iff.mp H
                                      obtain ⟨t257, A610, H⟩ := H
                                      replace H : (some t257) = some r := H
                                      have A61 := Aside0.mk A610
                                      clear A610
                                      obtain rfl := Option.some.inj H
                                      obtain ⟨Ao62, co62, eo62⟩ := Kd.R_slice HO_11.out
                                      subst eo62
                                      have p254 : 0 ≤ (x10_1 : Int) := of_decide_eq_true (by first | (with_reducible assumption) | assumption)
                                      have q254 : x10_1 < (l2.length : Int) := of_decide_eq_true (by first | (with_reducible assumption) | assumption)
                                      obtain ⟨ad254, e254, hx254_0⟩ := Kd.at_int HR2.out x10_1 p254 q254
                                      cases e254
                                      replace hx254_0 := (HB.out.cell (World.block_lt_of_cell? w _ hx254_0)).trans hx254_0
                                      replace p254 := eq_true p254
                                      replace q254 := eq_true q254
                                      have p255 : 0 ≤ ((ji57) : Int) := of_decide_eq_true (by first | (with_reducible assumption) | assumption)
                                      have q255 : (ji57) < (x11_3.length : Int) := of_decide_eq_true (by first | (with_reducible assumption) | assumption)
                                      obtain ⟨ad255, e255, hx255_0, hx255_1⟩ := at_T24 (Kd.R_reads' HO_11.out).2.2 (ji57) p255 q255
                                      cases e255
                                      replace p255 := eq_true p255
                                      replace q255 := eq_true q255
                                      go_wp2_with (first | ((with_reducible refine gate_dst (N := 14) rfl ?_); (try (refine gate_guard (by rfl) ?_; dsimp only)); refine box_event ?hg (N := 14) ?hd (cs := #[.string (⟨#[]⟩ : ByteArray), .string (⟨#[]⟩ : ByteArray)]) (t := 24) ?hr ?_; (case hd => rfl); (case hg => rfl); (case hr => first | (go_simp; done) | (go_simp; rfl)); intro gb256 hg w63 hbox hb; have n0_ := Aside0.mk (Kd.R_below (by (with_reducible repeat (first | apply Kd.R_alloc | apply Kd.R_drewN | apply Kd.R_drew)); exact HO_0.out) hb); have n1_ := Aside0.mk (Kd.R_below (Kd.R_elderB (by (with_reducible repeat (first | apply Kd.R_alloc | apply Kd.R_drewN | apply Kd.R_drew)); exact HO_7.out) gb256 (Nat.le_of_eq hg.symm)) hb); have n2_ := Aside0.mk (Kd.R_below (Kd.R_elderB (by (with_reducible repeat (first | apply Kd.R_alloc | apply Kd.R_drewN | apply Kd.R_drew)); exact HO_9.out) gb256 (Nat.le_of_eq hg.symm)) hb); have n3_ := Aside0.mk (Kd.R_below (Kd.R_elderB (by (with_reducible repeat (first | apply Kd.R_alloc | apply Kd.R_drewN | apply Kd.R_drew)); exact HO_11.out) gb256 (Nat.le_of_eq hg.symm)) hb); have n4_ := Aside0.mk (blk_below (g := gb226) (o := .cells #[.string t230, .string t231] 24 (0, 0)) (by (with_reducible repeat (first | refine blk_drewN ?_ _ | refine blk_drew ?_ | refine blk_alloc ?_ _)); exact BK226.out) hb); have n5_ := Aside0.mk (below_step (by repeat (first | (with_reducible first | exact HB.out | apply below_alloc | apply pw_below_drewN | apply below_drew1 | refine below_set ?_ GE226.out) | exact HB.out)) hb); have n6_ := Aside0.mk (hbox); have n7_ := Aside0.mk ((by rw [hg]; exact (below_size (by repeat (first | (with_reducible first | exact HB.out | apply below_alloc | apply pw_below_drewN | apply below_drew1 | refine below_set ?_ GE226.out) | exact HB.out))) : w.heap.size ≤ gb256)); have n8_ := Aside0.mk ((by rw [hg]; exact (below_size (by repeat (first | (with_reducible first | exact HB.out | apply below_alloc | apply pw_below_drewN | apply below_drew1 | refine below_set ?_ GE226.out) | exact HB.out))) : w.heap.size ≤ gb256)); have n9_ := Aside0.mk ((by rw [hg]; exact Nat.ne_of_lt (blk_lt (g := gb226) (o := .cells #[.string t230, .string t231] 24 (0, 0)) (by (with_reducible repeat (first | refine blk_drewN ?_ _ | refine blk_drew ?_ | refine blk_alloc ?_ _)); exact BK226.out)) : gb226 ≠ gb256)); have n10_ := Aside0.mk ((by rw [hg]; exact Nat.ne_of_gt (blk_lt (g := gb226) (o := .cells #[.string t230, .string t231] 24 (0, 0)) (by (with_reducible repeat (first | refine blk_drewN ?_ _ | refine blk_drew ?_ | refine blk_alloc ?_ _)); exact BK226.out)) : gb256 ≠ gb226)); clear HO_0; clear HO_7; clear HO_9; clear HO_11; clear BK226; clear HB; have HO_0 := n0_; have HO_7 := n1_; have HO_9 := n2_; have HO_11 := n3_; have BK226 := n4_; have HB := n5_; have BK256 := n6_; have GW256 := n7_; have GE256 := n8_; have NB226_256 := n9_; have NB256_226 := n10_; clear n0_ n1_ n2_ n3_ n4_ n5_ n6_ n7_ n8_ n9_ n10_; clear hb hbox hg; have hnb64 := NB256_226.out; have hnc64 := NB226_256.out; have hcz65_0 : w63.cell? ⟨gb256, 0, none⟩ = some (.string (⟨#[]⟩ : ByteArray)) := (blk_cell BK256.out 0).trans rfl; have hcz65_1 : w63.cell? ⟨gb256, 1, none⟩ = some (.string (⟨#[]⟩ : ByteArray)) := (blk_cell BK256.out 1).trans rfl; have hfz65_0 := blk_frozen BK256.out 0; have hfz65_1 := blk_frozen BK256.out 1) | ((with_reducible refine gate_callee (f := 9) rfl ?_); refine goesL_ (some 111) rfl rfl Tryd.func9 (by kernel_rfl) rfl #[] rfl (by (try simp only [List.map_toArray, List.map_cons, List.map_nil]); first | done | rfl | (simp only [List.length_drop, List.length_take]; rfl)) ?_; (with_reducible refine (graftwoodlaw19_awake.calls  t257 _ A61.out HR_).mono ?_); rintro e w66 ⟨rfl, hb⟩; refine ⟨_, rfl, ?_⟩; have n0_ := Aside0.mk (Kd.R_below (by (with_reducible repeat (first | apply Kd.R_alloc | apply Kd.R_drewN | apply Kd.R_drew)); exact (Kd.R_mono (Kd.R_far (p := ⟨gb256, 1, none⟩) (Kd.R_far (p := ⟨gb256, 0, none⟩) (Kd.R_types HO_0.out BK256.out (by decide)) (fun _ hk => hk.2) (.string ((rd_T24 x11_3 (ji57)).f0))) (fun _ hk => hk.2) (.string ((rd_T24 x11_3 (ji57)).f1))) (fun _ h_ => h_.1))) hb); have n1_ := Aside0.mk (Kd.R_below (by (with_reducible repeat (first | apply Kd.R_alloc | apply Kd.R_drewN | apply Kd.R_drew)); exact (Kd.R_mono (Kd.R_far (p := ⟨gb256, 1, none⟩) (Kd.R_far (p := ⟨gb256, 0, none⟩) (Kd.R_mono HO_7.out (fun k_ hk => (⟨hk, hk.2⟩ : _ ∧ k_ ≠ gb256))) (fun _ hk => hk.2) (.string ((rd_T24 x11_3 (ji57)).f0))) (fun _ hk => hk.2) (.string ((rd_T24 x11_3 (ji57)).f1))) (fun _ h_ => h_.1))) hb); have n2_ := Aside0.mk (Kd.R_below (by (with_reducible repeat (first | apply Kd.R_alloc | apply Kd.R_drewN | apply Kd.R_drew)); exact (Kd.R_mono (Kd.R_far (p := ⟨gb256, 1, none⟩) (Kd.R_far (p := ⟨gb256, 0, none⟩) (Kd.R_mono HO_9.out (fun k_ hk => (⟨hk, hk.2⟩ : _ ∧ k_ ≠ gb256))) (fun _ hk => hk.2) (.string ((rd_T24 x11_3 (ji57)).f0))) (fun _ hk => hk.2) (.string ((rd_T24 x11_3 (ji57)).f1))) (fun _ h_ => h_.1))) hb); have n3_ := Aside0.mk (Kd.R_below (by (with_reducible repeat (first | apply Kd.R_alloc | apply Kd.R_drewN | apply Kd.R_drew)); exact (Kd.R_mono (Kd.R_far (p := ⟨gb256, 1, none⟩) (Kd.R_far (p := ⟨gb256, 0, none⟩) (Kd.R_mono HO_11.out (fun k_ hk => (⟨hk, hk.2⟩ : _ ∧ k_ ≠ gb256))) (fun _ hk => hk.2) (.string ((rd_T24 x11_3 (ji57)).f0))) (fun _ hk => hk.2) (.string ((rd_T24 x11_3 (ji57)).f1))) (fun _ h_ => h_.1))) hb); have n4_ := Aside0.mk (blk_below (g := gb226) (o := .cells #[.string t230, .string t231] 24 (0, 0)) (by (with_reducible repeat (first | refine blk_drewN ?_ _ | refine blk_drew ?_ | refine blk_alloc ?_ _)); refine blk_far ?_ NB226_256.out _; (with_reducible repeat (first | refine blk_drewN ?_ _ | refine blk_drew ?_ | refine blk_alloc ?_ _)); refine blk_far ?_ NB226_256.out _; (with_reducible repeat (first | refine blk_drewN ?_ _ | refine blk_drew ?_ | refine blk_alloc ?_ _)); exact BK226.out) hb); have n5_ := Aside0.mk (blk_below (g := gb256) (o := .cells #[.string ((rd_T24 x11_3 (ji57)).f0), .string ((rd_T24 x11_3 (ji57)).f1)] 24 (0, 0)) (by (with_reducible repeat (first | refine blk_drewN ?_ _ | refine blk_drew ?_ | refine blk_alloc ?_ _)); refine blk_put (cs := #[.string ((rd_T24 x11_3 (ji57)).f0), .string (⟨#[]⟩ : ByteArray)]) ?_ 1 _ rfl; (with_reducible repeat (first | refine blk_drewN ?_ _ | refine blk_drew ?_ | refine blk_alloc ?_ _)); refine blk_put (cs := #[.string (⟨#[]⟩ : ByteArray), .string (⟨#[]⟩ : ByteArray)]) ?_ 0 _ rfl; (with_reducible repeat (first | refine blk_drewN ?_ _ | refine blk_drew ?_ | refine blk_alloc ?_ _)); exact BK256.out) hb); have n6_ := Aside0.mk (below_step (by repeat (first | (with_reducible first | exact HB.out | apply below_alloc | apply pw_below_drewN | apply below_drew1 | refine below_set ?_ GE226.out | refine below_set ?_ GE256.out) | exact HB.out)) hb); clear HO_0; clear HO_7; clear HO_9; clear HO_11; clear BK226; clear BK256; clear HB; have HO_0 := n0_; have HO_7 := n1_; have HO_9 := n2_; have HO_11 := n3_; have BK226 := n4_; have BK256 := n5_; have HB := n6_; clear n0_ n1_ n2_ n3_ n4_ n5_ n6_; (try clear hb); (try clear hb2); (try clear hk); (try clear hi)))
                                      go_ret
                                      exact ⟨by first | rfl | (simp [errW_none, errW_some] <;> rfl) | (simp only [← hji57]; first | rfl | (simp [errW_none, errW_some] <;> rfl)) | (simp [*, errW_none, errW_some] <;> rfl), by repeat (first | (with_reducible first | exact HB.out | apply below_alloc | apply pw_below_drewN | apply below_drew1 | refine below_set ?_ GE226.out | refine below_set ?_ GE256.out) | exact HB.out)⟩
                                    · rw [if_neg c60] at H
                                      have c60b0 : ((((rd_T24 x11_3 (ji57)).f0).toList) == ([] : List UInt8) && ((((rd_T24 x11_3 (ji57)).f1).toList) == ([] : List UInt8))) = false := by simpa using c60
                                      have c60b9e : ((((rd_T24 x11_3 (ji57)).f0).toList).isEmpty && ((((rd_T24 x11_3 (ji57)).f1).toList).isEmpty)) = false := by simpa using c60b0
                                      (try (have c60b1 : decide ((((rd_T24 x11_3 (ji57)).f0).toList) = ([] : List UInt8) && ((((rd_T24 x11_3 (ji57)).f1).toList) == ([] : List UInt8))) = false := by simpa using c60))
                                      (try (have c60b2 : ((((rd_T24 x11_3 (ji57)).f0).toList) == ([] : List UInt8) && ((((rd_T24 x11_3 (ji57)).f1).toList) == ([] : List UInt8))) = false := by simpa using c60))
                                      (try (have c60b3 : ¬ ((((rd_T24 x11_3 (ji57)).f0).toList) = ([] : List UInt8) && ((((rd_T24 x11_3 (ji57)).f1).toList) == ([] : List UInt8))) := by simpa using c60))
                                      clear c60
                                      obtain ⟨y258, hy258⟩ : ∃ y_ : List (S24), y_ = (([(⟨(rd_T24 x11_3 (ji57)).f0, (rd_T24 x11_3 (ji57)).f1⟩ : S24)] : List (S24))) := ⟨_, rfl⟩
                                      replace H : (if y258.length + x9_1.length < 4398046511104 then (graftwoodlaw19_WhyLeast.l0 kj37 t227 l2 t232 (y258 ++ x9_1) (wrap64 (x10_1 + 1))) else (none)) = some r := by first | (rw [hy258]; with_reducible exact H) | (have H2_ := (Option.bind_some _ _).symm.trans H; rw [hy258]; with_reducible exact H2_) | (have H2_ := (Option.bind_some _ _).symm.trans H; with_reducible exact H2_) | with_reducible exact H | (rw [hy258]; exact H) | exact H
                                      have Ny258 := Aside0.mk hy258
                                      clear hy258
                                      by_cases c67 : y258.length + x9_1.length < 4398046511104
                                      · rw [if_pos c67] at H
                                        have LMc67 := Aside0.mk c67
                                        clear c67
                                        obtain ⟨y261, hy261⟩ : ∃ y_ : List (S24), y_ = (y258 ++ x9_1) := ⟨_, rfl⟩
                                        replace H : (graftwoodlaw19_WhyLeast.l0 kj37 t227 l2 t232 y261 (wrap64 (x10_1 + 1))) = some r := by first | (rw [hy261]; with_reducible exact H) | (have H2_ := (Option.bind_some _ _).symm.trans H; rw [hy261]; with_reducible exact H2_) | (have H2_ := (Option.bind_some _ _).symm.trans H; with_reducible exact H2_) | with_reducible exact H | (rw [hy261]; exact H) | exact H
                                        have Ny261 := Aside0.mk hy261
                                        clear hy261
                                        have H' := Aside0.mk H
                                        clear H
                                        obtain ⟨Ao68, co68, eo68⟩ := Kd.R_slice HO_11.out
                                        subst eo68
                                        have p254 : 0 ≤ (x10_1 : Int) := of_decide_eq_true (by first | (with_reducible assumption) | assumption)
                                        have q254 : x10_1 < (l2.length : Int) := of_decide_eq_true (by first | (with_reducible assumption) | assumption)
                                        obtain ⟨ad254, e254, hx254_0⟩ := Kd.at_int HR2.out x10_1 p254 q254
                                        cases e254
                                        replace hx254_0 := (HB.out.cell (World.block_lt_of_cell? w _ hx254_0)).trans hx254_0
                                        replace p254 := eq_true p254
                                        replace q254 := eq_true q254
                                        have p255 : 0 ≤ ((ji57) : Int) := of_decide_eq_true (by first | (with_reducible assumption) | assumption)
                                        have q255 : (ji57) < (x11_3.length : Int) := of_decide_eq_true (by first | (with_reducible assumption) | assumption)
                                        obtain ⟨ad255, e255, hx255_0, hx255_1⟩ := at_T24 (Kd.R_reads' HO_11.out).2.2 (ji57) p255 q255
                                        cases e255
                                        replace p255 := eq_true p255
                                        replace q255 := eq_true q255
                                        go_wp2_with (first | ((with_reducible refine gate_dst (N := 14) rfl ?_); (try (refine gate_guard (by rfl) ?_; dsimp only)); refine box_event ?hg (N := 14) ?hd (cs := #[.string (⟨#[]⟩ : ByteArray), .string (⟨#[]⟩ : ByteArray)]) (t := 24) ?hr ?_; (case hd => rfl); (case hg => rfl); (case hr => first | (go_simp; done) | (go_simp; rfl)); intro gb256 hg w69 hbox hb; have n0_ := Aside0.mk (Kd.R_below (by (with_reducible repeat (first | apply Kd.R_alloc | apply Kd.R_drewN | apply Kd.R_drew)); exact HO_0.out) hb); have n1_ := Aside0.mk (Kd.R_below (Kd.R_elderB (by (with_reducible repeat (first | apply Kd.R_alloc | apply Kd.R_drewN | apply Kd.R_drew)); exact HO_7.out) gb256 (Nat.le_of_eq hg.symm)) hb); have n2_ := Aside0.mk (Kd.R_below (Kd.R_elderB (by (with_reducible repeat (first | apply Kd.R_alloc | apply Kd.R_drewN | apply Kd.R_drew)); exact HO_9.out) gb256 (Nat.le_of_eq hg.symm)) hb); have n3_ := Aside0.mk (Kd.R_below (Kd.R_elderB (by (with_reducible repeat (first | apply Kd.R_alloc | apply Kd.R_drewN | apply Kd.R_drew)); exact HO_11.out) gb256 (Nat.le_of_eq hg.symm)) hb); have n4_ := Aside0.mk (blk_below (g := gb226) (o := .cells #[.string t230, .string t231] 24 (0, 0)) (by (with_reducible repeat (first | refine blk_drewN ?_ _ | refine blk_drew ?_ | refine blk_alloc ?_ _)); exact BK226.out) hb); have n5_ := Aside0.mk (below_step (by repeat (first | (with_reducible first | exact HB.out | apply below_alloc | apply pw_below_drewN | apply below_drew1 | refine below_set ?_ GE226.out) | exact HB.out)) hb); have n6_ := Aside0.mk (hbox); have n7_ := Aside0.mk ((by rw [hg]; exact (below_size (by repeat (first | (with_reducible first | exact HB.out | apply below_alloc | apply pw_below_drewN | apply below_drew1 | refine below_set ?_ GE226.out) | exact HB.out))) : w.heap.size ≤ gb256)); have n8_ := Aside0.mk ((by rw [hg]; exact (below_size (by repeat (first | (with_reducible first | exact HB.out | apply below_alloc | apply pw_below_drewN | apply below_drew1 | refine below_set ?_ GE226.out) | exact HB.out))) : w.heap.size ≤ gb256)); have n9_ := Aside0.mk ((by rw [hg]; exact Nat.ne_of_lt (blk_lt (g := gb226) (o := .cells #[.string t230, .string t231] 24 (0, 0)) (by (with_reducible repeat (first | refine blk_drewN ?_ _ | refine blk_drew ?_ | refine blk_alloc ?_ _)); exact BK226.out)) : gb226 ≠ gb256)); have n10_ := Aside0.mk ((by rw [hg]; exact Nat.ne_of_gt (blk_lt (g := gb226) (o := .cells #[.string t230, .string t231] 24 (0, 0)) (by (with_reducible repeat (first | refine blk_drewN ?_ _ | refine blk_drew ?_ | refine blk_alloc ?_ _)); exact BK226.out)) : gb256 ≠ gb226)); clear HO_0; clear HO_7; clear HO_9; clear HO_11; clear BK226; clear HB; have HO_0 := n0_; have HO_7 := n1_; have HO_9 := n2_; have HO_11 := n3_; have BK226 := n4_; have HB := n5_; have BK256 := n6_; have GW256 := n7_; have GE256 := n8_; have NB226_256 := n9_; have NB256_226 := n10_; clear n0_ n1_ n2_ n3_ n4_ n5_ n6_ n7_ n8_ n9_ n10_; clear hb hbox hg; have hnb70 := NB256_226.out; have hnc70 := NB226_256.out; have hcz71_0 : w69.cell? ⟨gb256, 0, none⟩ = some (.string (⟨#[]⟩ : ByteArray)) := (blk_cell BK256.out 0).trans rfl; have hcz71_1 : w69.cell? ⟨gb256, 1, none⟩ = some (.string (⟨#[]⟩ : ByteArray)) := (blk_cell BK256.out 1).trans rfl; have hfz71_0 := blk_frozen BK256.out 0; have hfz71_1 := blk_frozen BK256.out 1) | ((with_reducible refine gate_dst (N := 113) rfl ?_); (try (refine gate_guard (by rfl) ?_; dsimp only)); refine Kd.R_lit k24 _ 24 ?hg (N := 113) ?hd (xs := ([(⟨(rd_T24 x11_3 (ji57)).f0, (rd_T24 x11_3 (ji57)).f1⟩ : S24)] : List (S24))) (inner := [.string ((rd_T24 x11_3 (ji57)).f0), .string ((rd_T24 x11_3 (ji57)).f1)]) (ok := fun _ => True) (okp := fun _ => True) ?hr ?hp (fun _ hk => hk) trivial (Below.refl _ _) (Nat.le_refl _) (by simp) ?_; (case hd => rfl); (case hg => rfl); (case hr => first | (go_simp; done) | (go_simp; rfl)); (case hp => exact (Reps.c2 (show Kd.M k24 _ _ _ (⟨(rd_T24 x11_3 (ji57)).f0, (rd_T24 x11_3 (ji57)).f1⟩ : S24) [.string ((rd_T24 x11_3 (ji57)).f0), .string ((rd_T24 x11_3 (ji57)).f1)] from (k24_mkM _ _ _ (⟨(rd_T24 x11_3 (ji57)).f0, (rd_T24 x11_3 (ji57)).f1⟩ : S24) )) (Reps.none _ _))); intro v259 w72 ho73 hb hg_ hnew_; clear hg_ hnew_; (first | rw [← Ny258.out] at ho73 | (simp only [Int.reduceToNat] at ho73; rw [← Ny258.out] at ho73)); have n0_ := Aside0.mk (Kd.R_below (by (with_reducible repeat (first | apply Kd.R_alloc | apply Kd.R_drewN | apply Kd.R_drew)); exact (Kd.R_mono (Kd.R_far (p := ⟨gb256, 1, none⟩) (Kd.R_far (p := ⟨gb256, 0, none⟩) (Kd.R_types HO_0.out BK256.out (by decide)) (fun _ hk => hk.2) (.string ((rd_T24 x11_3 (ji57)).f0))) (fun _ hk => hk.2) (.string ((rd_T24 x11_3 (ji57)).f1))) (fun _ h_ => h_.1))) hb); have n1_ := Aside0.mk (Kd.R_elder' (by (with_reducible repeat (first | apply Kd.R_alloc | apply Kd.R_drewN | apply Kd.R_drew)); exact (Kd.R_mono (Kd.R_far (p := ⟨gb256, 1, none⟩) (Kd.R_far (p := ⟨gb256, 0, none⟩) (Kd.R_mono HO_7.out (fun k_ hk => (⟨hk, hk.2⟩ : _ ∧ k_ ≠ gb256))) (fun _ hk => hk.2) (.string ((rd_T24 x11_3 (ji57)).f0))) (fun _ hk => hk.2) (.string ((rd_T24 x11_3 (ji57)).f1))) (fun _ h_ => h_.1))) (Kd.R_base ho73) hb); have n2_ := Aside0.mk (Kd.R_elder' (by (with_reducible repeat (first | apply Kd.R_alloc | apply Kd.R_drewN | apply Kd.R_drew)); exact (Kd.R_mono (Kd.R_far (p := ⟨gb256, 1, none⟩) (Kd.R_far (p := ⟨gb256, 0, none⟩) (Kd.R_mono HO_9.out (fun k_ hk => (⟨hk, hk.2⟩ : _ ∧ k_ ≠ gb256))) (fun _ hk => hk.2) (.string ((rd_T24 x11_3 (ji57)).f0))) (fun _ hk => hk.2) (.string ((rd_T24 x11_3 (ji57)).f1))) (fun _ h_ => h_.1))) (Kd.R_base ho73) hb); have n3_ := Aside0.mk (Kd.R_elder' (by (with_reducible repeat (first | apply Kd.R_alloc | apply Kd.R_drewN | apply Kd.R_drew)); exact (Kd.R_mono (Kd.R_far (p := ⟨gb256, 1, none⟩) (Kd.R_far (p := ⟨gb256, 0, none⟩) (Kd.R_mono HO_11.out (fun k_ hk => (⟨hk, hk.2⟩ : _ ∧ k_ ≠ gb256))) (fun _ hk => hk.2) (.string ((rd_T24 x11_3 (ji57)).f0))) (fun _ hk => hk.2) (.string ((rd_T24 x11_3 (ji57)).f1))) (fun _ h_ => h_.1))) (Kd.R_base ho73) hb); have n4_ := Aside0.mk (Kd.R_lower (Kd.R_newB (Kd.R_newB (Kd.R_new' (Kd.R_new' (Kd.R_new' ho73 (Kd.R_lt (by (with_reducible repeat (first | apply Kd.R_alloc | apply Kd.R_drewN | apply Kd.R_drew)); exact (Kd.R_mono (Kd.R_far (p := ⟨gb256, 1, none⟩) (Kd.R_far (p := ⟨gb256, 0, none⟩) (Kd.R_mono HO_7.out (fun k_ hk => (⟨hk, hk.2⟩ : _ ∧ k_ ≠ gb256))) (fun _ hk => hk.2) (.string ((rd_T24 x11_3 (ji57)).f0))) (fun _ hk => hk.2) (.string ((rd_T24 x11_3 (ji57)).f1))) (fun _ h_ => h_.1))))) (Kd.R_lt (by (with_reducible repeat (first | apply Kd.R_alloc | apply Kd.R_drewN | apply Kd.R_drew)); exact (Kd.R_mono (Kd.R_far (p := ⟨gb256, 1, none⟩) (Kd.R_far (p := ⟨gb256, 0, none⟩) (Kd.R_mono HO_9.out (fun k_ hk => (⟨hk, hk.2⟩ : _ ∧ k_ ≠ gb256))) (fun _ hk => hk.2) (.string ((rd_T24 x11_3 (ji57)).f0))) (fun _ hk => hk.2) (.string ((rd_T24 x11_3 (ji57)).f1))) (fun _ h_ => h_.1))))) (Kd.R_lt (by (with_reducible repeat (first | apply Kd.R_alloc | apply Kd.R_drewN | apply Kd.R_drew)); exact (Kd.R_mono (Kd.R_far (p := ⟨gb256, 1, none⟩) (Kd.R_far (p := ⟨gb256, 0, none⟩) (Kd.R_mono HO_11.out (fun k_ hk => (⟨hk, hk.2⟩ : _ ∧ k_ ≠ gb256))) (fun _ hk => hk.2) (.string ((rd_T24 x11_3 (ji57)).f0))) (fun _ hk => hk.2) (.string ((rd_T24 x11_3 (ji57)).f1))) (fun _ h_ => h_.1))))) (g := gb226) (o := .cells #[.string t230, .string t231] 24 (0, 0)) (by (with_reducible repeat (first | refine blk_drewN ?_ _ | refine blk_drew ?_ | refine blk_alloc ?_ _)); refine blk_far ?_ NB226_256.out _; (with_reducible repeat (first | refine blk_drewN ?_ _ | refine blk_drew ?_ | refine blk_alloc ?_ _)); refine blk_far ?_ NB226_256.out _; (with_reducible repeat (first | refine blk_drewN ?_ _ | refine blk_drew ?_ | refine blk_alloc ?_ _)); exact BK226.out)) (g := gb256) (o := .cells #[.string ((rd_T24 x11_3 (ji57)).f0), .string ((rd_T24 x11_3 (ji57)).f1)] 24 (0, 0)) (by (with_reducible repeat (first | refine blk_drewN ?_ _ | refine blk_drew ?_ | refine blk_alloc ?_ _)); refine blk_put (cs := #[.string ((rd_T24 x11_3 (ji57)).f0), .string (⟨#[]⟩ : ByteArray)]) ?_ 1 _ rfl; (with_reducible repeat (first | refine blk_drewN ?_ _ | refine blk_drew ?_ | refine blk_alloc ?_ _)); refine blk_put (cs := #[.string (⟨#[]⟩ : ByteArray), .string (⟨#[]⟩ : ByteArray)]) ?_ 0 _ rfl; (with_reducible repeat (first | refine blk_drewN ?_ _ | refine blk_drew ?_ | refine blk_alloc ?_ _)); exact BK256.out)) (below_size (by repeat (first | (with_reducible first | exact HB.out | apply below_alloc | apply pw_below_drewN | apply below_drew1 | refine below_set ?_ GE226.out | refine below_set ?_ GE256.out) | exact HB.out)))); have n5_ := Aside0.mk (blk_below (g := gb226) (o := .cells #[.string t230, .string t231] 24 (0, 0)) (by (with_reducible repeat (first | refine blk_drewN ?_ _ | refine blk_drew ?_ | refine blk_alloc ?_ _)); refine blk_far ?_ NB226_256.out _; (with_reducible repeat (first | refine blk_drewN ?_ _ | refine blk_drew ?_ | refine blk_alloc ?_ _)); refine blk_far ?_ NB226_256.out _; (with_reducible repeat (first | refine blk_drewN ?_ _ | refine blk_drew ?_ | refine blk_alloc ?_ _)); exact BK226.out) hb); have n6_ := Aside0.mk (blk_below (g := gb256) (o := .cells #[.string ((rd_T24 x11_3 (ji57)).f0), .string ((rd_T24 x11_3 (ji57)).f1)] 24 (0, 0)) (by (with_reducible repeat (first | refine blk_drewN ?_ _ | refine blk_drew ?_ | refine blk_alloc ?_ _)); refine blk_put (cs := #[.string ((rd_T24 x11_3 (ji57)).f0), .string (⟨#[]⟩ : ByteArray)]) ?_ 1 _ rfl; (with_reducible repeat (first | refine blk_drewN ?_ _ | refine blk_drew ?_ | refine blk_alloc ?_ _)); refine blk_put (cs := #[.string (⟨#[]⟩ : ByteArray), .string (⟨#[]⟩ : ByteArray)]) ?_ 0 _ rfl; (with_reducible repeat (first | refine blk_drewN ?_ _ | refine blk_drew ?_ | refine blk_alloc ?_ _)); exact BK256.out) hb); have n7_ := Aside0.mk (below_step (by repeat (first | (with_reducible first | exact HB.out | apply below_alloc | apply pw_below_drewN | apply below_drew1 | refine below_set ?_ GE226.out | refine below_set ?_ GE256.out) | exact HB.out)) hb); clear HO_0; clear HO_7; clear HO_9; clear HO_11; clear BK226; clear BK256; clear HB; have HO_0 := n0_; have HO_7 := n1_; have HO_9 := n2_; have HO_11 := n3_; have HO260 := n4_; have BK226 := n5_; have BK256 := n6_; have HB := n7_; clear n0_ n1_ n2_ n3_ n4_ n5_ n6_ n7_; clear hb ho73; obtain ⟨Ao75, co75, eo75⟩ := Kd.R_slice HO_9.out; subst eo75) | ((with_reducible refine gate_builtin (b := .append) (xs := #[.tmp 113, .tmp 114]) rfl ?_); (try (refine gate_guard (by rfl) ?_; dsimp only)); at_builtin; refine Kd.R_append_rows k24 (w0 := w) w.heap.size rfl (.tmp 113) (.tmp 114) 28 24 (.agg #[(.string ⟨#[]⟩), (.string ⟨#[]⟩)]) 32 rfl Tryd.underlying28 info24 rfl (by decide) (by omega) v259 y258 x9_1 _ _ _ (fun k_ => some k_ ≠ (v233 : Value).ownBlock ∧ some k_ ≠ (.slice Ao75 x9_1.length co75 : Value).ownBlock ∧ some k_ ≠ (.slice (some ad255) x11_3.length co68 : Value).ownBlock ∧ k_ ≠ gb226 ∧ k_ ≠ gb256) (fun _ => False) rfl rfl ?aO ?aR (fun _ _ h => h) (fun _ h => h.elim) ?aF ?aB ?aS ?aL ?_; (case aR => repeat (first | exact (Kd.R_reads' HO_9.out).2.2 | (with_reducible refine Kd.C_alloc ?_ _) | (with_reducible refine Kd.C_drewN ?_ _) | (with_reducible refine Kd.C_drew ?_))); (case aB => exact (by repeat (first | (with_reducible first | exact HB.out | apply below_alloc | apply pw_below_drewN | apply below_drew1 | refine below_set ?_ GE226.out | refine below_set ?_ GE256.out) | exact HB.out))); (case aF => exact (fun k_ hk => ⟨Kd.fresh' (Kd.R_lt (by (with_reducible repeat (first | apply Kd.R_alloc | apply Kd.R_drewN | apply Kd.R_drew)); exact HO_7.out)) k_ hk, Kd.fresh' (Kd.R_lt (by (with_reducible repeat (first | apply Kd.R_alloc | apply Kd.R_drewN | apply Kd.R_drew)); exact HO_9.out)) k_ hk, Kd.fresh' (Kd.R_lt (by (with_reducible repeat (first | apply Kd.R_alloc | apply Kd.R_drewN | apply Kd.R_drew)); exact HO_11.out)) k_ hk, Kd.freshB (g := gb226) (o := .cells #[.string t230, .string t231] 24 (0, 0)) (by (with_reducible repeat (first | refine blk_drewN ?_ _ | refine blk_drew ?_ | refine blk_alloc ?_ _)); exact BK226.out) k_ hk, Kd.freshB (g := gb256) (o := .cells #[.string ((rd_T24 x11_3 (ji57)).f0), .string ((rd_T24 x11_3 (ji57)).f1)] 24 (0, 0)) (by (with_reducible repeat (first | refine blk_drewN ?_ _ | refine blk_drew ?_ | refine blk_alloc ?_ _)); exact BK256.out) k_ hk⟩)); (case aO => exact (by (with_reducible repeat (first | apply Kd.R_alloc | apply Kd.R_drewN | apply Kd.R_drew)); exact Kd.R_mono HO260.out (fun _ hk => ⟨hk.1.1.1.1.2, ⟨hk.1.1.1.2, ⟨hk.1.1.2, ⟨hk.1.2, hk.2⟩⟩⟩⟩))); (case aS => exact (below_size (by repeat (first | (with_reducible first | exact HB.out | apply below_alloc | apply pw_below_drewN | apply below_drew1 | refine below_set ?_ GE226.out | refine below_set ?_ GE256.out) | exact HB.out)))); (case aL => have := LMc67.out; omega); intro v262 w74 ho hb hg hat; rw [← Ny261.out] at ho; have n0_ := Aside0.mk (Kd.R_over' (by (with_reducible repeat (first | apply Kd.R_alloc | apply Kd.R_drewN | apply Kd.R_drew)); exact HO_0.out) (Kd.R_typed (by (with_reducible repeat (first | apply Kd.R_alloc | apply Kd.R_drewN | apply Kd.R_drew)); exact HO260.out)) (by decide) hg); have n1_ := Aside0.mk (Kd.R_after (ok := (fun k_ => some k_ ≠ (.slice Ao75 x9_1.length co75 : Value).ownBlock ∧ some k_ ≠ (.slice (some ad255) x11_3.length co68 : Value).ownBlock ∧ k_ ≠ gb226 ∧ k_ ≠ gb256)) (by (with_reducible repeat (first | apply Kd.R_alloc | apply Kd.R_drewN | apply Kd.R_drew)); exact Kd.R_mono HO_7.out (fun _ hk => ⟨⟨hk.1.1.1, ⟨hk.1.1.2.1, ⟨hk.1.1.2.2, hk.1.2⟩⟩⟩, hk.2⟩)) hg hat); have n2_ := Aside0.mk (Kd.R_after (ok := (fun k_ => some k_ ≠ (v233 : Value).ownBlock ∧ some k_ ≠ (.slice (some ad255) x11_3.length co68 : Value).ownBlock ∧ k_ ≠ gb226 ∧ k_ ≠ gb256)) (by (with_reducible repeat (first | apply Kd.R_alloc | apply Kd.R_drewN | apply Kd.R_drew)); exact Kd.R_mono HO_9.out (fun _ hk => ⟨⟨hk.1.1.1, ⟨hk.1.1.2.1, ⟨hk.1.1.2.2, hk.1.2⟩⟩⟩, hk.2⟩)) hg hat); have n3_ := Aside0.mk (Kd.R_after (ok := (fun k_ => some k_ ≠ (v233 : Value).ownBlock ∧ some k_ ≠ (.slice Ao75 x9_1.length co75 : Value).ownBlock ∧ k_ ≠ gb226 ∧ k_ ≠ gb256)) (by (with_reducible repeat (first | apply Kd.R_alloc | apply Kd.R_drewN | apply Kd.R_drew)); exact Kd.R_mono HO_11.out (fun _ hk => ⟨⟨hk.1.1.1, ⟨hk.1.1.2.1, ⟨hk.1.1.2.2, hk.1.2⟩⟩⟩, hk.2⟩)) hg hat); have n4_ := Aside0.mk (blk_grown (g := gb226) (o := .cells #[.string t230, .string t231] 24 (0, 0)) (by (with_reducible repeat (first | refine blk_drewN ?_ _ | refine blk_drew ?_ | refine blk_alloc ?_ _)); exact BK226.out) hg (Kd.R_away HO260.out (fun _ hk => hk.1.2))); have n5_ := Aside0.mk (blk_grown (g := gb256) (o := .cells #[.string ((rd_T24 x11_3 (ji57)).f0), .string ((rd_T24 x11_3 (ji57)).f1)] 24 (0, 0)) (by (with_reducible repeat (first | refine blk_drewN ?_ _ | refine blk_drew ?_ | refine blk_alloc ?_ _)); exact BK256.out) hg (Kd.R_away HO260.out (fun _ hk => hk.2))); have n6_ := Aside0.mk (hb); have n7_ := Aside0.mk (ho); clear HO_0; clear HO_7; clear HO_9; clear HO_11; clear BK226; clear BK256; clear HB; clear HO260; have HO_0 := n0_; have HO_7 := n1_; have HO_9 := n2_; have HO_11 := n3_; have BK226 := n4_; have BK256 := n5_; have HB := n6_; have HO263 := n7_; clear n0_ n1_ n2_ n3_ n4_ n5_ n6_ n7_; clear ho hb hg hat))
                                        go_roundg kj37
                                        case measure => have := HK1.out; have := HJ19.out; have := HK3.out; have := HJ37.out; omega
                                        case rel => exact ⟨(y261), (wrap64 (x10_1 + 1)), (by first | rfl | (simp; done) | (simp [*]; done)), H', ⟨by have := HK1.out; have := HJ19.out; have := HK3.out; have := HJ37.out; omega⟩, ⟨by (with_reducible repeat (first | apply Kd.R_alloc | apply Kd.R_drewN | apply Kd.R_drew)); exact HO_0.out⟩, ⟨by (with_reducible repeat (first | apply Kd.R_alloc | apply Kd.R_drewN | apply Kd.R_drew)); exact Kd.R_mono HO_7.out (fun _ hk => ⟨hk.2, hk.1.2.2.1⟩)⟩, ⟨by (with_reducible repeat (first | apply Kd.R_alloc | apply Kd.R_drewN | apply Kd.R_drew)); exact Kd.R_mono HO263.out (fun _ hk => ⟨hk.1, hk.2.2.2.1⟩)⟩, ⟨by (with_reducible repeat (first | refine blk_drewN ?_ _ | refine blk_drew ?_ | refine blk_alloc ?_ _)); exact BK226.out⟩, ⟨by repeat (first | (with_reducible first | exact HB.out | apply below_alloc | apply pw_below_drewN | apply below_drew1 | refine below_set ?_ GE226.out | refine below_set ?_ GE256.out) | exact HB.out)⟩⟩
                                      · rw [if_neg c67] at H
                                        exact absurd H (by simp)
                                  · rw [if_neg c59] at H
                                    exact absurd H (by simp)
                                · rw [if_neg c58] at H
                                  exact absurd H (by simp)
                              · rw [if_neg c56] at H
                                exact absurd H (by simp)
                            · rw [if_neg c55] at H
                              exact absurd H (by simp)
            · replace c22 := Bool.eq_false_iff.mpr c22
              subst c22
              have H1 : ((graftwoodlaw19_awake.f).bind fun t240 => (some t240)) = some r := by rw [if_neg (show ¬ (false = true) by decide)] at H; exact H
              clear H
              have H := H1
              clear H1
              replace H := Option.bind_eq_some_iff.mp H
              obtain ⟨t240, A760, H⟩ := H
              replace H : (some t240) = some r := H
              have A76 := Aside0.mk A760
              clear A760
              obtain rfl := Option.some.inj H
              go_wp2_with (first | ((with_reducible refine gate_callee (f := 9) rfl ?_); refine goesL_ (some 116) rfl rfl Tryd.func9 (by kernel_rfl) rfl #[] rfl (by (try simp only [List.map_toArray, List.map_cons, List.map_nil]); first | done | rfl | (simp only [List.length_drop, List.length_take]; rfl)) ?_; (with_reducible refine (graftwoodlaw19_awake.calls  t240 _ A76.out HR_).mono ?_); rintro e w77 ⟨rfl, hb⟩; refine ⟨_, rfl, ?_⟩; have n0_ := Aside0.mk (Kd.R_below (by (with_reducible repeat (first | apply Kd.R_alloc | apply Kd.R_drewN | apply Kd.R_drew)); exact HO_0.out) hb); have n1_ := Aside0.mk (Kd.R_below (by (with_reducible repeat (first | apply Kd.R_alloc | apply Kd.R_drewN | apply Kd.R_drew)); exact HO_7.out) hb); have n2_ := Aside0.mk (Kd.R_below (by (with_reducible repeat (first | apply Kd.R_alloc | apply Kd.R_drewN | apply Kd.R_drew)); exact HO_9.out) hb); have n3_ := Aside0.mk (blk_below (g := gb226) (o := .cells #[.string t230, .string t231] 24 (0, 0)) (by (with_reducible repeat (first | refine blk_drewN ?_ _ | refine blk_drew ?_ | refine blk_alloc ?_ _)); exact BK226.out) hb); have n4_ := Aside0.mk (below_step (by repeat (first | (with_reducible first | exact HB.out | apply below_alloc | apply pw_below_drewN | apply below_drew1 | refine below_set ?_ GE226.out) | exact HB.out)) hb); clear HO_0; clear HO_7; clear HO_9; clear BK226; clear HB; have HO_0 := n0_; have HO_7 := n1_; have HO_9 := n2_; have BK226 := n3_; have HB := n4_; clear n0_ n1_ n2_ n3_ n4_; (try clear hb); (try clear hb2); (try clear hk); (try clear hi)))
              go_ret
              exact ⟨by first | rfl | (simp [errW_none, errW_some] <;> rfl) | (simp [*, errW_none, errW_some] <;> rfl), by repeat (first | (with_reducible first | exact HB.out | apply below_alloc | apply pw_below_drewN | apply below_drew1 | refine below_set ?_ GE226.out) | exact HB.out)⟩
  · rw [if_neg c7] at H
    have c7b0 : (t235 == 0) = false := beq_eq_false_iff_ne.mpr c7
    have c7b1 : (t235 != 0) = true := bne_iff_ne.mpr c7
    replace H := Option.bind_eq_some_iff.mp H
    obtain ⟨t236, A780, H⟩ := H
    replace H : (some t236) = some r := H
    have A78 := Aside0.mk A780
    clear A780
    obtain rfl := Option.some.inj H
    go_enter Tryd.func3, Tryd.ntmps3
    try go_wp2_with (first | ((with_reducible refine gate_dst (N := 4) rfl ?_); (try (refine gate_guard (by rfl) ?_; dsimp only)); refine box_event ?hg (N := 4) ?hd (cs := #[.string a1_0, .string a1_1]) (t := 24) ?hr ?_; (case hd => rfl); (case hg => rfl); (case hr => first | (go_simp; done) | (go_simp; rfl)); intro gb226 hg w79 hbox hb; have n0_ := Aside0.mk (below_step (by repeat (first | (with_reducible first | exact HB.out | apply below_alloc | apply pw_below_drewN | apply below_drew1) | exact HB.out)) hb); have n1_ := Aside0.mk (hbox); have n2_ := Aside0.mk ((by rw [hg]; exact (below_size (by repeat (first | (with_reducible first | exact HB.out | apply below_alloc | apply pw_below_drewN | apply below_drew1) | exact HB.out))) : w.heap.size ≤ gb226)); have n3_ := Aside0.mk ((by rw [hg]; exact (below_size (by repeat (first | (with_reducible first | exact HB.out | apply below_alloc | apply pw_below_drewN | apply below_drew1) | exact HB.out))) : w.heap.size ≤ gb226)); clear HB; have HB := n0_; have BK226 := n1_; have GW226 := n2_; have GE226 := n3_; clear n0_ n1_ n2_ n3_; clear hb hbox hg))
    have n0_ := Aside0.mk (blk_drew BK226.out)
    have n1_ := Aside0.mk (below_drew1 HB.out)
    clear BK226
    clear HB
    have BK226 := n0_
    have HB := n1_
    clear n0_ n1_
    refine start_ (n := 6) (S := fun w' => w'.cell? ⟨gb226, 0, none⟩ = some (.string a1_0) ∧ w'.cell? ⟨gb226, 1, none⟩ = some (.string a1_1)) (ds := [5]) #[false, false, false, false, false, false] (by kernel_rfl) rfl rfl ⟨(blk_cell BK226.out 0).trans rfl, (blk_cell BK226.out 1).trans rfl⟩ (fun hHeld => ?_)
    generalize w79.drew = w80 at BK226 HB hHeld ⊢
    refine pure_ (i := 0) (N := some 15) (v := ?_) (a' := ?_) #[true, false, false, false, false, false] rfl rfl (by kernel_rfl) (fun _ _ _ h => h) (Or.inl ⟨by rfl, ?_⟩) ?_ ?_
    rotate_left
    · intro w'
      go_simp
      with_reducible rfl
    rotate_left
    · simp only [Act.put, List.setIfInBounds_toArray, List.set_cons_zero, List.set_cons_succ, i64_w, i32_w]
      rfl
    refine take_ (i := 2) (N := some 17) (v := ?_) (a' := ?_) #[true, false, true, false, false, false] rfl rfl (by kernel_rfl) (fun _ _ _ h => h) (Or.inl ⟨by rfl, ?_⟩) hHeld ?_ ?_
    rotate_left
    · rintro w' ⟨s0, s1⟩
      go_simp
      with_reducible rfl
    rotate_left
    · simp only [Act.put, List.setIfInBounds_toArray, List.set_cons_zero, List.set_cons_succ, i64_w, i32_w]
      rfl
    refine one_ (i := 1) (N := some 16) #[true, true, true, false, false, false] rfl rfl (by kernel_rfl) (by decide) (fun K hK => ?_)
    refine goes_ Tryd.func6 (by kernel_rfl) rfl #[.slice A0 l0.length c0] (by rfl) rfl rfl (by (try simp only [List.map_toArray, List.map_cons, List.map_nil]); first | done | rfl | (simp only [List.length_drop, List.length_take]; rfl)) ?_
    with_reducible refine (graftwoodlaw18_Few.calls k _ _ l0 t227 _ ?side1 ?side2 A4.out).mono ?_
    (case side1 => repeat (first | exact (Kd.C_below HR0.out HB.out) | (with_reducible refine Kd.C_alloc ?_ _) | (with_reducible refine Kd.C_drewN ?_ _) | (with_reducible refine Kd.C_drew ?_)))
    (case side2 => exact HC0.out)
    rintro e w81 ⟨v228, rfl, ho0, hb⟩
    refine ⟨_, rfl, ?_⟩
    have n0_ := Aside0.mk (Kd.R_lower ho0 (below_size (by repeat (first | (with_reducible first | exact HB.out | apply below_alloc | apply pw_below_drewN | apply below_drew1 | refine below_set ?_ GE226.out) | exact HB.out))))
    have n1_ := Aside0.mk (blk_below (g := gb226) (o := .cells #[.string a1_0, .string a1_1] 24 (0, 0)) (by (with_reducible repeat (first | refine blk_drewN ?_ _ | refine blk_drew ?_ | refine blk_alloc ?_ _)); exact BK226.out) hb)
    have n2_ := Aside0.mk (below_step (by repeat (first | (with_reducible first | exact HB.out | apply below_alloc | apply pw_below_drewN | apply below_drew1 | refine below_set ?_ GE226.out) | exact HB.out)) hb)
    clear BK226
    clear HB
    have HO229 := n0_
    have BK226 := n1_
    have HB := n2_
    clear n0_ n1_ n2_
    (try clear hb)
    (try clear hb2)
    (try clear hk)
    (try clear hi)
    (try clear ho0)
    refine hK.out _ _ ⟨(blk_cell BK226.out 0).trans rfl, (blk_cell BK226.out 1).trans rfl⟩ (fun hHeld => ?_)
    clear hK K
    refine norm_ (a' := ?_) ?_ ?_
    rotate_left
    · show Act.put _ (some 16) _ = _
      simp only [Act.put, List.setIfInBounds_toArray, List.set_cons_zero, List.set_cons_succ, i64_w, i32_w]
      rfl
    refine one_ (i := 3) (N := some 18) #[true, true, true, true, false, false] rfl rfl (by kernel_rfl) (by decide) (fun K hK => ?_)
    refine goes_ Tryd.func7 (by kernel_rfl) rfl #[.agg #[.string a1_0, .string a1_1]] (by rfl) rfl rfl (by (try simp only [List.map_toArray, List.map_cons, List.map_nil]); first | done | rfl | (simp only [List.length_drop, List.length_take]; rfl)) ?_
    with_reducible refine (graftwoodlaw05_One.calls a1_0 a1_1 t230 t231 _ A5.out).mono ?_
    rintro e w82 ⟨rfl, hb⟩
    refine ⟨_, rfl, ?_⟩
    have n0_ := Aside0.mk (Kd.R_below (by (with_reducible repeat (first | apply Kd.R_alloc | apply Kd.R_drewN | apply Kd.R_drew)); exact HO229.out) hb)
    have n1_ := Aside0.mk (blk_below (g := gb226) (o := .cells #[.string a1_0, .string a1_1] 24 (0, 0)) (by (with_reducible repeat (first | refine blk_drewN ?_ _ | refine blk_drew ?_ | refine blk_alloc ?_ _)); exact BK226.out) hb)
    have n2_ := Aside0.mk (below_step (by repeat (first | (with_reducible first | exact HB.out | apply below_alloc | apply pw_below_drewN | apply below_drew1 | refine below_set ?_ GE226.out) | exact HB.out)) hb)
    clear HO229
    clear BK226
    clear HB
    have HO229 := n0_
    have BK226 := n1_
    have HB := n2_
    clear n0_ n1_ n2_
    (try clear hb)
    (try clear hb2)
    (try clear hk)
    (try clear hi)
    refine hK.out _ _ ⟨(blk_cell BK226.out 0).trans rfl, (blk_cell BK226.out 1).trans rfl⟩ (fun hHeld => ?_)
    clear hK K
    refine norm_ (a' := ?_) ?_ ?_
    rotate_left
    · show Act.put _ (some 18) _ = _
      simp only [Act.put, List.setIfInBounds_toArray, List.set_cons_zero, List.set_cons_succ, i64_w, i32_w]
      rfl
    refine pure_ (i := 4) (N := some 0) (v := ?_) (a' := ?_) #[true, true, true, true, true, false] rfl rfl (by kernel_rfl) (fun _ _ _ h => h) (Or.inl ⟨by rfl, ?_⟩) ?_ ?_
    rotate_left
    · intro w'
      go_simp
      with_reducible rfl
    rotate_left
    · simp only [Act.put, List.setIfInBounds_toArray, List.set_cons_zero, List.set_cons_succ, i64_w, i32_w]
      rfl
    refine last_ (i := 5) (N := none) #[true, true, true, true, true, true] rfl rfl (by kernel_rfl) (by decide) (fun K hK => ?_)
    have hs83 : w82.cell? ⟨gb226, 0, none⟩ = some (.string a1_0) := (blk_cell BK226.out 0).trans rfl
    have hfs83 := blk_frozen BK226.out 0
    have hs84 : w82.cell? ⟨gb226, 1, none⟩ = some (.string a1_1) := (blk_cell BK226.out 1).trans rfl
    have hfs84 := blk_frozen BK226.out 1
    refine skip_ (w1 := ?_) (by rfl) rfl ?_ ?_
    rotate_left
    · go_simp
      rfl
    refine hK.out _ _ ?_
    clear hK K
    refine done_ (by kernel_rfl) ?_
    have hcz85_0 : w82.cell? ⟨gb226, 0, none⟩ = some (.string a1_0) := (blk_cell BK226.out 0).trans rfl
    have hcz85_1 : w82.cell? ⟨gb226, 1, none⟩ = some (.string a1_1) := (blk_cell BK226.out 1).trans rfl
    have hfz85_0 := blk_frozen BK226.out 0
    have hfz85_1 := blk_frozen BK226.out 1
    obtain ⟨Ao86, co86, eo86⟩ := Kd.R_slice HO229.out
    subst eo86
    try go_wp2_with (first | ((with_reducible refine gate_callee (f := 8) rfl ?_); refine goesL_ (some 22) rfl rfl Tryd.func8 (by kernel_rfl) rfl #[.slice Ao86 t227.length co86, .agg #[.string t230, .string t231]] rfl (by (try simp only [List.map_toArray, List.map_cons, List.map_nil]); first | done | rfl | (simp only [List.length_drop, List.length_take]; rfl)) ?_; (with_reducible refine (why_Chain.calls _ _ t227 t230 t231 t232 t235 _ ?side1 ?side2 A6.out).mono ?_); (case side1 => refine (Kd.R_reads' (e := 34) (base := w.heap.size) (ok := fun k_ => True) (n := t227.length) (c := co86) ?_).2.2; exact (by (with_reducible repeat (first | apply Kd.R_alloc | apply Kd.R_drewN | apply Kd.R_drew)); exact (Kd.R_mono (Kd.R_far (p := ⟨gb226, 1, none⟩) (Kd.R_far (p := ⟨gb226, 0, none⟩) (Kd.R_types HO229.out BK226.out (by decide)) (fun _ hk => hk.2) (.string t230)) (fun _ hk => hk.2) (.string t231)) (fun _ h_ => h_.1)))); (case side2 => exact (Kd.R_reads' HO229.out).2.1); rintro e w87 ⟨v233, rfl, ho0, hb⟩; refine ⟨_, rfl, ?_⟩; have n0_ := Aside0.mk (Kd.R_below (by (with_reducible repeat (first | apply Kd.R_alloc | apply Kd.R_drewN | apply Kd.R_drew)); exact (Kd.R_mono (Kd.R_far (p := ⟨gb226, 1, none⟩) (Kd.R_far (p := ⟨gb226, 0, none⟩) (Kd.R_types HO229.out BK226.out (by decide)) (fun _ hk => hk.2) (.string t230)) (fun _ hk => hk.2) (.string t231)) (fun _ h_ => h_.1))) hb); have n1_ := Aside0.mk (Kd.R_lower (Kd.R_newB ho0 (g := gb226) (o := .cells #[.string t230, .string t231] 24 (0, 0)) (by (with_reducible repeat (first | refine blk_drewN ?_ _ | refine blk_drew ?_ | refine blk_alloc ?_ _)); refine blk_put (cs := #[.string t230, .string a1_1]) ?_ 1 _ rfl; (with_reducible repeat (first | refine blk_drewN ?_ _ | refine blk_drew ?_ | refine blk_alloc ?_ _)); refine blk_put (cs := #[.string a1_0, .string a1_1]) ?_ 0 _ rfl; (with_reducible repeat (first | refine blk_drewN ?_ _ | refine blk_drew ?_ | refine blk_alloc ?_ _)); exact BK226.out)) (below_size (by repeat (first | (with_reducible first | exact HB.out | apply below_alloc | apply pw_below_drewN | apply below_drew1 | refine below_set ?_ GE226.out) | exact HB.out)))); have n2_ := Aside0.mk (blk_below (g := gb226) (o := .cells #[.string t230, .string t231] 24 (0, 0)) (by (with_reducible repeat (first | refine blk_drewN ?_ _ | refine blk_drew ?_ | refine blk_alloc ?_ _)); refine blk_put (cs := #[.string t230, .string a1_1]) ?_ 1 _ rfl; (with_reducible repeat (first | refine blk_drewN ?_ _ | refine blk_drew ?_ | refine blk_alloc ?_ _)); refine blk_put (cs := #[.string a1_0, .string a1_1]) ?_ 0 _ rfl; (with_reducible repeat (first | refine blk_drewN ?_ _ | refine blk_drew ?_ | refine blk_alloc ?_ _)); exact BK226.out) hb); have n3_ := Aside0.mk (below_step (by repeat (first | (with_reducible first | exact HB.out | apply below_alloc | apply pw_below_drewN | apply below_drew1 | refine below_set ?_ GE226.out) | exact HB.out)) hb); clear HO229; clear BK226; clear HB; have HO229 := n0_; have HO234 := n1_; have BK226 := n2_; have HB := n3_; clear n0_ n1_ n2_ n3_; (try clear hb); (try clear hb2); (try clear hk); (try clear hi); (try clear ho0)) | ((with_reducible refine gate_callee (f := 9) rfl ?_); refine goesL_ (some 27) rfl rfl Tryd.func9 (by kernel_rfl) rfl #[] rfl (by (try simp only [List.map_toArray, List.map_cons, List.map_nil]); first | done | rfl | (simp only [List.length_drop, List.length_take]; rfl)) ?_; (with_reducible refine (graftwoodlaw19_awake.calls  t236 _ A78.out HR_).mono ?_); rintro e w88 ⟨rfl, hb⟩; refine ⟨_, rfl, ?_⟩; have n0_ := Aside0.mk (Kd.R_below (by (with_reducible repeat (first | apply Kd.R_alloc | apply Kd.R_drewN | apply Kd.R_drew)); exact HO229.out) hb); have n1_ := Aside0.mk (Kd.R_below (by (with_reducible repeat (first | apply Kd.R_alloc | apply Kd.R_drewN | apply Kd.R_drew)); exact HO234.out) hb); have n2_ := Aside0.mk (blk_below (g := gb226) (o := .cells #[.string t230, .string t231] 24 (0, 0)) (by (with_reducible repeat (first | refine blk_drewN ?_ _ | refine blk_drew ?_ | refine blk_alloc ?_ _)); exact BK226.out) hb); have n3_ := Aside0.mk (below_step (by repeat (first | (with_reducible first | exact HB.out | apply below_alloc | apply pw_below_drewN | apply below_drew1 | refine below_set ?_ GE226.out) | exact HB.out)) hb); clear HO229; clear HO234; clear BK226; clear HB; have HO229 := n0_; have HO234 := n1_; have BK226 := n2_; have HB := n3_; clear n0_ n1_ n2_ n3_; (try clear hb); (try clear hb2); (try clear hk); (try clear hi)))
    go_ret
    exact ⟨by first | rfl | (simp [errW_none, errW_some] <;> rfl) | (simp [*, errW_none, errW_some] <;> rfl), by repeat (first | (with_reducible first | exact HB.out | apply below_alloc | apply pw_below_drewN | apply below_drew1 | refine below_set ?_ GE226.out) | exact HB.out)⟩
end Go.Proofs.YtodkjmbmlobihaaDoor.Q
end
