/- Part 10 of this claim: several texts one behind the other: Fgraftwoodlaw19WhyMore. What each shows stands in its theorems; conditions: sizes of texts and lists, as the functions' definitions say. -/
import Derived.Test.YtodkjmbmlobihaaDoorMWhyMore0
import Derived.Test.YtodkjmbmlobihaaDoorMWhyMore3
import Derived.Test.YtodkjmbmlobihaaDoorMWhyMore1
import Derived.Test.YtodkjmbmlobihaaDoorMWhyMore8
import Derived.Test.YtodkjmbmlobihaaDoorMWhyMore6
import Derived.Test.YtodkjmbmlobihaaDoorMWhyMore2
import Derived.Test.YtodkjmbmlobihaaDoorMWhyMore7
section
namespace Go.Proofs.YtodkjmbmlobihaaDoor.Q
open Go.RowKit Go.Proofs.YtodkjmbmlobihaaDoorW.PrintWords Go.Proofs.YtodkjmbmlobihaaDoorW.PrintLast Go.Proofs.YtodkjmbmlobihaaDoorW.PrintMore
attribute [local go_sem] max2_int min2_int max_two min_two max_three min_three max_four min_four   -- for this text's walks alone
set_option linter.unusedVariables false
set_option linter.unusedSimpArgs false
/-! ### graftwoodlaw19_WhyMore: function 4 -/
mutual
def graftwoodlaw19_WhyMore.l0 : Nat → List (S34) → List (S34) → List (S24) → Int → List (S34) → Int → ByteArray → ByteArray → Option (Bool)
  | 0, _, _, _, _, _, _, _, _ => none
  | k + 1, x0, x1, x7, x8, x9, x10, x233000, x233001 => if x10 ≥ 0 then (if 0 ≤ x10 then (if x10 < (x0.length : Int) then ((some (([(⟨(⟨(rd_T34 x0 x10).f0.f0, (rd_T34 x0 x10).f0.f1⟩ : S24), (⟨(rd_T34 x0 x10).f1.f0, (rd_T34 x0 x10).f1.f1⟩ : S24)⟩ : S34), (⟨(⟨(rd_T34 x0 x10).f0.f0, (rd_T34 x0 x10).f0.f1⟩ : S24), (⟨(rd_T34 x0 x10).f1.f0, (rd_T34 x0 x10).f1.f1⟩ : S24)⟩ : S34)] : List (S34)) : List (S34))).bind fun y247 => (if x9.length + y247.length < 2199023255552 then (graftwoodlaw19_WhyMore.l0 k x0 x1 x7 x8 (x9 ++ y247) (wrap64 (x10 - 1)) x233000 x233001) else (none))) else (none)) else (none)) else ((why_Chain.f x9 x233000 x233001).bind fun bt253 => (if x8 = bt253.2 then ((graftwoodref05_Same.f k bt253.1 x7).bind fun t257 => (graftwoodlaw19_WhyMore.j1 k x1 x7 x8 x9 (!t257) x233000 x233001)) else (graftwoodlaw19_WhyMore.j1 k x1 x7 x8 x9 true x233000 x233001)))
def graftwoodlaw19_WhyMore.j1 : Nat → List (S34) → List (S24) → Int → List (S34) → Bool → ByteArray → ByteArray → Option (Bool)
  | 0, _, _, _, _, _, _, _ => none
  | k + 1, x1, x7, x8, x9, x59, x233000, x233001 => if x59 = true then (some false) else (if x9.length + x1.length < 2199023255552 then ((why_Chain.f (x9 ++ x1) x233000 x233001).bind fun bt258 => (if x8 = 0 then (graftwoodlaw19_WhyMore.j2 k x1 x7 x9 bt258.1 bt258.2 (bt258.2 == 1) x233000 x233001) else (graftwoodlaw19_WhyMore.j2 k x1 x7 x9 bt258.1 bt258.2 true x233000 x233001))) else (none))
def graftwoodlaw19_WhyMore.j2 : Nat → List (S34) → List (S24) → List (S34) → List (S24) → Int → Bool → ByteArray → ByteArray → Option (Bool)
  | 0, _, _, _, _, _, _, _, _ => none
  | k + 1, x1, x7, x9, x13, x14, x73, x233000, x233001 => if x73 = true then (if x14 = 1 then (if x9.length + x1.length < 2199023255552 then ((graftwoodref18_May.f k (x9 ++ x1)).bind fun t265 => (if t265 = true then ((graftwoodref05_May.f k x233000 x233001).bind fun t266 => (if t266 = true then (some false) else ((graftwoodlaw19_awake.f).bind fun t267 => (some t267)))) else ((graftwoodlaw19_awake.f).bind fun t268 => (some t268)))) else (none)) else ((graftwoodlaw19_awake.f).bind fun t269 => (some t269))) else (if x14 = 0 then (if (x13.length : Int) ≤ (x7.length : Int) then ((graftwoodlaw19_awake.f).bind fun t270 => (some t270)) else (some false)) else (some false))
end
def graftwoodlaw19_WhyMore.f (k : Nat) (l0 : List (S34)) (l1 : List (S34)) (a2_0 : ByteArray) (a2_1 : ByteArray) : Option (Bool) := (graftwoodlaw18_Few.f k l0).bind fun t233 => ((graftwoodlaw18_Few.f k l1).bind fun t236 => ((graftwoodlaw05_One.f a2_0 a2_1).bind fun bt239 => ((why_Chain.f t233 bt239.1 bt239.2).bind fun bt241 => (graftwoodlaw19_WhyMore.l0 k t233 t236 bt241.1 bt241.2 ([] : List (S34)) (wrap64 ((t233.length : Int) - 1)) bt239.1 bt239.2))))
theorem graftwoodlaw19_WhyMore.mono_l : ∀ k, (∀ y0 y1 y2 y3 y4 y5 y6 y7, LeO (graftwoodlaw19_WhyMore.l0 k y0 y1 y2 y3 y4 y5 y6 y7) (graftwoodlaw19_WhyMore.l0 (k + 1) y0 y1 y2 y3 y4 y5 y6 y7)) ∧ (∀ y0 y1 y2 y3 y4 y5 y6, LeO (graftwoodlaw19_WhyMore.j1 k y0 y1 y2 y3 y4 y5 y6) (graftwoodlaw19_WhyMore.j1 (k + 1) y0 y1 y2 y3 y4 y5 y6)) ∧ (∀ y0 y1 y2 y3 y4 y5 y6 y7, LeO (graftwoodlaw19_WhyMore.j2 k y0 y1 y2 y3 y4 y5 y6 y7) (graftwoodlaw19_WhyMore.j2 (k + 1) y0 y1 y2 y3 y4 y5 y6 y7))
  | 0 => ⟨fun _ _ _ _ _ _ _ _ r h => by simp [graftwoodlaw19_WhyMore.l0] at h, fun _ _ _ _ _ _ _ r h => by simp [graftwoodlaw19_WhyMore.j1] at h, fun _ _ _ _ _ _ _ _ r h => by simp [graftwoodlaw19_WhyMore.j2] at h⟩
  | k + 1 => by
    obtain ⟨ih0, ih1, ih2⟩ := graftwoodlaw19_WhyMore.mono_l k
    refine ⟨?_, ?_, ?_⟩
    · intro y0 y1 y2 y3 y4 y5 y6 y7
      unfold graftwoodlaw19_WhyMore.l0
      repeat' first
      | (with_reducible exact ih0 _ _ _ _ _ _ _ _)
      | (with_reducible exact ih1 _ _ _ _ _ _ _)
      | (with_reducible exact ih2 _ _ _ _ _ _ _ _)
      | (with_reducible exact graftwoodlaw18_Few.mono _ _)
      | (with_reducible exact graftwoodref05_May.mono _ _ _)
      | (with_reducible exact graftwoodref05_Same.mono _ _ _)
      | (with_reducible exact graftwoodref18_May.mono _ _)
      | (with_reducible exact LeO.refl _)
      | (with_reducible exact LeO.none _)
      | (with_reducible refine LeO.ite ?_ ?_)
      | (with_reducible refine LeO.bind ?_ (fun _ => ?_))
      | exact ih0 _ _ _ _ _ _ _ _
      | exact ih1 _ _ _ _ _ _ _
      | exact ih2 _ _ _ _ _ _ _ _
      | exact graftwoodlaw18_Few.mono _ _
      | exact graftwoodref05_May.mono _ _ _
      | exact graftwoodref05_Same.mono _ _ _
      | exact graftwoodref18_May.mono _ _
      | exact LeO.none _
      | refine LeO.ite ?_ ?_
      | refine LeO.bind ?_ (fun _ => ?_)
    · intro y0 y1 y2 y3 y4 y5 y6
      unfold graftwoodlaw19_WhyMore.j1
      repeat' first
      | (with_reducible exact ih0 _ _ _ _ _ _ _ _)
      | (with_reducible exact ih1 _ _ _ _ _ _ _)
      | (with_reducible exact ih2 _ _ _ _ _ _ _ _)
      | (with_reducible exact graftwoodlaw18_Few.mono _ _)
      | (with_reducible exact graftwoodref05_May.mono _ _ _)
      | (with_reducible exact graftwoodref05_Same.mono _ _ _)
      | (with_reducible exact graftwoodref18_May.mono _ _)
      | (with_reducible exact LeO.refl _)
      | (with_reducible exact LeO.none _)
      | (with_reducible refine LeO.ite ?_ ?_)
      | (with_reducible refine LeO.bind ?_ (fun _ => ?_))
      | exact ih0 _ _ _ _ _ _ _ _
      | exact ih1 _ _ _ _ _ _ _
      | exact ih2 _ _ _ _ _ _ _ _
      | exact graftwoodlaw18_Few.mono _ _
      | exact graftwoodref05_May.mono _ _ _
      | exact graftwoodref05_Same.mono _ _ _
      | exact graftwoodref18_May.mono _ _
      | exact LeO.none _
      | refine LeO.ite ?_ ?_
      | refine LeO.bind ?_ (fun _ => ?_)
    · intro y0 y1 y2 y3 y4 y5 y6 y7
      unfold graftwoodlaw19_WhyMore.j2
      repeat' first
      | (with_reducible exact ih0 _ _ _ _ _ _ _ _)
      | (with_reducible exact ih1 _ _ _ _ _ _ _)
      | (with_reducible exact ih2 _ _ _ _ _ _ _ _)
      | (with_reducible exact graftwoodlaw18_Few.mono _ _)
      | (with_reducible exact graftwoodref05_May.mono _ _ _)
      | (with_reducible exact graftwoodref05_Same.mono _ _ _)
      | (with_reducible exact graftwoodref18_May.mono _ _)
      | (with_reducible exact LeO.refl _)
      | (with_reducible exact LeO.none _)
      | (with_reducible refine LeO.ite ?_ ?_)
      | (with_reducible refine LeO.bind ?_ (fun _ => ?_))
      | exact ih0 _ _ _ _ _ _ _ _
      | exact ih1 _ _ _ _ _ _ _
      | exact ih2 _ _ _ _ _ _ _ _
      | exact graftwoodlaw18_Few.mono _ _
      | exact graftwoodref05_May.mono _ _ _
      | exact graftwoodref05_Same.mono _ _ _
      | exact graftwoodref18_May.mono _ _
      | exact LeO.none _
      | refine LeO.ite ?_ ?_
      | refine LeO.bind ?_ (fun _ => ?_)
theorem graftwoodlaw19_WhyMore.mono : ∀ a0 a1 a2 a3 k, LeO (graftwoodlaw19_WhyMore.f k a0 a1 a2 a3) (graftwoodlaw19_WhyMore.f (k + 1) a0 a1 a2 a3) := by
  intro a0 a1 a2 a3 k
  obtain ⟨ih0, ih1, ih2⟩ := graftwoodlaw19_WhyMore.mono_l k
  unfold graftwoodlaw19_WhyMore.f
  repeat' first
      | (with_reducible exact ih0 _ _ _ _ _ _ _ _)
      | (with_reducible exact ih1 _ _ _ _ _ _ _)
      | (with_reducible exact ih2 _ _ _ _ _ _ _ _)
      | (with_reducible exact graftwoodlaw18_Few.mono _ _)
      | (with_reducible exact graftwoodref05_May.mono _ _ _)
      | (with_reducible exact graftwoodref05_Same.mono _ _ _)
      | (with_reducible exact graftwoodref18_May.mono _ _)
      | (with_reducible exact LeO.refl _)
      | (with_reducible exact LeO.none _)
      | (with_reducible refine LeO.ite ?_ ?_)
      | (with_reducible refine LeO.bind ?_ (fun _ => ?_))
      | exact ih0 _ _ _ _ _ _ _ _
      | exact ih1 _ _ _ _ _ _ _
      | exact ih2 _ _ _ _ _ _ _ _
      | exact graftwoodlaw18_Few.mono _ _
      | exact graftwoodref05_May.mono _ _ _
      | exact graftwoodref05_Same.mono _ _ _
      | exact graftwoodref18_May.mono _ _
      | exact LeO.none _
      | refine LeO.ite ?_ ?_
      | refine LeO.bind ?_ (fun _ => ?_)
def graftwoodlaw19_WhyMore.T1 : Bool × List (List Nat × List Nat) := (true, [([], []), ([0], [0]), ([], []), ([2, 1], [2]), ([], []), ([4, 3], [4]), ([1, 5, 0, 1], [0, 1]), ([3, 6, 0, 1, 2, 3, 6], [2, 3]), ([5, 7, 0, 1, 2, 3, 4, 5, 6, 7], [5])])
def graftwoodlaw19_WhyMore.B1 : List Nat := [0, 1, 0, 7, 0, 31, 63, 127, 255]
theorem graftwoodlaw19_WhyMore.tab1 : rtab .any (opsOf Tryd.f4 1) = graftwoodlaw19_WhyMore.T1 := by kernel_rfl
theorem graftwoodlaw19_WhyMore.bits1 : waitsOk graftwoodlaw19_WhyMore.T1.2 graftwoodlaw19_WhyMore.B1 = true := by kernel_rfl
def graftwoodlaw19_WhyMore.T7 : Bool × List (List Nat × List Nat) := (true, [([], []), ([], []), ([], []), ([1, 2], [1, 2]), ([3], [3]), ([], []), ([], []), ([5, 6], [5, 6]), ([7], [7]), ([4, 8], [4, 8]), ([0, 9], [0, 9]), ([10, 10, 0, 1, 2, 3, 4, 5, 6, 7, 8, 9, 10], [0, 10])])
def graftwoodlaw19_WhyMore.B7 : List Nat := [0, 0, 0, 6, 14, 0, 0, 96, 224, 510, 1023, 2047]
theorem graftwoodlaw19_WhyMore.tab7 : rtab .any (opsOf Tryd.f4 7) = graftwoodlaw19_WhyMore.T7 := by kernel_rfl
theorem graftwoodlaw19_WhyMore.bits7 : waitsOk graftwoodlaw19_WhyMore.T7.2 graftwoodlaw19_WhyMore.B7 = true := by kernel_rfl
def graftwoodlaw19_WhyMore.T11 : Bool × List (List Nat × List Nat) := (true, [([], []), ([], []), ([0, 1], [0, 1]), ([], []), ([2, 3, 2], [2, 3]), ([4], [4]), ([5], [5]), ([5], [5]), ([6, 4, 0, 1, 2, 3, 4, 5, 6], [6]), ([7, 8, 0, 1, 2, 3, 4, 5, 6, 7, 8], [7])])
def graftwoodlaw19_WhyMore.B11 : List Nat := [0, 0, 3, 0, 15, 31, 63, 63, 127, 511]
theorem graftwoodlaw19_WhyMore.tab11 : rtab .any (opsOf Tryd.f4 11) = graftwoodlaw19_WhyMore.T11 := by kernel_rfl
theorem graftwoodlaw19_WhyMore.bits11 : waitsOk graftwoodlaw19_WhyMore.T11.2 graftwoodlaw19_WhyMore.B11 = true := by kernel_rfl
set_option maxHeartbeats 8000000 in
set_option maxRecDepth 100000 in
theorem graftwoodlaw19_WhyMore.calls (k : Nat) (A0 : Option Addr) (c0 : Nat) (l0 : List (S34)) (A1 : Option Addr) (c1 : Nat) (l1 : List (S34)) (a2_0 : ByteArray) (a2_1 : ByteArray) (r : Bool) (w : World) (hr0 : Kd.C k34 w A0 l0.length l0) (hc0 : l0.length ≤ c0) (hr1 : Kd.C k34 w A1 l1.length l1) (hc1 : l1.length ≤ c1) (h : graftwoodlaw19_WhyMore.f k l0 l1 a2_0 a2_1 = some r) (HR_ : Aside0 (r = true)) :
    Calls Tryd.prog 4 #[.slice A0 l0.length c0, .slice A1 l1.length c1, .agg #[.string a2_0, .string a2_1]] w fun e w' => e = .returned (.bool r) ∧ Below w.heap.size w w' := by
  have hu24 := Tryd.underlying24
  have hu34 := Tryd.underlying34
  have HR0 := Aside0.mk hr0
  have HC0 := Aside0.mk hc0
  clear hr0 hc0
  have HR1 := Aside0.mk hr1
  have HC1 := Aside0.mk hc1
  clear hr1 hc1
  have HB := Aside0.mk (Below.refl w.heap.size w)
  have H : ((graftwoodlaw18_Few.f k l0).bind fun t233 => ((graftwoodlaw18_Few.f k l1).bind fun t236 => ((graftwoodlaw05_One.f a2_0 a2_1).bind fun bt239 => ((why_Chain.f t233 bt239.1 bt239.2).bind fun bt241 => (graftwoodlaw19_WhyMore.l0 k t233 t236 bt241.1 bt241.2 ([] : List (S34)) (wrap64 ((t233.length : Int) - 1)) bt239.1 bt239.2))))) = some r := h
  clear h
  replace H := Option.bind_eq_some_iff.mp H
  obtain ⟨t233, A40, H⟩ := H
  replace H : ((graftwoodlaw18_Few.f k l1).bind fun t236 => ((graftwoodlaw05_One.f a2_0 a2_1).bind fun bt239 => ((why_Chain.f t233 bt239.1 bt239.2).bind fun bt241 => (graftwoodlaw19_WhyMore.l0 k t233 t236 bt241.1 bt241.2 ([] : List (S34)) (wrap64 ((t233.length : Int) - 1)) bt239.1 bt239.2)))) = some r := H
  have A4 := Aside0.mk A40
  clear A40
  replace H := Option.bind_eq_some_iff.mp H
  obtain ⟨t236, A50, H⟩ := H
  replace H : ((graftwoodlaw05_One.f a2_0 a2_1).bind fun bt239 => ((why_Chain.f t233 bt239.1 bt239.2).bind fun bt241 => (graftwoodlaw19_WhyMore.l0 k t233 t236 bt241.1 bt241.2 ([] : List (S34)) (wrap64 ((t233.length : Int) - 1)) bt239.1 bt239.2))) = some r := H
  have A5 := Aside0.mk A50
  clear A50
  replace H := Option.bind_eq_some_iff.mp H
  obtain ⟨⟨t239, t240⟩, A60, H⟩ := H
  replace H : ((why_Chain.f t233 t239 t240).bind fun bt241 => (graftwoodlaw19_WhyMore.l0 k t233 t236 bt241.1 bt241.2 ([] : List (S34)) (wrap64 ((t233.length : Int) - 1)) t239 t240)) = some r := H
  have A6 := Aside0.mk A60
  clear A60
  replace H := Option.bind_eq_some_iff.mp H
  obtain ⟨⟨t241, t244⟩, A70, H⟩ := H
  replace H : (graftwoodlaw19_WhyMore.l0 k t233 t236 t241 t244 ([] : List (S34)) (wrap64 ((t233.length : Int) - 1)) t239 t240) = some r := H
  have A7 := Aside0.mk A70
  clear A70
  have H' := Aside0.mk H
  clear H
  go_enter Tryd.func4, Tryd.ntmps4
  try go_wp2_with (first | ((with_reducible refine gate_dst (N := 5) rfl ?_); (try (refine gate_guard (by rfl) ?_; dsimp only)); refine box_event ?hg (N := 5) ?hd (cs := #[.string a2_0, .string a2_1]) (t := 24) ?hr ?_; (case hd => rfl); (case hg => rfl); (case hr => first | (go_simp; done) | (go_simp; rfl)); intro gb232 hg w8 hbox hb; have n0_ := Aside0.mk (below_step (by repeat (first | (with_reducible first | exact HB.out | apply below_alloc | apply pw_below_drewN | apply below_drew1) | exact HB.out)) hb); have n1_ := Aside0.mk (hbox); have n2_ := Aside0.mk ((by rw [hg]; exact (below_size (by repeat (first | (with_reducible first | exact HB.out | apply below_alloc | apply pw_below_drewN | apply below_drew1) | exact HB.out))) : w.heap.size ≤ gb232)); have n3_ := Aside0.mk ((by rw [hg]; exact (below_size (by repeat (first | (with_reducible first | exact HB.out | apply below_alloc | apply pw_below_drewN | apply below_drew1) | exact HB.out))) : w.heap.size ≤ gb232)); clear HB; have HB := n0_; have BK232 := n1_; have GW232 := n2_; have GE232 := n3_; clear n0_ n1_ n2_ n3_; clear hb hbox hg))
  have n0_ := Aside0.mk (blk_drew BK232.out)
  have n1_ := Aside0.mk (below_drew1 HB.out)
  clear BK232
  clear HB
  have BK232 := n0_
  have HB := n1_
  clear n0_ n1_
  refine start_ (n := 9) (S := fun w' => w'.cell? ⟨gb232, 0, none⟩ = some (.string a2_0) ∧ w'.cell? ⟨gb232, 1, none⟩ = some (.string a2_1)) (ds := [8]) #[false, false, false, false, false, false, false, false, false] (by kernel_rfl) rfl rfl ⟨(blk_cell BK232.out 0).trans rfl, (blk_cell BK232.out 1).trans rfl⟩ (fun hHeld => ?_); refine with_tabW graftwoodlaw19_WhyMore.tab1 graftwoodlaw19_WhyMore.bits1 (fun HT_ HW_ => ?_)
  generalize w8.drew = w9 at BK232 HB hHeld ⊢
  refine pure_ (i := 0) (N := some 15) (v := ?_) (a' := ?_) #[true, false, false, false, false, false, false, false, false] rfl rfl (any_of HT_.out (by kernel_rfl)) (fun _ _ _ h => h) (Or.inl ⟨by rfl, ?_⟩) ?_ ?_
  rotate_left
  · intro w'
    go_simp
    with_reducible rfl
  rotate_left
  · simp only [Act.put, List.setIfInBounds_toArray, List.set_cons_zero, List.set_cons_succ, i64_w, i32_w]
    rfl
  refine pure_ (i := 2) (N := some 17) (v := ?_) (a' := ?_) #[true, false, true, false, false, false, false, false, false] rfl rfl (any_of HT_.out (by kernel_rfl)) (fun _ _ _ h => h) (Or.inl ⟨by rfl, ?_⟩) ?_ ?_
  rotate_left
  · intro w'
    go_simp
    with_reducible rfl
  rotate_left
  · simp only [Act.put, List.setIfInBounds_toArray, List.set_cons_zero, List.set_cons_succ, i64_w, i32_w]
    rfl
  refine take_ (i := 4) (N := some 19) (v := ?_) (a' := ?_) #[true, false, true, false, true, false, false, false, false] rfl rfl (take_ofW HT_.out HW_.out (by kernel_rfl)) (fun _ _ _ h => h) (Or.inl ⟨by rfl, ?_⟩) hHeld ?_ ?_
  rotate_left
  · rintro w' ⟨s0, s1⟩
    go_simp
    with_reducible rfl
  rotate_left
  · simp only [Act.put, List.setIfInBounds_toArray, List.set_cons_zero, List.set_cons_succ, i64_w, i32_w]
    rfl
  refine one_ (i := 1) (N := some 16) #[true, true, true, false, true, false, false, false, false] rfl rfl (one_of HT_.out (by kernel_rfl)) (by decide) (fun K hK => ?_)
  refine goes_ Tryd.func6 (by kernel_rfl) rfl #[.slice A0 l0.length c0] (by rfl) rfl rfl (by (try simp only [List.map_toArray, List.map_cons, List.map_nil]); first | done | rfl | (simp only [List.length_drop, List.length_take]; rfl)) ?_
  with_reducible refine (graftwoodlaw18_Few.calls k _ _ l0 t233 _ ?side1 ?side2 A4.out).mono ?_
  (case side1 => repeat (first | exact (Kd.C_below HR0.out HB.out) | (with_reducible refine Kd.C_alloc ?_ _) | (with_reducible refine Kd.C_drewN ?_ _) | (with_reducible refine Kd.C_drew ?_)))
  (case side2 => exact HC0.out)
  rintro e w10 ⟨v234, rfl, ho0, hb⟩
  refine ⟨_, rfl, ?_⟩
  have n0_ := Aside0.mk (Kd.R_lower ho0 (below_size (by repeat (first | (with_reducible first | exact HB.out | apply below_alloc | apply pw_below_drewN | apply below_drew1 | refine below_set ?_ GE232.out) | exact HB.out))))
  have n1_ := Aside0.mk (blk_below (g := gb232) (o := .cells #[.string a2_0, .string a2_1] 24 (0, 0)) (by (with_reducible repeat (first | refine blk_drewN ?_ _ | refine blk_drew ?_ | refine blk_alloc ?_ _)); exact BK232.out) hb)
  have n2_ := Aside0.mk (below_step (by repeat (first | (with_reducible first | exact HB.out | apply below_alloc | apply pw_below_drewN | apply below_drew1 | refine below_set ?_ GE232.out) | exact HB.out)) hb)
  clear BK232
  clear HB
  have HO235 := n0_
  have BK232 := n1_
  have HB := n2_
  clear n0_ n1_ n2_
  (try clear hb)
  (try clear hb2)
  (try clear hk)
  (try clear hi)
  (try clear ho0)
  refine hK.out _ _ ⟨(blk_cell BK232.out 0).trans rfl, (blk_cell BK232.out 1).trans rfl⟩ (fun hHeld => ?_)
  clear hK K
  refine norm_ (a' := ?_) ?_ ?_
  rotate_left
  · show Act.put _ (some 16) _ = _
    simp only [Act.put, List.setIfInBounds_toArray, List.set_cons_zero, List.set_cons_succ, i64_w, i32_w]
    rfl
  refine one_ (i := 3) (N := some 18) #[true, true, true, true, true, false, false, false, false] rfl rfl (one_of HT_.out (by kernel_rfl)) (by decide) (fun K hK => ?_)
  refine goes_ Tryd.func6 (by kernel_rfl) rfl #[.slice A1 l1.length c1] (by rfl) rfl rfl (by (try simp only [List.map_toArray, List.map_cons, List.map_nil]); first | done | rfl | (simp only [List.length_drop, List.length_take]; rfl)) ?_
  with_reducible refine (graftwoodlaw18_Few.calls k _ _ l1 t236 _ ?side1 ?side2 A5.out).mono ?_
  (case side1 => repeat (first | exact (Kd.C_below HR1.out HB.out) | (with_reducible refine Kd.C_alloc ?_ _) | (with_reducible refine Kd.C_drewN ?_ _) | (with_reducible refine Kd.C_drew ?_)))
  (case side2 => exact HC1.out)
  rintro e w11 ⟨v237, rfl, ho0, hb⟩
  refine ⟨_, rfl, ?_⟩
  have n0_ := Aside0.mk (Kd.R_elder' (by (with_reducible repeat (first | apply Kd.R_alloc | apply Kd.R_drewN | apply Kd.R_drew)); exact HO235.out) (Kd.R_base ho0) hb)
  have n1_ := Aside0.mk (Kd.R_lower (Kd.R_new' ho0 (Kd.R_lt (by (with_reducible repeat (first | apply Kd.R_alloc | apply Kd.R_drewN | apply Kd.R_drew)); exact HO235.out))) (below_size (by repeat (first | (with_reducible first | exact HB.out | apply below_alloc | apply pw_below_drewN | apply below_drew1 | refine below_set ?_ GE232.out) | exact HB.out))))
  have n2_ := Aside0.mk (blk_below (g := gb232) (o := .cells #[.string a2_0, .string a2_1] 24 (0, 0)) (by (with_reducible repeat (first | refine blk_drewN ?_ _ | refine blk_drew ?_ | refine blk_alloc ?_ _)); exact BK232.out) hb)
  have n3_ := Aside0.mk (below_step (by repeat (first | (with_reducible first | exact HB.out | apply below_alloc | apply pw_below_drewN | apply below_drew1 | refine below_set ?_ GE232.out) | exact HB.out)) hb)
  clear HO235
  clear BK232
  clear HB
  have HO235 := n0_
  have HO238 := n1_
  have BK232 := n2_
  have HB := n3_
  clear n0_ n1_ n2_ n3_
  (try clear hb)
  (try clear hb2)
  (try clear hk)
  (try clear hi)
  (try clear ho0)
  refine hK.out _ _ ⟨(blk_cell BK232.out 0).trans rfl, (blk_cell BK232.out 1).trans rfl⟩ (fun hHeld => ?_)
  clear hK K
  refine norm_ (a' := ?_) ?_ ?_
  rotate_left
  · show Act.put _ (some 18) _ = _
    simp only [Act.put, List.setIfInBounds_toArray, List.set_cons_zero, List.set_cons_succ, i64_w, i32_w]
    rfl
  refine one_ (i := 5) (N := some 20) #[true, true, true, true, true, true, false, false, false] rfl rfl (one_of HT_.out (by kernel_rfl)) (by decide) (fun K hK => ?_)
  refine goes_ Tryd.func7 (by kernel_rfl) rfl #[.agg #[.string a2_0, .string a2_1]] (by rfl) rfl rfl (by (try simp only [List.map_toArray, List.map_cons, List.map_nil]); first | done | rfl | (simp only [List.length_drop, List.length_take]; rfl)) ?_
  with_reducible refine (graftwoodlaw05_One.calls a2_0 a2_1 t239 t240 _ A6.out).mono ?_
  rintro e w12 ⟨rfl, hb⟩
  refine ⟨_, rfl, ?_⟩
  have n0_ := Aside0.mk (Kd.R_below (by (with_reducible repeat (first | apply Kd.R_alloc | apply Kd.R_drewN | apply Kd.R_drew)); exact HO235.out) hb)
  have n1_ := Aside0.mk (Kd.R_below (by (with_reducible repeat (first | apply Kd.R_alloc | apply Kd.R_drewN | apply Kd.R_drew)); exact HO238.out) hb)
  have n2_ := Aside0.mk (blk_below (g := gb232) (o := .cells #[.string a2_0, .string a2_1] 24 (0, 0)) (by (with_reducible repeat (first | refine blk_drewN ?_ _ | refine blk_drew ?_ | refine blk_alloc ?_ _)); exact BK232.out) hb)
  have n3_ := Aside0.mk (below_step (by repeat (first | (with_reducible first | exact HB.out | apply below_alloc | apply pw_below_drewN | apply below_drew1 | refine below_set ?_ GE232.out) | exact HB.out)) hb)
  clear HO235
  clear HO238
  clear BK232
  clear HB
  have HO235 := n0_
  have HO238 := n1_
  have BK232 := n2_
  have HB := n3_
  clear n0_ n1_ n2_ n3_
  (try clear hb)
  (try clear hb2)
  (try clear hk)
  (try clear hi)
  refine hK.out _ _ ⟨(blk_cell BK232.out 0).trans rfl, (blk_cell BK232.out 1).trans rfl⟩ (fun hHeld => ?_)
  clear hK K
  refine norm_ (a' := ?_) ?_ ?_
  rotate_left
  · show Act.put _ (some 20) _ = _
    simp only [Act.put, List.setIfInBounds_toArray, List.set_cons_zero, List.set_cons_succ, i64_w, i32_w]
    rfl
  refine pure_ (i := 6) (N := some 0) (v := ?_) (a' := ?_) #[true, true, true, true, true, true, true, false, false] rfl rfl (any_of HT_.out (by kernel_rfl)) (fun _ _ _ h => h) (Or.inl ⟨by rfl, ?_⟩) ?_ ?_
  rotate_left
  · intro w'
    go_simp
    with_reducible rfl
  rotate_left
  · simp only [Act.put, List.setIfInBounds_toArray, List.set_cons_zero, List.set_cons_succ, i64_w, i32_w]
    rfl
  refine pure_ (i := 7) (N := some 1) (v := ?_) (a' := ?_) #[true, true, true, true, true, true, true, true, false] rfl rfl (any_of HT_.out (by kernel_rfl)) (fun _ _ _ h => h) (Or.inl ⟨by rfl, ?_⟩) ?_ ?_
  rotate_left
  · intro w'
    go_simp
    with_reducible rfl
  rotate_left
  · simp only [Act.put, List.setIfInBounds_toArray, List.set_cons_zero, List.set_cons_succ, i64_w, i32_w]
    rfl
  refine last_ (i := 8) (N := none) #[true, true, true, true, true, true, true, true, true] rfl rfl (one_of HT_.out (by kernel_rfl)) (by decide) (fun K hK => ?_)
  have hs13 : w12.cell? ⟨gb232, 0, none⟩ = some (.string a2_0) := (blk_cell BK232.out 0).trans rfl
  have hfs13 := blk_frozen BK232.out 0
  have hs14 : w12.cell? ⟨gb232, 1, none⟩ = some (.string a2_1) := (blk_cell BK232.out 1).trans rfl
  have hfs14 := blk_frozen BK232.out 1
  refine skip_ (w1 := ?_) (by rfl) rfl ?_ ?_
  rotate_left
  · go_simp
    rfl
  refine hK.out _ _ ?_
  clear hK K
  refine done_ (done_of HT_.out (by kernel_rfl)) ?_
  have hcz15_0 : w12.cell? ⟨gb232, 0, none⟩ = some (.string a2_0) := (blk_cell BK232.out 0).trans rfl
  have hcz15_1 : w12.cell? ⟨gb232, 1, none⟩ = some (.string a2_1) := (blk_cell BK232.out 1).trans rfl
  have hfz15_0 := blk_frozen BK232.out 0
  have hfz15_1 := blk_frozen BK232.out 1
  obtain ⟨Ao16, co16, eo16⟩ := Kd.R_slice HO235.out
  subst eo16
  try go_wp2_with (first | ((with_reducible refine gate_callee (f := 8) rfl ?_); refine goesL_ (some 24) rfl rfl Tryd.func8 (by kernel_rfl) rfl #[.slice Ao16 t233.length co16, .agg #[.string t239, .string t240]] rfl (by (try simp only [List.map_toArray, List.map_cons, List.map_nil]); first | done | rfl | (simp only [List.length_drop, List.length_take]; rfl)) ?_; (with_reducible refine (why_Chain.calls _ _ t233 t239 t240 t241 t244 _ ?side1 ?side2 A7.out).mono ?_); (case side1 => refine (Kd.R_reads' (e := 34) (base := w.heap.size) (ok := fun k_ => (True ∧ some k_ ≠ (v237 : Value).ownBlock)) (n := t233.length) (c := co16) ?_).2.2; exact (by (with_reducible repeat (first | apply Kd.R_alloc | apply Kd.R_drewN | apply Kd.R_drew)); exact (Kd.R_mono (Kd.R_far (p := ⟨gb232, 1, none⟩) (Kd.R_far (p := ⟨gb232, 0, none⟩) (Kd.R_types HO235.out BK232.out (by decide)) (fun _ hk => hk.2) (.string t239)) (fun _ hk => hk.2) (.string t240)) (fun _ h_ => h_.1)))); (case side2 => exact (Kd.R_reads' HO235.out).2.1); rintro e w17 ⟨v242, rfl, ho0, hb⟩; refine ⟨_, rfl, ?_⟩; have n0_ := Aside0.mk (Kd.R_below (by (with_reducible repeat (first | apply Kd.R_alloc | apply Kd.R_drewN | apply Kd.R_drew)); exact (Kd.R_mono (Kd.R_far (p := ⟨gb232, 1, none⟩) (Kd.R_far (p := ⟨gb232, 0, none⟩) (Kd.R_types HO235.out BK232.out (by decide)) (fun _ hk => hk.2) (.string t239)) (fun _ hk => hk.2) (.string t240)) (fun _ h_ => h_.1))) hb); have n1_ := Aside0.mk (Kd.R_below (by (with_reducible repeat (first | apply Kd.R_alloc | apply Kd.R_drewN | apply Kd.R_drew)); exact (Kd.R_mono (Kd.R_far (p := ⟨gb232, 1, none⟩) (Kd.R_far (p := ⟨gb232, 0, none⟩) (Kd.R_types HO238.out BK232.out (by decide)) (fun _ hk => hk.2) (.string t239)) (fun _ hk => hk.2) (.string t240)) (fun _ h_ => h_.1))) hb); have n2_ := Aside0.mk (Kd.R_lower (Kd.R_newB ho0 (g := gb232) (o := .cells #[.string t239, .string t240] 24 (0, 0)) (by (with_reducible repeat (first | refine blk_drewN ?_ _ | refine blk_drew ?_ | refine blk_alloc ?_ _)); refine blk_put (cs := #[.string t239, .string a2_1]) ?_ 1 _ rfl; (with_reducible repeat (first | refine blk_drewN ?_ _ | refine blk_drew ?_ | refine blk_alloc ?_ _)); refine blk_put (cs := #[.string a2_0, .string a2_1]) ?_ 0 _ rfl; (with_reducible repeat (first | refine blk_drewN ?_ _ | refine blk_drew ?_ | refine blk_alloc ?_ _)); exact BK232.out)) (below_size (by repeat (first | (with_reducible first | exact HB.out | apply below_alloc | apply pw_below_drewN | apply below_drew1 | refine below_set ?_ GE232.out) | exact HB.out)))); have n3_ := Aside0.mk (blk_below (g := gb232) (o := .cells #[.string t239, .string t240] 24 (0, 0)) (by (with_reducible repeat (first | refine blk_drewN ?_ _ | refine blk_drew ?_ | refine blk_alloc ?_ _)); refine blk_put (cs := #[.string t239, .string a2_1]) ?_ 1 _ rfl; (with_reducible repeat (first | refine blk_drewN ?_ _ | refine blk_drew ?_ | refine blk_alloc ?_ _)); refine blk_put (cs := #[.string a2_0, .string a2_1]) ?_ 0 _ rfl; (with_reducible repeat (first | refine blk_drewN ?_ _ | refine blk_drew ?_ | refine blk_alloc ?_ _)); exact BK232.out) hb); have n4_ := Aside0.mk (below_step (by repeat (first | (with_reducible first | exact HB.out | apply below_alloc | apply pw_below_drewN | apply below_drew1 | refine below_set ?_ GE232.out) | exact HB.out)) hb); clear HO235; clear HO238; clear BK232; clear HB; have HO235 := n0_; have HO238 := n1_; have HO243 := n2_; have BK232 := n3_; have HB := n4_; clear n0_ n1_ n2_ n3_ n4_; (try clear hb); (try clear hb2); (try clear hk); (try clear hi); (try clear ho0)))
  go_loopg [9, 10] k (fun kq v9 v10 w' => ∃ (x9_1 : List (S34)) (x10_1 : Int), v10 = .int .i64 x10_1 ∧ Aside0 (graftwoodlaw19_WhyMore.l0 kq t233 t236 t241 t244 x9_1 x10_1 t239 t240 = some r) ∧ Aside0 (kq ≤ k) ∧ Aside0 (Kd.R k34 34 w' w.heap.size (fun k_ => some k_ ≠ (v237 : Value).ownBlock ∧ some k_ ≠ (v9 : Value).ownBlock) (.slice Ao16 t233.length co16) t233) ∧ Aside0 (Kd.R k34 34 w' w.heap.size (fun k_ => some k_ ≠ ((.slice Ao16 t233.length co16) : Value).ownBlock ∧ some k_ ≠ (v9 : Value).ownBlock) v237 t236) ∧ Aside0 (Kd.R k24 24 w' w.heap.size (fun k_ => k_ ≠ gb232) v242 t241) ∧ Aside0 (Kd.R k34 34 w' w.heap.size (fun k_ => some k_ ≠ ((.slice Ao16 t233.length co16) : Value).ownBlock ∧ some k_ ≠ (v237 : Value).ownBlock) v9 x9_1) ∧ Aside0 (w'.heap[gb232]? = some (.cells #[.string t239, .string t240] 24 (0, 0))) ∧ Aside0 (Below w.heap.size w w'))
  case atStart => exact ⟨(([] : List (S34))), (wrap64 ((t233.length : Int) - 1)), (by first | rfl | (simp; done) | (simp [*]; done)), H', ⟨Nat.le_refl _⟩, ⟨by (with_reducible repeat (first | apply Kd.R_alloc | apply Kd.R_drewN | apply Kd.R_drew)); exact Kd.R_mono HO235.out (fun _ hk => ⟨hk.2, (by simp [Value.ownBlock])⟩)⟩, ⟨by (with_reducible repeat (first | apply Kd.R_alloc | apply Kd.R_drewN | apply Kd.R_drew)); exact Kd.R_mono HO238.out (fun _ hk => ⟨hk.2, (by simp [Value.ownBlock])⟩)⟩, ⟨by (with_reducible repeat (first | apply Kd.R_alloc | apply Kd.R_drewN | apply Kd.R_drew)); exact Kd.R_mono HO243.out (fun _ hk => hk.2)⟩, ⟨by first | exact Kd.R_nil _ _ _ _ _ | exact Kd.N_nil _ _ _ _ _ | exact Kd.V_nil _ _ _ _ _ | exact Kd.Q_nil _ _ _ _ _ | exact Kd.S_nil _ _ _ _ _⟩, ⟨by (with_reducible repeat (first | refine blk_drewN ?_ _ | refine blk_drew ?_ | refine blk_alloc ?_ _)); exact BK232.out⟩, ⟨by repeat (first | (with_reducible first | exact HB.out | apply below_alloc | apply pw_below_drewN | apply below_drew1 | refine below_set ?_ GE232.out) | exact HB.out)⟩⟩
  case round =>
    clear H'
    try clear c1
    try clear p2
    try clear c4
    try clear c6
    try clear p6
    try clear c7
    try clear c8
    try clear hcz15_0
    try clear hcz15_1
    try clear hfz15_0
    try clear hfz15_1
    obtain ⟨x9_1, x10_1, rfl, HA, HK1, HO_0, HO_1, HO_7, HO_9, BK232, HB⟩ := hrel
    cases gk with
    | zero => exact absurd HA.out (by simp [graftwoodlaw19_WhyMore.l0])
    | succ k1 =>
      have H := HA.out
      clear HA
      simp only [graftwoodlaw19_WhyMore.l0] at H
      by_cases c18 : x10_1 ≥ 0
      · rw [if_pos c18] at H
        have c18b0 : decide (0 ≤ x10_1) = true := decide_eq_true c18
        clear c18
        by_cases c19 : 0 ≤ x10_1
        · rw [if_pos c19] at H
          have c19b0 : decide (0 ≤ x10_1) = true := decide_eq_true c19
          clear c19
          by_cases c20 : x10_1 < (t233.length : Int)
          · rw [if_pos c20] at H
            have c20b0 : decide (x10_1 < (t233.length : Int)) = true := decide_eq_true c20
            clear c20
            obtain ⟨y247, hy247⟩ : ∃ y_ : List (S34), y_ = (([(⟨(⟨(rd_T34 t233 x10_1).f0.f0, (rd_T34 t233 x10_1).f0.f1⟩ : S24), (⟨(rd_T34 t233 x10_1).f1.f0, (rd_T34 t233 x10_1).f1.f1⟩ : S24)⟩ : S34), (⟨(⟨(rd_T34 t233 x10_1).f0.f0, (rd_T34 t233 x10_1).f0.f1⟩ : S24), (⟨(rd_T34 t233 x10_1).f1.f0, (rd_T34 t233 x10_1).f1.f1⟩ : S24)⟩ : S34)] : List (S34))) := ⟨_, rfl⟩
            replace H : (if x9_1.length + y247.length < 2199023255552 then (graftwoodlaw19_WhyMore.l0 k1 t233 t236 t241 t244 (x9_1 ++ y247) (wrap64 (x10_1 - 1)) t239 t240) else (none)) = some r := by first | (rw [hy247]; with_reducible exact H) | (have H2_ := (Option.bind_some _ _).symm.trans H; rw [hy247]; with_reducible exact H2_) | (have H2_ := (Option.bind_some _ _).symm.trans H; with_reducible exact H2_) | with_reducible exact H | (rw [hy247]; exact H) | exact H
            have Ny247 := Aside0.mk hy247
            clear hy247
            by_cases c21 : x9_1.length + y247.length < 2199023255552
            · rw [if_pos c21] at H
              have LMc21 := Aside0.mk c21
              clear c21
              obtain ⟨y250, hy250⟩ : ∃ y_ : List (S34), y_ = (x9_1 ++ y247) := ⟨_, rfl⟩
              replace H : (graftwoodlaw19_WhyMore.l0 k1 t233 t236 t241 t244 y250 (wrap64 (x10_1 - 1)) t239 t240) = some r := by first | (rw [hy250]; with_reducible exact H) | (have H2_ := (Option.bind_some _ _).symm.trans H; rw [hy250]; with_reducible exact H2_) | (have H2_ := (Option.bind_some _ _).symm.trans H; with_reducible exact H2_) | with_reducible exact H | (rw [hy250]; exact H) | exact H
              have Ny250 := Aside0.mk hy250
              clear hy250
              have H' := Aside0.mk H
              clear H
              try go_wp2
              have n0_ := Aside0.mk (Kd.R_drew HO_0.out)
              have n1_ := Aside0.mk (Kd.R_drew HO_1.out)
              have n2_ := Aside0.mk (Kd.R_drew HO_7.out)
              have n3_ := Aside0.mk (Kd.R_drew HO_9.out)
              have n4_ := Aside0.mk (blk_drew BK232.out)
              have n5_ := Aside0.mk (below_drew1 HB.out)
              clear HO_0
              clear HO_1
              clear HO_7
              clear HO_9
              clear BK232
              clear HB
              have HO_0 := n0_
              have HO_1 := n1_
              have HO_7 := n2_
              have HO_9 := n3_
              have BK232 := n4_
              have HB := n5_
              clear n0_ n1_ n2_ n3_ n4_ n5_
              have p245 : 0 ≤ (x10_1 : Int) := of_decide_eq_true (by first | (with_reducible assumption) | assumption)
              have q245 : x10_1 < (t233.length : Int) := of_decide_eq_true (by first | (with_reducible assumption) | assumption)
              obtain ⟨ad245, e245, hx245_0, hx245_1, hx245_2, hx245_3⟩ := at_T34 (Kd.R_reads' HO_0.out).2.2 x10_1 p245 q245
              cases e245
              replace p245 := eq_true p245
              replace q245 := eq_true q245
              have p246 : 0 ≤ (x10_1 : Int) := of_decide_eq_true (by first | (with_reducible assumption) | assumption)
              have q246 : x10_1 < (t233.length : Int) := of_decide_eq_true (by first | (with_reducible assumption) | assumption)
              obtain ⟨ad246, e246, hx246_0, hx246_1, hx246_2, hx246_3⟩ := at_T34 (Kd.R_reads' HO_0.out).2.2 x10_1 p246 q246
              obtain rfl : ad245 = ad246 := (by injection e246)
              replace p246 := eq_true p246
              replace q246 := eq_true q246
              refine start_ (n := 12) (S := fun w' => w'.cell? (ad245.add ((x10_1).toNat * 4)) = some (.string ((rd_T34 t233 x10_1).f0.f0)) ∧ w'.cell? ⟨(ad245.add ((x10_1).toNat * 4)).block, (ad245.add ((x10_1).toNat * 4)).off + 1, none⟩ = some (.string ((rd_T34 t233 x10_1).f0.f1)) ∧ w'.cell? ⟨(ad245.add ((x10_1).toNat * 4)).block, (ad245.add ((x10_1).toNat * 4)).off + 2, none⟩ = some (.string ((rd_T34 t233 x10_1).f1.f0)) ∧ w'.cell? ⟨(ad245.add ((x10_1).toNat * 4)).block, (ad245.add ((x10_1).toNat * 4)).off + 3, none⟩ = some (.string ((rd_T34 t233 x10_1).f1.f1)) ∧ w'.cell? (ad245.add ((x10_1).toNat * 4)) = some (.string ((rd_T34 t233 x10_1).f0.f0)) ∧ w'.cell? ⟨(ad245.add ((x10_1).toNat * 4)).block, (ad245.add ((x10_1).toNat * 4)).off + 1, none⟩ = some (.string ((rd_T34 t233 x10_1).f0.f1)) ∧ w'.cell? ⟨(ad245.add ((x10_1).toNat * 4)).block, (ad245.add ((x10_1).toNat * 4)).off + 2, none⟩ = some (.string ((rd_T34 t233 x10_1).f1.f0)) ∧ w'.cell? ⟨(ad245.add ((x10_1).toNat * 4)).block, (ad245.add ((x10_1).toNat * 4)).off + 3, none⟩ = some (.string ((rd_T34 t233 x10_1).f1.f1))) (ds := [10]) #[false, false, false, false, false, false, false, false, false, false, false, false] (by kernel_rfl) rfl rfl ⟨hx245_0, hx245_1, hx245_2, hx245_3, hx246_0, hx246_1, hx246_2, hx246_3⟩ (fun hHeld => ?_); refine with_tabW graftwoodlaw19_WhyMore.tab7 graftwoodlaw19_WhyMore.bits7 (fun HT_ HW_ => ?_)
              generalize wr.drew = w22 at HO_0 HO_1 HO_7 HO_9 BK232 HB hx245_0 hx245_1 hx245_2 hx245_3 hx246_0 hx246_1 hx246_2 hx246_3 hHeld ⊢
              refine pure_ (i := 0) (N := some 34) (v := ?_) (a' := ?_) #[true, false, false, false, false, false, false, false, false, false, false, false] rfl rfl (any_of HT_.out (by kernel_rfl)) (fun _ _ _ h => h) (Or.inl ⟨by rfl, ?_⟩) ?_ ?_
              rotate_left
              · intro w'
                go_simp
                with_reducible rfl
              rotate_left
              · simp only [Act.put, List.setIfInBounds_toArray, List.set_cons_zero, List.set_cons_succ, i64_w, i32_w]
                rfl
              refine pure_ (i := 1) (N := some 35) (v := ?_) (a' := ?_) #[true, true, false, false, false, false, false, false, false, false, false, false] rfl rfl (any_of HT_.out (by kernel_rfl)) (fun _ _ _ h => h) (Or.inl ⟨by rfl, ?_⟩) ?_ ?_
              rotate_left
              · intro w'
                go_simp
                with_reducible rfl
              rotate_left
              · simp only [Act.put, List.setIfInBounds_toArray, List.set_cons_zero, List.set_cons_succ, i64_w, i32_w]
                rfl
              refine pure_ (i := 2) (N := some 36) (v := ?_) (a' := ?_) #[true, true, true, false, false, false, false, false, false, false, false, false] rfl rfl (any_of HT_.out (by kernel_rfl)) (fun _ _ _ h => h) (Or.inl ⟨by rfl, ?_⟩) ?_ ?_
              rotate_left
              · intro w'
                go_simp
                with_reducible rfl
              rotate_left
              · simp only [Act.put, List.setIfInBounds_toArray, List.set_cons_zero, List.set_cons_succ, i64_w, i32_w]
                rfl
              refine pure_ (i := 3) (N := some 37) (v := ?_) (a' := ?_) #[true, true, true, true, false, false, false, false, false, false, false, false] rfl rfl (any_of HT_.out (by kernel_rfl)) (fun _ _ _ h => h) (Or.inl ⟨by rfl, ?_⟩) ?_ ?_
              rotate_left
              · intro w'
                go_simp
                with_reducible rfl
              rotate_left
              · simp only [Act.put, List.setIfInBounds_toArray, List.set_cons_zero, List.set_cons_succ, i64_w, i32_w]
                rfl
              refine pure_ (i := 5) (N := some 39) (v := ?_) (a' := ?_) #[true, true, true, true, false, true, false, false, false, false, false, false] rfl rfl (any_of HT_.out (by kernel_rfl)) (fun _ _ _ h => h) (Or.inl ⟨by rfl, ?_⟩) ?_ ?_
              rotate_left
              · intro w'
                go_simp
                with_reducible rfl
              rotate_left
              · simp only [Act.put, List.setIfInBounds_toArray, List.set_cons_zero, List.set_cons_succ, i64_w, i32_w]
                rfl
              refine pure_ (i := 6) (N := some 40) (v := ?_) (a' := ?_) #[true, true, true, true, false, true, true, false, false, false, false, false] rfl rfl (any_of HT_.out (by kernel_rfl)) (fun _ _ _ h => h) (Or.inl ⟨by rfl, ?_⟩) ?_ ?_
              rotate_left
              · intro w'
                go_simp
                with_reducible rfl
              rotate_left
              · simp only [Act.put, List.setIfInBounds_toArray, List.set_cons_zero, List.set_cons_succ, i64_w, i32_w]
                rfl
              refine pure_ (i := 7) (N := some 41) (v := ?_) (a' := ?_) #[true, true, true, true, false, true, true, true, false, false, false, false] rfl rfl (any_of HT_.out (by kernel_rfl)) (fun _ _ _ h => h) (Or.inl ⟨by rfl, ?_⟩) ?_ ?_
              rotate_left
              · intro w'
                go_simp
                with_reducible rfl
              rotate_left
              · simp only [Act.put, List.setIfInBounds_toArray, List.set_cons_zero, List.set_cons_succ, i64_w, i32_w]
                rfl
              refine take_ (i := 4) (N := some 38) (v := ?_) (a' := ?_) #[true, true, true, true, true, true, true, true, false, false, false, false] rfl rfl (take_ofW HT_.out HW_.out (by kernel_rfl)) (fun _ _ _ h => h) (Or.inl ⟨by rfl, ?_⟩) hHeld ?_ ?_
              rotate_left
              · rintro w' ⟨s0, s1, s2, s3, s4, s5, s6, s7⟩
                go_simp
                with_reducible rfl
              rotate_left
              · simp only [Act.put, List.setIfInBounds_toArray, List.set_cons_zero, List.set_cons_succ, i64_w, i32_w]
                rfl
              refine take_ (i := 8) (N := some 42) (v := ?_) (a' := ?_) #[true, true, true, true, true, true, true, true, true, false, false, false] rfl rfl (take_ofW HT_.out HW_.out (by kernel_rfl)) (fun _ _ _ h => h) (Or.inl ⟨by rfl, ?_⟩) hHeld ?_ ?_
              rotate_left
              · rintro w' ⟨s0, s1, s2, s3, s4, s5, s6, s7⟩
                go_simp
                with_reducible rfl
              rotate_left
              · simp only [Act.put, List.setIfInBounds_toArray, List.set_cons_zero, List.set_cons_succ, i64_w, i32_w]
                rfl
              refine one_ (i := 9) (N := some 43) #[true, true, true, true, true, true, true, true, true, true, false, false] rfl rfl (one_of HT_.out (by kernel_rfl)) (by decide) (fun K hK => ?_)
              refine Kd.R_lit_step k34 _ 34 ?hg (N := 43) ?hd (xs := ([(⟨(⟨(rd_T34 t233 x10_1).f0.f0, (rd_T34 t233 x10_1).f0.f1⟩ : S24), (⟨(rd_T34 t233 x10_1).f1.f0, (rd_T34 t233 x10_1).f1.f1⟩ : S24)⟩ : S34), (⟨(⟨(rd_T34 t233 x10_1).f0.f0, (rd_T34 t233 x10_1).f0.f1⟩ : S24), (⟨(rd_T34 t233 x10_1).f1.f0, (rd_T34 t233 x10_1).f1.f1⟩ : S24)⟩ : S34)] : List (S34))) (inner := [.string ((rd_T34 t233 x10_1).f0.f0), .string ((rd_T34 t233 x10_1).f0.f1), .string ((rd_T34 t233 x10_1).f1.f0), .string ((rd_T34 t233 x10_1).f1.f1), .string ((rd_T34 t233 x10_1).f0.f0), .string ((rd_T34 t233 x10_1).f0.f1), .string ((rd_T34 t233 x10_1).f1.f0), .string ((rd_T34 t233 x10_1).f1.f1)]) (ok := fun _ => True) (okp := fun _ => True) ?hr ?hp (fun _ hk => hk) trivial (Below.refl _ _) (Nat.le_refl _) (by simp) ?_; (case hd => rfl); (case hg => rfl); (case hr => first | (go_simp; done) | (go_simp; rfl)); (case hp => exact (Reps.c4 (show Kd.M k34 _ _ _ (⟨(⟨(rd_T34 t233 x10_1).f0.f0, (rd_T34 t233 x10_1).f0.f1⟩ : S24), (⟨(rd_T34 t233 x10_1).f1.f0, (rd_T34 t233 x10_1).f1.f1⟩ : S24)⟩ : S34) [.string ((rd_T34 t233 x10_1).f0.f0), .string ((rd_T34 t233 x10_1).f0.f1), .string ((rd_T34 t233 x10_1).f1.f0), .string ((rd_T34 t233 x10_1).f1.f1)] from (k34_mkM _ _ _ (⟨(⟨(rd_T34 t233 x10_1).f0.f0, (rd_T34 t233 x10_1).f0.f1⟩ : S24), (⟨(rd_T34 t233 x10_1).f1.f0, (rd_T34 t233 x10_1).f1.f1⟩ : S24)⟩ : S34) )) (Reps.c4 (show Kd.M k34 _ _ _ (⟨(⟨(rd_T34 t233 x10_1).f0.f0, (rd_T34 t233 x10_1).f0.f1⟩ : S24), (⟨(rd_T34 t233 x10_1).f1.f0, (rd_T34 t233 x10_1).f1.f1⟩ : S24)⟩ : S34) [.string ((rd_T34 t233 x10_1).f0.f0), .string ((rd_T34 t233 x10_1).f0.f1), .string ((rd_T34 t233 x10_1).f1.f0), .string ((rd_T34 t233 x10_1).f1.f1)] from (k34_mkM _ _ _ (⟨(⟨(rd_T34 t233 x10_1).f0.f0, (rd_T34 t233 x10_1).f0.f1⟩ : S24), (⟨(rd_T34 t233 x10_1).f1.f0, (rd_T34 t233 x10_1).f1.f1⟩ : S24)⟩ : S34) )) (Reps.none _ _))))
              intro v248 w23 ho24 hb hg_ hnew_
              have HS0_ := (hb.cell (World.block_lt_of_cell? _ _ (hHeld.1))).trans (hHeld.1)
              have HS1_ := (hb.cell (World.block_lt_of_cell? _ _ (hHeld.2.1))).trans (hHeld.2.1)
              have HS2_ := (hb.cell (World.block_lt_of_cell? _ _ (hHeld.2.2.1))).trans (hHeld.2.2.1)
              have HS3_ := (hb.cell (World.block_lt_of_cell? _ _ (hHeld.2.2.2.1))).trans (hHeld.2.2.2.1)
              have HS4_ := (hb.cell (World.block_lt_of_cell? _ _ (hHeld.2.2.2.2.1))).trans (hHeld.2.2.2.2.1)
              have HS5_ := (hb.cell (World.block_lt_of_cell? _ _ (hHeld.2.2.2.2.2.1))).trans (hHeld.2.2.2.2.2.1)
              have HS6_ := (hb.cell (World.block_lt_of_cell? _ _ (hHeld.2.2.2.2.2.2.1))).trans (hHeld.2.2.2.2.2.2.1)
              have HS7_ := (hb.cell (World.block_lt_of_cell? _ _ (hHeld.2.2.2.2.2.2.2))).trans (hHeld.2.2.2.2.2.2.2)
              clear hg_ hnew_
              (first | rw [← Ny247.out] at ho24 | (simp only [Int.reduceToNat] at ho24; rw [← Ny247.out] at ho24))
              have n0_ := Aside0.mk (Kd.R_elder' (by (with_reducible repeat (first | apply Kd.R_alloc | apply Kd.R_drewN | apply Kd.R_drew)); exact HO_0.out) (Kd.R_base ho24) hb)
              have n1_ := Aside0.mk (Kd.R_elder' (by (with_reducible repeat (first | apply Kd.R_alloc | apply Kd.R_drewN | apply Kd.R_drew)); exact HO_1.out) (Kd.R_base ho24) hb)
              have n2_ := Aside0.mk (Kd.R_below (by (with_reducible repeat (first | apply Kd.R_alloc | apply Kd.R_drewN | apply Kd.R_drew)); exact HO_7.out) hb)
              have n3_ := Aside0.mk (Kd.R_elder' (by (with_reducible repeat (first | apply Kd.R_alloc | apply Kd.R_drewN | apply Kd.R_drew)); exact HO_9.out) (Kd.R_base ho24) hb)
              have n4_ := Aside0.mk (Kd.R_lower (Kd.R_new' (Kd.R_new' (Kd.R_new' ho24 (Kd.R_lt (by (with_reducible repeat (first | apply Kd.R_alloc | apply Kd.R_drewN | apply Kd.R_drew)); exact HO_0.out))) (Kd.R_lt (by (with_reducible repeat (first | apply Kd.R_alloc | apply Kd.R_drewN | apply Kd.R_drew)); exact HO_1.out))) (Kd.R_lt (by (with_reducible repeat (first | apply Kd.R_alloc | apply Kd.R_drewN | apply Kd.R_drew)); exact HO_9.out))) (below_size (by repeat (first | (with_reducible first | exact HB.out | apply below_alloc | apply pw_below_drewN | apply below_drew1 | refine below_set ?_ GE232.out) | exact HB.out))))
              have n5_ := Aside0.mk (blk_below (g := gb232) (o := .cells #[.string t239, .string t240] 24 (0, 0)) (by (with_reducible repeat (first | refine blk_drewN ?_ _ | refine blk_drew ?_ | refine blk_alloc ?_ _)); exact BK232.out) hb)
              have n6_ := Aside0.mk (below_step (by repeat (first | (with_reducible first | exact HB.out | apply below_alloc | apply pw_below_drewN | apply below_drew1 | refine below_set ?_ GE232.out) | exact HB.out)) hb)
              clear HO_0
              clear HO_1
              clear HO_7
              clear HO_9
              clear BK232
              clear HB
              have HO_0 := n0_
              have HO_1 := n1_
              have HO_7 := n2_
              have HO_9 := n3_
              have HO249 := n4_
              have BK232 := n5_
              have HB := n6_
              clear n0_ n1_ n2_ n3_ n4_ n5_ n6_
              clear hb ho24
              obtain ⟨Ao26, co26, eo26⟩ := Kd.R_slice HO249.out
              (first | subst eo26 | (injection eo26 with f1_ f2_ f3_; have f4_ := f1_.symm; have f5_ := f3_.symm; clear f1_ f2_ f3_; subst f4_; subst f5_))
              refine hK.out _ _ ⟨HS0_, HS1_, HS2_, HS3_, HS4_, HS5_, HS6_, HS7_⟩ (fun hHeld => ?_)
              clear hK K
              refine norm_ (a' := ?_) ?_ ?_
              rotate_left
              · show Act.put _ (some 43) _ = _
                simp only [Act.put, List.setIfInBounds_toArray, List.set_cons_zero, List.set_cons_succ, i64_w, i32_w]
                rfl
              refine last_ (i := 10) (N := some 44) #[true, true, true, true, true, true, true, true, true, true, true, false] rfl rfl (one_of HT_.out (by kernel_rfl)) (by decide) (fun K hK => ?_)
              refine Kd.R_append_rows_step k34 (w0 := w) w.heap.size (by rfl) (.tmp 34) (.tmp 43) 22 34 (.agg #[(.string ⟨#[]⟩), (.string ⟨#[]⟩), (.string ⟨#[]⟩), (.string ⟨#[]⟩)]) 64 rfl Tryd.underlying22 info34 rfl (by decide) (by omega) u9 x9_1 y247 _ _ _ (fun k_ => some k_ ≠ (.slice (some ad245) t233.length co16 : Value).ownBlock ∧ some k_ ≠ (v237 : Value).ownBlock ∧ some k_ ≠ (.slice Ao26 y247.length co26 : Value).ownBlock) (fun _ => False) rfl rfl ?aO ?aR (fun _ _ h => h) (fun _ h => h.elim) ?aF ?aB ?aS ?aL ?_
              (case aR => repeat (first | exact (Kd.R_reads' HO249.out).2.2 | (with_reducible refine Kd.C_alloc ?_ _) | (with_reducible refine Kd.C_drewN ?_ _) | (with_reducible refine Kd.C_drew ?_)))
              (case aB => exact (by repeat (first | (with_reducible first | exact HB.out | apply below_alloc | apply pw_below_drewN | apply below_drew1 | refine below_set ?_ GE232.out) | exact HB.out)))
              (case aF => exact (fun k_ hk => ⟨Kd.fresh' (Kd.R_lt (by (with_reducible repeat (first | apply Kd.R_alloc | apply Kd.R_drewN | apply Kd.R_drew)); exact HO_0.out)) k_ hk, Kd.fresh' (Kd.R_lt (by (with_reducible repeat (first | apply Kd.R_alloc | apply Kd.R_drewN | apply Kd.R_drew)); exact HO_1.out)) k_ hk, Kd.fresh' (Kd.R_lt (by (with_reducible repeat (first | apply Kd.R_alloc | apply Kd.R_drewN | apply Kd.R_drew)); exact HO249.out)) k_ hk⟩))
              (case aO => exact (by (with_reducible repeat (first | apply Kd.R_alloc | apply Kd.R_drewN | apply Kd.R_drew)); exact Kd.R_mono HO_9.out (fun _ hk => ⟨hk.1.1, ⟨hk.1.2, hk.2⟩⟩)))
              (case aS => exact (below_size (by repeat (first | (with_reducible first | exact HB.out | apply below_alloc | apply pw_below_drewN | apply below_drew1 | refine below_set ?_ GE232.out) | exact HB.out))))
              (case aL => have := LMc21.out; omega)
              intro v251 w25 ho hb hg hat
              rw [← Ny250.out] at ho
              have n0_ := Aside0.mk (Kd.R_after (ok := (fun k_ => some k_ ≠ (v237 : Value).ownBlock ∧ some k_ ≠ (.slice Ao26 y247.length co26 : Value).ownBlock)) (by (with_reducible repeat (first | apply Kd.R_alloc | apply Kd.R_drewN | apply Kd.R_drew)); exact Kd.R_mono HO_0.out (fun _ hk => ⟨⟨hk.1.1, hk.2⟩, hk.1.2⟩)) hg hat)
              have n1_ := Aside0.mk (Kd.R_after (ok := (fun k_ => some k_ ≠ (.slice (some ad245) t233.length co16 : Value).ownBlock ∧ some k_ ≠ (.slice Ao26 y247.length co26 : Value).ownBlock)) (by (with_reducible repeat (first | apply Kd.R_alloc | apply Kd.R_drewN | apply Kd.R_drew)); exact Kd.R_mono HO_1.out (fun _ hk => ⟨⟨hk.1.1, hk.2⟩, hk.1.2⟩)) hg hat)
              have n2_ := Aside0.mk (Kd.R_over' (by (with_reducible repeat (first | apply Kd.R_alloc | apply Kd.R_drewN | apply Kd.R_drew)); exact HO_7.out) (Kd.R_typed (by (with_reducible repeat (first | apply Kd.R_alloc | apply Kd.R_drewN | apply Kd.R_drew)); exact HO_9.out)) (by decide) hg)
              have n3_ := Aside0.mk (blk_grown (g := gb232) (o := .cells #[.string t239, .string t240] 24 (0, 0)) (by (with_reducible repeat (first | refine blk_drewN ?_ _ | refine blk_drew ?_ | refine blk_alloc ?_ _)); exact BK232.out) hg (Kd.R_ne HO_9.out BK232.out (by decide)))
              have n4_ := Aside0.mk (Kd.R_after (ok := (fun k_ => some k_ ≠ (.slice (some ad245) t233.length co16 : Value).ownBlock ∧ some k_ ≠ (v237 : Value).ownBlock)) (by (with_reducible repeat (first | apply Kd.R_alloc | apply Kd.R_drewN | apply Kd.R_drew)); exact Kd.R_mono HO249.out (fun _ hk => ⟨⟨hk.1.1.2, hk.1.2⟩, hk.2⟩)) hg hat)
              have n5_ := Aside0.mk (hb)
              have n6_ := Aside0.mk (ho)
              clear HO_0
              clear HO_1
              clear HO_7
              clear BK232
              clear HO249
              clear HB
              clear HO_9
              have HO_0 := n0_
              have HO_1 := n1_
              have HO_7 := n2_
              have BK232 := n3_
              have HO249 := n4_
              have HB := n5_
              have HO252 := n6_
              clear n0_ n1_ n2_ n3_ n4_ n5_ n6_
              clear ho hb hg hat
              refine hK.out _ _ ?_
              clear hK K
              refine norm_ (a' := ?_) ?_ ?_
              rotate_left
              · show Act.put _ (some 44) _ = _
                simp only [Act.put, List.setIfInBounds_toArray, List.set_cons_zero, List.set_cons_succ, i64_w, i32_w]
                rfl
              refine pure_ (i := 11) (N := some 9) (v := ?_) (a' := ?_) #[true, true, true, true, true, true, true, true, true, true, true, true] rfl rfl (any_of HT_.out (by kernel_rfl)) (fun _ _ _ h => h) (Or.inl ⟨by rfl, ?_⟩) ?_ ?_
              rotate_left
              · intro w'
                go_simp
                with_reducible rfl
              rotate_left
              · simp only [Act.put, List.setIfInBounds_toArray, List.set_cons_zero, List.set_cons_succ, i64_w, i32_w]
                rfl
              refine done_ (done_of HT_.out (by kernel_rfl)) ?_
              try go_wp2
              go_roundg k1
              case measure => have := HK1.out; omega
              case rel => exact ⟨(y250), (wrap64 (x10_1 - 1)), (by first | rfl | (simp; done) | (simp [*]; done)), H', ⟨by have := HK1.out; omega⟩, ⟨by (with_reducible repeat (first | apply Kd.R_alloc | apply Kd.R_drewN | apply Kd.R_drew)); exact Kd.R_mono HO_0.out (fun _ hk => ⟨hk.1.1, hk.2⟩)⟩, ⟨by (with_reducible repeat (first | apply Kd.R_alloc | apply Kd.R_drewN | apply Kd.R_drew)); exact Kd.R_mono HO_1.out (fun _ hk => ⟨hk.1.1, hk.2⟩)⟩, ⟨by (with_reducible repeat (first | apply Kd.R_alloc | apply Kd.R_drewN | apply Kd.R_drew)); exact HO_7.out⟩, ⟨by (with_reducible repeat (first | apply Kd.R_alloc | apply Kd.R_drewN | apply Kd.R_drew)); exact Kd.R_mono HO252.out (fun _ hk => ⟨hk.1, hk.2.1⟩)⟩, ⟨by (with_reducible repeat (first | refine blk_drewN ?_ _ | refine blk_drew ?_ | refine blk_alloc ?_ _)); exact BK232.out⟩, ⟨by repeat (first | (with_reducible first | exact HB.out | apply below_alloc | apply pw_below_drewN | apply below_drew1 | refine below_set ?_ GE232.out) | exact HB.out)⟩⟩
            · rw [if_neg c21] at H
              exact absurd H (by simp)
          · rw [if_neg c20] at H
            exact absurd H (by simp)
        · rw [if_neg c19] at H
          exact absurd H (by simp)
      · rw [if_neg c18] at H
        have c18b0 : decide (0 ≤ x10_1) = false := decide_eq_false c18
        clear c18
        replace H := Option.bind_eq_some_iff.mp H
        obtain ⟨⟨t253, t256⟩, A270, H⟩ := H
        replace H : (if t244 = t256 then ((graftwoodref05_Same.f k1 t253 t241).bind fun t257 => (graftwoodlaw19_WhyMore.j1 k1 t236 t241 t244 x9_1 (!t257) t239 t240)) else (graftwoodlaw19_WhyMore.j1 k1 t236 t241 t244 x9_1 true t239 t240)) = some r := H
        have A27 := Aside0.mk A270
        clear A270
        have HC28 := Aside0.mk H
        clear H
        have hcz29_0 : wr.cell? ⟨gb232, 0, none⟩ = some (.string t239) := (blk_cell BK232.out 0).trans rfl
        have hcz29_1 : wr.cell? ⟨gb232, 1, none⟩ = some (.string t240) := (blk_cell BK232.out 1).trans rfl
        have hfz29_0 := blk_frozen BK232.out 0
        have hfz29_1 := blk_frozen BK232.out 1
        obtain ⟨Ao30, co30, eo30⟩ := Kd.R_slice HO_9.out
        subst eo30
        go_upto_region 9 with (first | ((with_reducible refine gate_callee (f := 8) rfl ?_); refine goesL_ (some 48) rfl rfl Tryd.func8 (by kernel_rfl) rfl #[.slice Ao30 x9_1.length co30, .agg #[.string t239, .string t240]] rfl (by (try simp only [List.map_toArray, List.map_cons, List.map_nil]); first | done | rfl | (simp only [List.length_drop, List.length_take]; rfl)) ?_; (with_reducible refine (why_Chain.calls _ _ x9_1 t239 t240 t253 t256 _ ?side1 ?side2 A27.out).mono ?_); (case side1 => repeat (first | exact (Kd.R_reads' HO_9.out).2.2 | (with_reducible refine Kd.C_alloc ?_ _) | (with_reducible refine Kd.C_drewN ?_ _) | (with_reducible refine Kd.C_drew ?_))); (case side2 => exact (Kd.R_reads' HO_9.out).2.1); rintro e w31 ⟨v254, rfl, ho0, hb⟩; refine ⟨_, rfl, ?_⟩; have n0_ := Aside0.mk (Kd.R_below (by (with_reducible repeat (first | apply Kd.R_alloc | apply Kd.R_drewN | apply Kd.R_drew)); exact HO_0.out) hb); have n1_ := Aside0.mk (Kd.R_below (by (with_reducible repeat (first | apply Kd.R_alloc | apply Kd.R_drewN | apply Kd.R_drew)); exact HO_1.out) hb); have n2_ := Aside0.mk (Kd.R_elder' (by (with_reducible repeat (first | apply Kd.R_alloc | apply Kd.R_drewN | apply Kd.R_drew)); exact HO_7.out) (Kd.R_base ho0) hb); have n3_ := Aside0.mk (Kd.R_below (by (with_reducible repeat (first | apply Kd.R_alloc | apply Kd.R_drewN | apply Kd.R_drew)); exact HO_9.out) hb); have n4_ := Aside0.mk (Kd.R_lower (Kd.R_newB (Kd.R_new' ho0 (Kd.R_lt (by (with_reducible repeat (first | apply Kd.R_alloc | apply Kd.R_drewN | apply Kd.R_drew)); exact HO_7.out))) (g := gb232) (o := .cells #[.string t239, .string t240] 24 (0, 0)) (by (with_reducible repeat (first | refine blk_drewN ?_ _ | refine blk_drew ?_ | refine blk_alloc ?_ _)); exact BK232.out)) (below_size (by repeat (first | (with_reducible first | exact HB.out | apply below_alloc | apply pw_below_drewN | apply below_drew1 | refine below_set ?_ GE232.out) | exact HB.out)))); have n5_ := Aside0.mk (blk_below (g := gb232) (o := .cells #[.string t239, .string t240] 24 (0, 0)) (by (with_reducible repeat (first | refine blk_drewN ?_ _ | refine blk_drew ?_ | refine blk_alloc ?_ _)); exact BK232.out) hb); have n6_ := Aside0.mk (below_step (by repeat (first | (with_reducible first | exact HB.out | apply below_alloc | apply pw_below_drewN | apply below_drew1 | refine below_set ?_ GE232.out) | exact HB.out)) hb); clear HO_0; clear HO_1; clear HO_7; clear HO_9; clear BK232; clear HB; have HO_0 := n0_; have HO_1 := n1_; have HO_7 := n2_; have HO_9 := n3_; have HO255 := n4_; have BK232 := n5_; have HB := n6_; clear n0_ n1_ n2_ n3_ n4_ n5_ n6_; (try clear hb); (try clear hb2); (try clear hk); (try clear hi); (try clear ho0)))
        (try simp only [Act.put, List.setIfInBounds_toArray, List.set_cons_zero, List.set_cons_succ])
        go_cut [59] (fun v59 wc => ∃ (kq : Nat) (x59_27 : Bool), v59 = .bool x59_27 ∧ Aside0 (graftwoodlaw19_WhyMore.j1 kq t236 t241 t244 x9_1 x59_27 t239 t240 = some r) ∧ Aside0 (kq ≤ k1) ∧ Aside0 (Kd.R k34 34 wc w.heap.size (fun k_ => some k_ ≠ ((.slice Ao30 x9_1.length co30) : Value).ownBlock) v237 t236) ∧ Aside0 (Kd.R k24 24 wc w.heap.size (fun k_ => k_ ≠ gb232) v242 t241) ∧ Aside0 (Kd.R k34 34 wc w.heap.size (fun k_ => some k_ ≠ (v237 : Value).ownBlock) (.slice Ao30 x9_1.length co30) x9_1) ∧ Aside0 (wc.heap[gb232]? = some (.cells #[.string t239, .string t240] 24 (0, 0))) ∧ Aside0 (Below w.heap.size w wc))
        case first =>
          have H := HC28.out
          clear HC28
          by_cases c32 : t244 = t256
          · rw [if_pos c32] at H
            have c32b0 : (t244 == t256) = true := beq_iff_eq.mpr c32
            have c32b1 : (t244 != t256) = false := bne_eq_false_iff_eq.mpr c32
            clear c32
            (first | rw [c32b0] | (simp only [i64_w, i32_w]; rw [c32b0]) | skip)
            replace H := Option.bind_eq_some_iff.mp H
            obtain ⟨t257, A330, H⟩ := H
            replace H : (graftwoodlaw19_WhyMore.j1 k1 t236 t241 t244 x9_1 (!t257) t239 t240) = some r := H
            have A33 := Aside0.mk A330
            clear A330
            have H' := Aside0.mk H
            clear H
            obtain ⟨Ao34, co34, eo34⟩ := Kd.R_slice HO255.out
            subst eo34
            obtain ⟨Ao35, co35, eo35⟩ := Kd.R_slice HO_7.out
            subst eo35
            go_wp2_with (first | (go_at_call 11; (with_reducible refine (graftwoodref05_Same.calls k1 _ _ t253 _ _ t241 t257 _ ?side1 ?side2 ?side3 ?side4 A33.out).mono ?_); (case side1 => repeat (first | exact (Kd.R_reads' HO255.out).2.2 | (with_reducible refine Kd.C_alloc ?_ _) | (with_reducible refine Kd.C_drewN ?_ _) | (with_reducible refine Kd.C_drew ?_))); (case side2 => exact (Kd.R_reads' HO255.out).2.1); (case side3 => repeat (first | exact (Kd.R_reads' HO_7.out).2.2 | (with_reducible refine Kd.C_alloc ?_ _) | (with_reducible refine Kd.C_drewN ?_ _) | (with_reducible refine Kd.C_drew ?_))); (case side4 => exact (Kd.R_reads' HO_7.out).2.1); rintro e w' ⟨rfl, ⟨nd, rfl⟩⟩))
            go_meet
            case rel => exact ⟨_, (!t257), (by first | rfl | (simp; done) | (simp [*]; done)), H', ⟨by have := HK1.out; first | omega | exact Nat.le_refl _⟩, ⟨by (with_reducible repeat (first | apply Kd.R_alloc | apply Kd.R_drewN | apply Kd.R_drew)); exact Kd.R_mono HO_1.out (fun _ hk => hk.2)⟩, ⟨by (with_reducible repeat (first | apply Kd.R_alloc | apply Kd.R_drewN | apply Kd.R_drew)); exact Kd.R_mono HO_7.out (fun _ hk => hk.1)⟩, ⟨by (with_reducible repeat (first | apply Kd.R_alloc | apply Kd.R_drewN | apply Kd.R_drew)); exact Kd.R_mono HO_9.out (fun _ hk => hk.2)⟩, ⟨by (with_reducible repeat (first | refine blk_drewN ?_ _ | refine blk_drew ?_ | refine blk_alloc ?_ _)); exact BK232.out⟩, ⟨by repeat (first | (with_reducible first | exact HB.out | apply below_alloc | apply pw_below_drewN | apply below_drew1 | refine below_set ?_ GE232.out) | exact HB.out)⟩⟩
          · rw [if_neg c32] at H
            have c32b0 : (t244 == t256) = false := beq_eq_false_iff_ne.mpr c32
            have c32b1 : (t244 != t256) = true := bne_iff_ne.mpr c32
            (first | rw [c32b0] | (simp only [i64_w, i32_w]; rw [c32b0]) | skip)
            have H' := Aside0.mk H
            clear H
            go_wp2
            go_meet
            case rel => exact ⟨_, (true), (by first | rfl | (simp; done) | (simp [*]; done)), H', ⟨by have := HK1.out; first | omega | exact Nat.le_refl _⟩, ⟨by (with_reducible repeat (first | apply Kd.R_alloc | apply Kd.R_drewN | apply Kd.R_drew)); exact Kd.R_mono HO_1.out (fun _ hk => hk.2)⟩, ⟨by (with_reducible repeat (first | apply Kd.R_alloc | apply Kd.R_drewN | apply Kd.R_drew)); exact Kd.R_mono HO_7.out (fun _ hk => hk.1)⟩, ⟨by (with_reducible repeat (first | apply Kd.R_alloc | apply Kd.R_drewN | apply Kd.R_drew)); exact Kd.R_mono HO_9.out (fun _ hk => hk.2)⟩, ⟨by (with_reducible repeat (first | refine blk_drewN ?_ _ | refine blk_drew ?_ | refine blk_alloc ?_ _)); exact BK232.out⟩, ⟨by repeat (first | (with_reducible first | exact HB.out | apply below_alloc | apply pw_below_drewN | apply below_drew1 | refine below_set ?_ GE232.out) | exact HB.out)⟩⟩
        case rest =>
          clear HC28
          try clear c1
          try clear c2
          try clear p2
          try clear q2
          try clear hx2
          try clear c3
          try clear c4
          try clear c6
          try clear p6
          try clear c7
          try clear c8
          try clear c18
          try clear c18b0
          try clear c19
          try clear c19b0
          try clear c20
          try clear c20b0
          try clear c21
          try clear p24
          try clear q24
          try clear hx24
          try clear c32
          try clear c32b0
          try clear c32b1
          try clear hcz15_0
          try clear hcz15_1
          try clear hcz29_0
          try clear hcz29_1
          try clear hfz15_0
          try clear hfz15_1
          try clear hfz29_0
          try clear hfz29_1
          try clear hx245_0
          try clear hx245_1
          try clear hx245_2
          try clear hx245_3
          try clear hx246_0
          try clear hx246_1
          try clear hx246_2
          try clear hx246_3
          try clear p2
          try clear p245
          try clear p246
          try clear p6
          try clear q245
          try clear q246
          obtain ⟨kq, x59_27, rfl, HA, HJ27, HO_1, HO_7, HO_9, BK232, HB⟩ := hcut
          cases kq with
          | zero => exact absurd HA.out (by simp [graftwoodlaw19_WhyMore.j1])
          | succ kj27 =>
            have H := HA.out
            clear HA
            simp only [graftwoodlaw19_WhyMore.j1] at H
            by_cases c36 : x59_27 = true
            · subst c36
              have H1 : (some false) = some r := by rw [if_pos rfl] at H; exact H
              clear H
              have H := H1
              clear H1
              exact absurd ((Option.some.inj H).trans HR_.out) (by decide)
            · replace c36 := Bool.eq_false_iff.mpr c36
              subst c36
              have H1 : (if x9_1.length + t236.length < 2199023255552 then ((why_Chain.f (x9_1 ++ t236) t239 t240).bind fun bt258 => (if t244 = 0 then (graftwoodlaw19_WhyMore.j2 kj27 t236 t241 x9_1 bt258.1 bt258.2 (bt258.2 == 1) t239 t240) else (graftwoodlaw19_WhyMore.j2 kj27 t236 t241 x9_1 bt258.1 bt258.2 true t239 t240))) else (none)) = some r := by rw [if_neg (show ¬ (false = true) by decide)] at H; exact H
              clear H
              have H := H1
              clear H1
              by_cases cLM : x9_1.length + t236.length < 2199023255552
              rotate_left
              · rw [if_neg cLM] at H
                exact absurd H (by simp)
              rw [if_pos cLM] at H
              have LMapp := Aside0.mk cLM
              clear cLM
              obtain ⟨yApp, hyApp⟩ : ∃ y_ : List (S34), y_ = (x9_1 ++ t236) := ⟨_, rfl⟩
              rw [← hyApp] at H
              have NyApp := Aside0.mk hyApp
              clear hyApp
              replace H := Option.bind_eq_some_iff.mp H
              obtain ⟨⟨t258, t261⟩, A370, H⟩ := H
              replace H : (if t244 = 0 then (graftwoodlaw19_WhyMore.j2 kj27 t236 t241 x9_1 t258 t261 (t261 == 1) t239 t240) else (graftwoodlaw19_WhyMore.j2 kj27 t236 t241 x9_1 t258 t261 true t239 t240)) = some r := H
              have A37 := Aside0.mk A370
              clear A370
              have HC38 := Aside0.mk H
              clear H
              try go_wp2
              have n0_ := Aside0.mk (Kd.R_drew HO_1.out)
              have n1_ := Aside0.mk (Kd.R_drew HO_7.out)
              have n2_ := Aside0.mk (Kd.R_drew HO_9.out)
              have n3_ := Aside0.mk (blk_drew BK232.out)
              have n4_ := Aside0.mk (below_drew1 HB.out)
              clear HO_1
              clear HO_7
              clear HO_9
              clear BK232
              clear HB
              have HO_1 := n0_
              have HO_7 := n1_
              have HO_9 := n2_
              have BK232 := n3_
              have HB := n4_
              clear n0_ n1_ n2_ n3_ n4_
              refine start_ (n := 10) (S := fun w' => w'.cell? ⟨gb232, 0, none⟩ = some (.string t239) ∧ w'.cell? ⟨gb232, 1, none⟩ = some (.string t240)) (ds := []) #[false, false, false, false, false, false, false, false, false, false] (by kernel_rfl) rfl rfl ⟨(blk_cell BK232.out 0).trans rfl, (blk_cell BK232.out 1).trans rfl⟩ (fun hHeld => ?_); refine with_tabW graftwoodlaw19_WhyMore.tab11 graftwoodlaw19_WhyMore.bits11 (fun HT_ HW_ => ?_)
              generalize wc.drew = w39 at HO_1 HO_7 HO_9 BK232 HB hHeld ⊢
              refine pure_ (i := 0) (N := some 61) (v := ?_) (a' := ?_) #[true, false, false, false, false, false, false, false, false, false] rfl rfl (any_of HT_.out (by kernel_rfl)) (fun _ _ _ h => h) (Or.inl ⟨by rfl, ?_⟩) ?_ ?_
              rotate_left
              · intro w'
                go_simp
                with_reducible rfl
              rotate_left
              · simp only [Act.put, List.setIfInBounds_toArray, List.set_cons_zero, List.set_cons_succ, i64_w, i32_w]
                rfl
              refine pure_ (i := 1) (N := some 62) (v := ?_) (a' := ?_) #[true, true, false, false, false, false, false, false, false, false] rfl rfl (any_of HT_.out (by kernel_rfl)) (fun _ _ _ h => h) (Or.inl ⟨by rfl, ?_⟩) ?_ ?_
              rotate_left
              · intro w'
                go_simp
                with_reducible rfl
              rotate_left
              · simp only [Act.put, List.setIfInBounds_toArray, List.set_cons_zero, List.set_cons_succ, i64_w, i32_w]
                rfl
              refine take_ (i := 3) (N := some 64) (v := ?_) (a' := ?_) #[true, true, false, true, false, false, false, false, false, false] rfl rfl (take_ofW HT_.out HW_.out (by kernel_rfl)) (fun _ _ _ h => h) (Or.inl ⟨by rfl, ?_⟩) hHeld ?_ ?_
              rotate_left
              · rintro w' ⟨s0, s1⟩
                go_simp
                with_reducible rfl
              rotate_left
              · simp only [Act.put, List.setIfInBounds_toArray, List.set_cons_zero, List.set_cons_succ, i64_w, i32_w]
                rfl
              obtain ⟨AoA, coA, eoA⟩ := Kd.R_slice HO_1.out
              refine one_ (i := 2) (N := some 63) #[true, true, true, true, false, false, false, false, false, false] rfl rfl (one_of HT_.out (by kernel_rfl)) (by decide) (fun K hK => ?_)
              refine append_keeps_step k34 (w0 := w) w.heap.size (by rfl) (.tmp 61) (.tmp 62) 22 34 (.agg #[(.string ⟨#[]⟩), (.string ⟨#[]⟩), (.string ⟨#[]⟩), (.string ⟨#[]⟩)]) 64 rfl Tryd.underlying22 info34 rfl (by decide) (by omega) (.slice Ao30 x9_1.length co30) x9_1 t236 AoA t236.length coA (fun k_ => some k_ ≠ (v237 : Value).ownBlock) (fun _ => False) rfl eoA ?aO ?aR (fun _ _ h => h) (fun _ h => h.elim) ?aF ?aB ?aS ?aL ?_
              (case aR => have hrA := HO_1.out; rw [eoA] at hrA; repeat (first | exact (Kd.R_reads' hrA).2.2 | (with_reducible refine Kd.C_alloc ?_ _) | (with_reducible refine Kd.C_drewN ?_ _) | (with_reducible refine Kd.C_drew ?_)))
              (case aB => exact (by repeat (first | (with_reducible first | exact HB.out | apply below_alloc | apply pw_below_drewN | apply below_drew1 | refine below_set ?_ GE232.out) | exact HB.out)))
              (case aF => exact (fun k_ hk => Kd.fresh' (Kd.R_lt (by (with_reducible repeat (first | apply Kd.R_alloc | apply Kd.R_drewN | apply Kd.R_drew)); exact HO_1.out)) k_ hk))
              (case aO => exact (by (with_reducible repeat (first | apply Kd.R_alloc | apply Kd.R_drewN | apply Kd.R_drew)); exact HO_9.out))
              (case aS => exact (below_size (by repeat (first | (with_reducible first | exact HB.out | apply below_alloc | apply pw_below_drewN | apply below_drew1 | refine below_set ?_ GE232.out) | exact HB.out))))
              (case aL => have := LMapp.out; omega)
              intro vApp wApp ho hb hg hat hkeep
              rw [← NyApp.out] at ho
              have n0_ := Aside0.mk (Kd.R_mono (Kd.R_after (ok := (fun k_ => some k_ ≠ (.slice Ao30 x9_1.length co30 : Value).ownBlock)) (by (with_reducible repeat (first | apply Kd.R_alloc | apply Kd.R_drewN | apply Kd.R_drew)); exact Kd.R_mono HO_1.out (fun _ hk => ⟨hk, hk⟩)) hg hat) (fun _ hk => hk.1))
              have n1_ := Aside0.mk (Kd.R_over' (by (with_reducible repeat (first | apply Kd.R_alloc | apply Kd.R_drewN | apply Kd.R_drew)); exact HO_7.out) (Kd.R_typed (by (with_reducible repeat (first | apply Kd.R_alloc | apply Kd.R_drewN | apply Kd.R_drew)); exact HO_9.out)) (by decide) hg)
              have n2_ := Aside0.mk (blk_grown (g := gb232) (o := .cells #[.string t239, .string t240] 24 (0, 0)) (by (with_reducible repeat (first | refine blk_drewN ?_ _ | refine blk_drew ?_ | refine blk_alloc ?_ _)); exact BK232.out) hg (Kd.R_ne HO_9.out BK232.out (by decide)))
              have n3_ := Aside0.mk (hb)
              have n4_ := Aside0.mk (ho)
              have n5_ := Aside0.mk (hkeep)
              clear HO_1
              clear HO_7
              clear BK232
              clear HB
              clear HO_9
              have HO_1 := n0_
              have HO_7 := n1_
              have BK232 := n2_
              have HB := n3_
              have HOapp := n4_
              have HO_9 := n5_
              clear n0_ n1_ n2_ n3_ n4_ n5_
              clear ho hb hg hat hkeep eoA
              obtain ⟨AoB, coB, eoB⟩ := Kd.R_slice HOapp.out
              subst eoB
              refine hK.out _ _ ⟨(blk_cell BK232.out 0).trans rfl, (blk_cell BK232.out 1).trans rfl⟩ (fun hHeld => ?_)
              clear hK K
              refine norm_ (a' := ?_) ?_ ?_
              rotate_left
              · show Act.put _ (some 63) _ = _
                simp only [Act.put, List.setIfInBounds_toArray, List.set_cons_zero, List.set_cons_succ, i64_w, i32_w]
                rfl
              refine one_ (i := 4) (N := some 65) #[true, true, true, true, true, false, false, false, false, false] rfl rfl (one_of HT_.out (by kernel_rfl)) (by decide) (fun K hK => ?_)
              refine goes_ Tryd.func8 (by kernel_rfl) rfl #[.slice AoB yApp.length coB, .agg #[.string t239, .string t240]] (by rfl) rfl rfl (by (try simp only [List.map_toArray, List.map_cons, List.map_nil]); first | done | rfl | (simp only [List.length_drop, List.length_take]; rfl)) ?_
              with_reducible refine (why_Chain.calls _ _ yApp t239 t240 t258 t261 _ ?side1 ?side2 A37.out).mono ?_
              (case side1 => repeat (first | exact (Kd.R_reads' HOapp.out).2.2 | (with_reducible refine Kd.C_alloc ?_ _) | (with_reducible refine Kd.C_drewN ?_ _) | (with_reducible refine Kd.C_drew ?_)))
              (case side2 => exact (Kd.R_reads' HOapp.out).2.1)
              rintro e w40 ⟨v259, rfl, ho0, hb⟩
              refine ⟨_, rfl, ?_⟩
              have n0_ := Aside0.mk (Kd.R_below (by (with_reducible repeat (first | apply Kd.R_alloc | apply Kd.R_drewN | apply Kd.R_drew)); exact HO_1.out) hb)
              have n1_ := Aside0.mk (Kd.R_elder' (by (with_reducible repeat (first | apply Kd.R_alloc | apply Kd.R_drewN | apply Kd.R_drew)); exact HO_7.out) (Kd.R_base ho0) hb)
              have n2_ := Aside0.mk (Kd.R_below (by (with_reducible repeat (first | apply Kd.R_alloc | apply Kd.R_drewN | apply Kd.R_drew)); exact HO_9.out) hb)
              have n3_ := Aside0.mk (Kd.R_lower (Kd.R_newB (Kd.R_new' ho0 (Kd.R_lt (by (with_reducible repeat (first | apply Kd.R_alloc | apply Kd.R_drewN | apply Kd.R_drew)); exact HO_7.out))) (g := gb232) (o := .cells #[.string t239, .string t240] 24 (0, 0)) (by (with_reducible repeat (first | refine blk_drewN ?_ _ | refine blk_drew ?_ | refine blk_alloc ?_ _)); exact BK232.out)) (below_size (by repeat (first | (with_reducible first | exact HB.out | apply below_alloc | apply pw_below_drewN | apply below_drew1 | refine below_set ?_ GE232.out) | exact HB.out))))
              have n4_ := Aside0.mk (blk_below (g := gb232) (o := .cells #[.string t239, .string t240] 24 (0, 0)) (by (with_reducible repeat (first | refine blk_drewN ?_ _ | refine blk_drew ?_ | refine blk_alloc ?_ _)); exact BK232.out) hb)
              have n5_ := Aside0.mk (below_step (by repeat (first | (with_reducible first | exact HB.out | apply below_alloc | apply pw_below_drewN | apply below_drew1 | refine below_set ?_ GE232.out) | exact HB.out)) hb)
              clear HOapp
              clear HO_1
              clear HO_7
              clear HO_9
              clear BK232
              clear HB
              have HO_1 := n0_
              have HO_7 := n1_
              have HO_9 := n2_
              have HO260 := n3_
              have BK232 := n4_
              have HB := n5_
              clear n0_ n1_ n2_ n3_ n4_ n5_
              (try clear hb)
              (try clear hb2)
              (try clear hk)
              (try clear hi)
              (try clear ho0)
              refine hK.out _ _ ⟨(blk_cell BK232.out 0).trans rfl, (blk_cell BK232.out 1).trans rfl⟩ (fun hHeld => ?_)
              clear hK K
              refine norm_ (a' := ?_) ?_ ?_
              rotate_left
              · show Act.put _ (some 65) _ = _
                simp only [Act.put, List.setIfInBounds_toArray, List.set_cons_zero, List.set_cons_succ, i64_w, i32_w]
                rfl
              refine pure_ (i := 5) (N := some 60) (v := ?_) (a' := ?_) #[true, true, true, true, true, true, false, false, false, false] rfl rfl (any_of HT_.out (by kernel_rfl)) (fun _ _ _ h => h) (Or.inl ⟨by rfl, ?_⟩) ?_ ?_
              rotate_left
              · intro w'
                go_simp
                with_reducible rfl
              rotate_left
              · simp only [Act.put, List.setIfInBounds_toArray, List.set_cons_zero, List.set_cons_succ, i64_w, i32_w]
                rfl
              refine pure_ (i := 6) (N := some 66) (v := ?_) (a' := ?_) #[true, true, true, true, true, true, true, false, false, false] rfl rfl (any_of HT_.out (by kernel_rfl)) (fun _ _ _ h => h) (Or.inl ⟨by rfl, ?_⟩) ?_ ?_
              rotate_left
              · intro w'
                go_simp
                with_reducible rfl
              rotate_left
              · simp only [Act.put, List.setIfInBounds_toArray, List.set_cons_zero, List.set_cons_succ, i64_w, i32_w]
                rfl
              refine pure_ (i := 7) (N := some 67) (v := ?_) (a' := ?_) #[true, true, true, true, true, true, true, true, false, false] rfl rfl (any_of HT_.out (by kernel_rfl)) (fun _ _ _ h => h) (Or.inl ⟨by rfl, ?_⟩) ?_ ?_
              rotate_left
              · intro w'
                go_simp
                with_reducible rfl
              rotate_left
              · simp only [Act.put, List.setIfInBounds_toArray, List.set_cons_zero, List.set_cons_succ, i64_w, i32_w]
                rfl
              refine pure_ (i := 8) (N := some 13) (v := ?_) (a' := ?_) #[true, true, true, true, true, true, true, true, true, false] rfl rfl (any_of HT_.out (by kernel_rfl)) (fun _ _ _ h => h) (Or.inl ⟨by rfl, ?_⟩) ?_ ?_
              rotate_left
              · intro w'
                go_simp
                with_reducible rfl
              rotate_left
              · simp only [Act.put, List.setIfInBounds_toArray, List.set_cons_zero, List.set_cons_succ, i64_w, i32_w]
                rfl
              refine pure_ (i := 9) (N := some 14) (v := ?_) (a' := ?_) #[true, true, true, true, true, true, true, true, true, true] rfl rfl (any_of HT_.out (by kernel_rfl)) (fun _ _ _ h => h) (Or.inl ⟨by rfl, ?_⟩) ?_ ?_
              rotate_left
              · intro w'
                go_simp
                with_reducible rfl
              rotate_left
              · simp only [Act.put, List.setIfInBounds_toArray, List.set_cons_zero, List.set_cons_succ, i64_w, i32_w]
                rfl
              refine done_ (done_of HT_.out (by kernel_rfl)) ?_
              go_upto_region 12 with (fail)
              go_cut [73] (fun v73 wc => ∃ (kq : Nat) (x73_37 : Bool), v73 = .bool x73_37 ∧ Aside0 (graftwoodlaw19_WhyMore.j2 kq t236 t241 x9_1 t258 t261 x73_37 t239 t240 = some r) ∧ Aside0 (kq ≤ kj27) ∧ Aside0 (Kd.R k34 34 wc w.heap.size (fun k_ => some k_ ≠ ((.slice Ao30 x9_1.length co30) : Value).ownBlock) v237 t236) ∧ Aside0 (Kd.R k24 24 wc w.heap.size (fun k_ => some k_ ≠ (v259 : Value).ownBlock ∧ k_ ≠ gb232) v242 t241) ∧ Aside0 (Kd.R k34 34 wc w.heap.size (fun k_ => some k_ ≠ (v237 : Value).ownBlock) (.slice Ao30 x9_1.length co30) x9_1) ∧ Aside0 (Kd.R k24 24 wc w.heap.size (fun k_ => some k_ ≠ (v242 : Value).ownBlock ∧ k_ ≠ gb232) v259 t258) ∧ Aside0 (wc.heap[gb232]? = some (.cells #[.string t239, .string t240] 24 (0, 0))) ∧ Aside0 (Below w.heap.size w wc))
              case first =>
                have H := HC38.out
                clear HC38
                by_cases c41 : t244 = 0
                · rw [if_pos c41] at H
                  have c41b0 : (t244 == 0) = true := beq_iff_eq.mpr c41
                  have c41b1 : (t244 != 0) = false := bne_eq_false_iff_eq.mpr c41
                  clear c41
                  (first | rw [c41b0] | (simp only [i64_w, i32_w]; rw [c41b0]) | skip)
                  have H' := Aside0.mk H
                  clear H
                  go_wp2
                  go_meet
                  case rel => exact ⟨_, ((t261 == 1)), (by first | rfl | (simp; done) | (simp [*]; done)), H', ⟨by have := HK1.out; have := HJ27.out; first | omega | exact Nat.le_refl _⟩, ⟨by (with_reducible repeat (first | apply Kd.R_alloc | apply Kd.R_drewN | apply Kd.R_drew)); exact HO_1.out⟩, ⟨by (with_reducible repeat (first | apply Kd.R_alloc | apply Kd.R_drewN | apply Kd.R_drew)); exact Kd.R_mono HO_7.out (fun _ hk => ⟨hk.2, hk.1⟩)⟩, ⟨by (with_reducible repeat (first | apply Kd.R_alloc | apply Kd.R_drewN | apply Kd.R_drew)); exact HO_9.out⟩, ⟨by (with_reducible repeat (first | apply Kd.R_alloc | apply Kd.R_drewN | apply Kd.R_drew)); exact Kd.R_mono HO260.out (fun _ hk => ⟨hk.1.2, hk.2⟩)⟩, ⟨by (with_reducible repeat (first | refine blk_drewN ?_ _ | refine blk_drew ?_ | refine blk_alloc ?_ _)); exact BK232.out⟩, ⟨by repeat (first | (with_reducible first | exact HB.out | apply below_alloc | apply pw_below_drewN | apply below_drew1 | refine below_set ?_ GE232.out) | exact HB.out)⟩⟩
                · rw [if_neg c41] at H
                  have c41b0 : (t244 == 0) = false := beq_eq_false_iff_ne.mpr c41
                  have c41b1 : (t244 != 0) = true := bne_iff_ne.mpr c41
                  (first | rw [c41b0] | (simp only [i64_w, i32_w]; rw [c41b0]) | skip)
                  have H' := Aside0.mk H
                  clear H
                  go_wp2
                  go_meet
                  case rel => exact ⟨_, (true), (by first | rfl | (simp; done) | (simp [*]; done)), H', ⟨by have := HK1.out; have := HJ27.out; first | omega | exact Nat.le_refl _⟩, ⟨by (with_reducible repeat (first | apply Kd.R_alloc | apply Kd.R_drewN | apply Kd.R_drew)); exact HO_1.out⟩, ⟨by (with_reducible repeat (first | apply Kd.R_alloc | apply Kd.R_drewN | apply Kd.R_drew)); exact Kd.R_mono HO_7.out (fun _ hk => ⟨hk.2, hk.1⟩)⟩, ⟨by (with_reducible repeat (first | apply Kd.R_alloc | apply Kd.R_drewN | apply Kd.R_drew)); exact HO_9.out⟩, ⟨by (with_reducible repeat (first | apply Kd.R_alloc | apply Kd.R_drewN | apply Kd.R_drew)); exact Kd.R_mono HO260.out (fun _ hk => ⟨hk.1.2, hk.2⟩)⟩, ⟨by (with_reducible repeat (first | refine blk_drewN ?_ _ | refine blk_drew ?_ | refine blk_alloc ?_ _)); exact BK232.out⟩, ⟨by repeat (first | (with_reducible first | exact HB.out | apply below_alloc | apply pw_below_drewN | apply below_drew1 | refine below_set ?_ GE232.out) | exact HB.out)⟩⟩
              case rest =>
                clear HC38
                try clear c1
                try clear c2
                try clear p2
                try clear q2
                try clear hx2
                try clear c3
                try clear c4
                try clear c6
                try clear p6
                try clear c7
                try clear c8
                try clear c18
                try clear c18b0
                try clear c19
                try clear c19b0
                try clear c20
                try clear c20b0
                try clear c21
                try clear p24
                try clear q24
                try clear hx24
                try clear c32
                try clear c32b0
                try clear c32b1
                try clear c36
                try clear c41
                try clear c41b0
                try clear c41b1
                try clear hcz15_0
                try clear hcz15_1
                try clear hcz29_0
                try clear hcz29_1
                try clear hfz15_0
                try clear hfz15_1
                try clear hfz29_0
                try clear hfz29_1
                try clear hx245_0
                try clear hx245_1
                try clear hx245_2
                try clear hx245_3
                try clear hx246_0
                try clear hx246_1
                try clear hx246_2
                try clear hx246_3
                try clear p2
                try clear p24
                try clear p245
                try clear p246
                try clear p6
                try clear q2
                try clear q24
                try clear q245
                try clear q246
                obtain ⟨kq, x73_37, rfl, HA, HJ37, HO_1, HO_7, HO_9, HO_13, BK232, HB⟩ := hcut
                cases kq with
                | zero => exact absurd HA.out (by simp [graftwoodlaw19_WhyMore.j2])
                | succ kj37 =>
                  have H := HA.out
                  clear HA
                  simp only [graftwoodlaw19_WhyMore.j2] at H
                  by_cases c42 : x73_37 = true
                  · subst c42
                    have H1 : (if t261 = 1 then (if x9_1.length + t236.length < 2199023255552 then ((graftwoodref18_May.f kj37 (x9_1 ++ t236)).bind fun t265 => (if t265 = true then ((graftwoodref05_May.f kj37 t239 t240).bind fun t266 => (if t266 = true then (some false) else ((graftwoodlaw19_awake.f).bind fun t267 => (some t267)))) else ((graftwoodlaw19_awake.f).bind fun t268 => (some t268)))) else (none)) else ((graftwoodlaw19_awake.f).bind fun t269 => (some t269))) = some r := by rw [if_pos rfl] at H; exact H
                    clear H
                    have H := H1
                    clear H1
                    by_cases c43 : t261 = 1
                    · rw [if_pos c43] at H
                      have c43b0 : (t261 == 1) = true := beq_iff_eq.mpr c43
                      have c43b1 : (t261 != 1) = false := bne_eq_false_iff_eq.mpr c43
                      clear c43
                      by_cases c44 : x9_1.length + t236.length < 2199023255552
                      · rw [if_pos c44] at H
                        have LMc44 := Aside0.mk c44
                        clear c44
                        obtain ⟨y262, hy262⟩ : ∃ y_ : List (S34), y_ = (x9_1 ++ t236) := ⟨_, rfl⟩
                        replace H : ((graftwoodref18_May.f kj37 y262).bind fun t265 => (if t265 = true then ((graftwoodref05_May.f kj37 t239 t240).bind fun t266 => (if t266 = true then (some false) else ((graftwoodlaw19_awake.f).bind fun t267 => (some t267)))) else ((graftwoodlaw19_awake.f).bind fun t268 => (some t268)))) = some r := by first | (rw [hy262]; with_reducible exact H) | (have H2_ := (Option.bind_some _ _).symm.trans H; rw [hy262]; with_reducible exact H2_) | (have H2_ := (Option.bind_some _ _).symm.trans H; with_reducible exact H2_) | with_reducible exact H | (rw [hy262]; exact H) | exact H
                        have Ny262 := Aside0.mk hy262
                        clear hy262
                        replace H := Option.bind_eq_some_iff.mp H
                        obtain ⟨t265, A450, H⟩ := H
                        replace H : (if t265 = true then ((graftwoodref05_May.f kj37 t239 t240).bind fun t266 => (if t266 = true then (some false) else ((graftwoodlaw19_awake.f).bind fun t267 => (some t267)))) else ((graftwoodlaw19_awake.f).bind fun t268 => (some t268))) = some r := H
                        have A45 := Aside0.mk A450
                        clear A450
                        by_cases c46 : t265 = true
                        · subst c46
                          have H1 : ((graftwoodref05_May.f kj37 t239 t240).bind fun t266 => (if t266 = true then (some false) else ((graftwoodlaw19_awake.f).bind fun t267 => (some t267)))) = some r := by rw [if_pos rfl] at H; exact H
                          clear H
                          have H := H1
                          clear H1
                          replace H := Option.bind_eq_some_iff.mp H
                          obtain ⟨t266, A470, H⟩ := H
                          replace H : (if t266 = true then (some false) else ((graftwoodlaw19_awake.f).bind fun t267 => (some t267))) = some r := H
                          have A47 := Aside0.mk A470
                          clear A470
                          by_cases c48 : t266 = true
                          · subst c48
                            have H1 : (some false) = some r := by rw [if_pos rfl] at H; exact H
                            clear H
                            have H := H1
                            clear H1
                            exact absurd ((Option.some.inj H).trans HR_.out) (by decide)
                          · replace c48 := Bool.eq_false_iff.mpr c48
                            subst c48
                            have H1 : ((graftwoodlaw19_awake.f).bind fun t267 => (some t267)) = some r := by rw [if_neg (show ¬ (false = true) by decide)] at H; exact H
                            clear H
                            have H := H1
                            clear H1
                            replace H := Option.bind_eq_some_iff.mp H
                            obtain ⟨t267, A490, H⟩ := H
                            replace H : (some t267) = some r := H
                            have A49 := Aside0.mk A490
                            clear A490
                            obtain rfl := Option.some.inj H
                            obtain ⟨Ao51, co51, eo51⟩ := Kd.R_slice HO_1.out
                            subst eo51
                            go_wp2_with (first | ((with_reducible refine gate_builtin (b := .append) (xs := #[.tmp 77, .tmp 78]) rfl ?_); (try (refine gate_guard (by rfl) ?_; dsimp only)); at_builtin; refine Kd.R_append_rows k34 (w0 := w) w.heap.size rfl (.tmp 77) (.tmp 78) 22 34 (.agg #[(.string ⟨#[]⟩), (.string ⟨#[]⟩), (.string ⟨#[]⟩), (.string ⟨#[]⟩)]) 64 rfl Tryd.underlying22 info34 rfl (by decide) (by omega) (.slice Ao30 x9_1.length co30) x9_1 t236 _ _ _ (fun k_ => some k_ ≠ (.slice Ao51 t236.length co51 : Value).ownBlock) (fun _ => False) rfl rfl ?aO ?aR (fun _ _ h => h) (fun _ h => h.elim) ?aF ?aB ?aS ?aL ?_; (case aR => repeat (first | exact (Kd.R_reads' HO_1.out).2.2 | (with_reducible refine Kd.C_alloc ?_ _) | (with_reducible refine Kd.C_drewN ?_ _) | (with_reducible refine Kd.C_drew ?_))); (case aB => exact (by repeat (first | (with_reducible first | exact HB.out | apply below_alloc | apply pw_below_drewN | apply below_drew1 | refine below_set ?_ GE232.out) | exact HB.out))); (case aF => exact (fun k_ hk => Kd.fresh' (Kd.R_lt (by (with_reducible repeat (first | apply Kd.R_alloc | apply Kd.R_drewN | apply Kd.R_drew)); exact HO_1.out)) k_ hk)); (case aO => exact (by (with_reducible repeat (first | apply Kd.R_alloc | apply Kd.R_drewN | apply Kd.R_drew)); exact HO_9.out)); (case aS => exact (below_size (by repeat (first | (with_reducible first | exact HB.out | apply below_alloc | apply pw_below_drewN | apply below_drew1 | refine below_set ?_ GE232.out) | exact HB.out)))); (case aL => have := LMc44.out; omega); intro v263 w50 ho hb hg hat; rw [← Ny262.out] at ho; have n0_ := Aside0.mk (Kd.R_after (ok := (fun _ => True)) (by (with_reducible repeat (first | apply Kd.R_alloc | apply Kd.R_drewN | apply Kd.R_drew)); exact Kd.R_mono HO_1.out (fun _ hk => ⟨trivial, hk⟩)) hg hat); have n1_ := Aside0.mk (Kd.R_over' (by (with_reducible repeat (first | apply Kd.R_alloc | apply Kd.R_drewN | apply Kd.R_drew)); exact HO_7.out) (Kd.R_typed (by (with_reducible repeat (first | apply Kd.R_alloc | apply Kd.R_drewN | apply Kd.R_drew)); exact HO_9.out)) (by decide) hg); have n2_ := Aside0.mk (Kd.R_over' (by (with_reducible repeat (first | apply Kd.R_alloc | apply Kd.R_drewN | apply Kd.R_drew)); exact HO_13.out) (Kd.R_typed (by (with_reducible repeat (first | apply Kd.R_alloc | apply Kd.R_drewN | apply Kd.R_drew)); exact HO_9.out)) (by decide) hg); have n3_ := Aside0.mk (blk_grown (g := gb232) (o := .cells #[.string t239, .string t240] 24 (0, 0)) (by (with_reducible repeat (first | refine blk_drewN ?_ _ | refine blk_drew ?_ | refine blk_alloc ?_ _)); exact BK232.out) hg (Kd.R_ne HO_9.out BK232.out (by decide))); have n4_ := Aside0.mk (hb); have n5_ := Aside0.mk (ho); clear HO_1; clear HO_7; clear HO_13; clear BK232; clear HB; clear HO_9; have HO_1 := n0_; have HO_7 := n1_; have HO_13 := n2_; have BK232 := n3_; have HB := n4_; have HO264 := n5_; clear n0_ n1_ n2_ n3_ n4_ n5_; clear ho hb hg hat; obtain ⟨Ao52, co52, eo52⟩ := Kd.R_slice HO264.out; subst eo52) | (go_at_call 12; (with_reducible refine (graftwoodref18_May.calls kj37 _ _ y262 true _ ?side1 ?side2 A45.out).mono ?_); (case side1 => repeat (first | exact (Kd.R_reads' HO264.out).2.2 | (with_reducible refine Kd.C_alloc ?_ _) | (with_reducible refine Kd.C_drewN ?_ _) | (with_reducible refine Kd.C_drew ?_))); (case side2 => exact (Kd.R_reads' HO264.out).2.1); rintro e w53 ⟨rfl, hb⟩; have n0_ := Aside0.mk (Kd.R_below (by (with_reducible repeat (first | apply Kd.R_alloc | apply Kd.R_drewN | apply Kd.R_drew)); exact HO_1.out) hb); have n1_ := Aside0.mk (Kd.R_below (by (with_reducible repeat (first | apply Kd.R_alloc | apply Kd.R_drewN | apply Kd.R_drew)); exact HO_7.out) hb); have n2_ := Aside0.mk (Kd.R_below (by (with_reducible repeat (first | apply Kd.R_alloc | apply Kd.R_drewN | apply Kd.R_drew)); exact HO_13.out) hb); have n3_ := Aside0.mk (Kd.R_below (by (with_reducible repeat (first | apply Kd.R_alloc | apply Kd.R_drewN | apply Kd.R_drew)); exact HO264.out) hb); have n4_ := Aside0.mk (blk_below (g := gb232) (o := .cells #[.string t239, .string t240] 24 (0, 0)) (by (with_reducible repeat (first | refine blk_drewN ?_ _ | refine blk_drew ?_ | refine blk_alloc ?_ _)); exact BK232.out) hb); have n5_ := Aside0.mk (below_step (by repeat (first | (with_reducible first | exact HB.out | apply below_alloc | apply pw_below_drewN | apply below_drew1 | refine below_set ?_ GE232.out) | exact HB.out)) hb); clear HO_1; clear HO_7; clear HO_13; clear HO264; clear BK232; clear HB; have HO_1 := n0_; have HO_7 := n1_; have HO_13 := n2_; have HO264 := n3_; have BK232 := n4_; have HB := n5_; clear n0_ n1_ n2_ n3_ n4_ n5_; (try clear hb); (try clear hb2); (try clear hk); (try clear hi); have hcz54_0 : w53.cell? ⟨gb232, 0, none⟩ = some (.string t239) := (blk_cell BK232.out 0).trans rfl; have hcz54_1 : w53.cell? ⟨gb232, 1, none⟩ = some (.string t240) := (blk_cell BK232.out 1).trans rfl; have hfz54_0 := blk_frozen BK232.out 0; have hfz54_1 := blk_frozen BK232.out 1) | (go_at_call 13; (with_reducible refine (graftwoodref05_May.calls kj37 t239 t240 false _ A47.out).mono ?_); rintro e w55 ⟨rfl, hb⟩; have n0_ := Aside0.mk (Kd.R_below (by (with_reducible repeat (first | apply Kd.R_alloc | apply Kd.R_drewN | apply Kd.R_drew)); exact HO_1.out) hb); have n1_ := Aside0.mk (Kd.R_below (by (with_reducible repeat (first | apply Kd.R_alloc | apply Kd.R_drewN | apply Kd.R_drew)); exact HO_7.out) hb); have n2_ := Aside0.mk (Kd.R_below (by (with_reducible repeat (first | apply Kd.R_alloc | apply Kd.R_drewN | apply Kd.R_drew)); exact HO_13.out) hb); have n3_ := Aside0.mk (Kd.R_below (by (with_reducible repeat (first | apply Kd.R_alloc | apply Kd.R_drewN | apply Kd.R_drew)); exact HO264.out) hb); have n4_ := Aside0.mk (blk_below (g := gb232) (o := .cells #[.string t239, .string t240] 24 (0, 0)) (by (with_reducible repeat (first | refine blk_drewN ?_ _ | refine blk_drew ?_ | refine blk_alloc ?_ _)); exact BK232.out) hb); have n5_ := Aside0.mk (below_step (by repeat (first | (with_reducible first | exact HB.out | apply below_alloc | apply pw_below_drewN | apply below_drew1 | refine below_set ?_ GE232.out) | exact HB.out)) hb); clear HO_1; clear HO_7; clear HO_13; clear HO264; clear BK232; clear HB; have HO_1 := n0_; have HO_7 := n1_; have HO_13 := n2_; have HO264 := n3_; have BK232 := n4_; have HB := n5_; clear n0_ n1_ n2_ n3_ n4_ n5_; (try clear hb); (try clear hb2); (try clear hk); (try clear hi)) | (go_at_call 9; (with_reducible refine (graftwoodlaw19_awake.calls  t267 _ A49.out HR_).mono ?_); rintro e w56 ⟨rfl, hb⟩; have n0_ := Aside0.mk (Kd.R_below (by (with_reducible repeat (first | apply Kd.R_alloc | apply Kd.R_drewN | apply Kd.R_drew)); exact HO_1.out) hb); have n1_ := Aside0.mk (Kd.R_below (by (with_reducible repeat (first | apply Kd.R_alloc | apply Kd.R_drewN | apply Kd.R_drew)); exact HO_7.out) hb); have n2_ := Aside0.mk (Kd.R_below (by (with_reducible repeat (first | apply Kd.R_alloc | apply Kd.R_drewN | apply Kd.R_drew)); exact HO_13.out) hb); have n3_ := Aside0.mk (Kd.R_below (by (with_reducible repeat (first | apply Kd.R_alloc | apply Kd.R_drewN | apply Kd.R_drew)); exact HO264.out) hb); have n4_ := Aside0.mk (blk_below (g := gb232) (o := .cells #[.string t239, .string t240] 24 (0, 0)) (by (with_reducible repeat (first | refine blk_drewN ?_ _ | refine blk_drew ?_ | refine blk_alloc ?_ _)); exact BK232.out) hb); have n5_ := Aside0.mk (below_step (by repeat (first | (with_reducible first | exact HB.out | apply below_alloc | apply pw_below_drewN | apply below_drew1 | refine below_set ?_ GE232.out) | exact HB.out)) hb); clear HO_1; clear HO_7; clear HO_13; clear HO264; clear BK232; clear HB; have HO_1 := n0_; have HO_7 := n1_; have HO_13 := n2_; have HO264 := n3_; have BK232 := n4_; have HB := n5_; clear n0_ n1_ n2_ n3_ n4_ n5_; (try clear hb); (try clear hb2); (try clear hk); (try clear hi)))
                            go_ret
                            exact ⟨by first | rfl | (simp [errW_none, errW_some] <;> rfl) | (simp [*, errW_none, errW_some] <;> rfl), by repeat (first | (with_reducible first | exact HB.out | apply below_alloc | apply pw_below_drewN | apply below_drew1 | refine below_set ?_ GE232.out) | exact HB.out)⟩
                        · replace c46 := Bool.eq_false_iff.mpr c46
                          subst c46
                          have H1 : ((graftwoodlaw19_awake.f).bind fun t268 => (some t268)) = some r := by rw [if_neg (show ¬ (false = true) by decide)] at H; exact H
                          clear H
                          have H := H1
                          clear H1
                          replace H := Option.bind_eq_some_iff.mp H
                          obtain ⟨t268, A570, H⟩ := H
                          replace H : (some t268) = some r := H
                          have A57 := Aside0.mk A570
                          clear A570
                          obtain rfl := Option.some.inj H
                          obtain ⟨Ao59, co59, eo59⟩ := Kd.R_slice HO_1.out
                          subst eo59
                          go_wp2_with (first | ((with_reducible refine gate_builtin (b := .append) (xs := #[.tmp 77, .tmp 78]) rfl ?_); (try (refine gate_guard (by rfl) ?_; dsimp only)); at_builtin; refine Kd.R_append_rows k34 (w0 := w) w.heap.size rfl (.tmp 77) (.tmp 78) 22 34 (.agg #[(.string ⟨#[]⟩), (.string ⟨#[]⟩), (.string ⟨#[]⟩), (.string ⟨#[]⟩)]) 64 rfl Tryd.underlying22 info34 rfl (by decide) (by omega) (.slice Ao30 x9_1.length co30) x9_1 t236 _ _ _ (fun k_ => some k_ ≠ (.slice Ao59 t236.length co59 : Value).ownBlock) (fun _ => False) rfl rfl ?aO ?aR (fun _ _ h => h) (fun _ h => h.elim) ?aF ?aB ?aS ?aL ?_; (case aR => repeat (first | exact (Kd.R_reads' HO_1.out).2.2 | (with_reducible refine Kd.C_alloc ?_ _) | (with_reducible refine Kd.C_drewN ?_ _) | (with_reducible refine Kd.C_drew ?_))); (case aB => exact (by repeat (first | (with_reducible first | exact HB.out | apply below_alloc | apply pw_below_drewN | apply below_drew1 | refine below_set ?_ GE232.out) | exact HB.out))); (case aF => exact (fun k_ hk => Kd.fresh' (Kd.R_lt (by (with_reducible repeat (first | apply Kd.R_alloc | apply Kd.R_drewN | apply Kd.R_drew)); exact HO_1.out)) k_ hk)); (case aO => exact (by (with_reducible repeat (first | apply Kd.R_alloc | apply Kd.R_drewN | apply Kd.R_drew)); exact HO_9.out)); (case aS => exact (below_size (by repeat (first | (with_reducible first | exact HB.out | apply below_alloc | apply pw_below_drewN | apply below_drew1 | refine below_set ?_ GE232.out) | exact HB.out)))); (case aL => have := LMc44.out; omega); intro v263 w58 ho hb hg hat; rw [← Ny262.out] at ho; have n0_ := Aside0.mk (Kd.R_after (ok := (fun _ => True)) (by (with_reducible repeat (first | apply Kd.R_alloc | apply Kd.R_drewN | apply Kd.R_drew)); exact Kd.R_mono HO_1.out (fun _ hk => ⟨trivial, hk⟩)) hg hat); have n1_ := Aside0.mk (Kd.R_over' (by (with_reducible repeat (first | apply Kd.R_alloc | apply Kd.R_drewN | apply Kd.R_drew)); exact HO_7.out) (Kd.R_typed (by (with_reducible repeat (first | apply Kd.R_alloc | apply Kd.R_drewN | apply Kd.R_drew)); exact HO_9.out)) (by decide) hg); have n2_ := Aside0.mk (Kd.R_over' (by (with_reducible repeat (first | apply Kd.R_alloc | apply Kd.R_drewN | apply Kd.R_drew)); exact HO_13.out) (Kd.R_typed (by (with_reducible repeat (first | apply Kd.R_alloc | apply Kd.R_drewN | apply Kd.R_drew)); exact HO_9.out)) (by decide) hg); have n3_ := Aside0.mk (blk_grown (g := gb232) (o := .cells #[.string t239, .string t240] 24 (0, 0)) (by (with_reducible repeat (first | refine blk_drewN ?_ _ | refine blk_drew ?_ | refine blk_alloc ?_ _)); exact BK232.out) hg (Kd.R_ne HO_9.out BK232.out (by decide))); have n4_ := Aside0.mk (hb); have n5_ := Aside0.mk (ho); clear HO_1; clear HO_7; clear HO_13; clear BK232; clear HB; clear HO_9; have HO_1 := n0_; have HO_7 := n1_; have HO_13 := n2_; have BK232 := n3_; have HB := n4_; have HO264 := n5_; clear n0_ n1_ n2_ n3_ n4_ n5_; clear ho hb hg hat; obtain ⟨Ao60, co60, eo60⟩ := Kd.R_slice HO264.out; subst eo60) | (go_at_call 12; (with_reducible refine (graftwoodref18_May.calls kj37 _ _ y262 false _ ?side1 ?side2 A45.out).mono ?_); (case side1 => repeat (first | exact (Kd.R_reads' HO264.out).2.2 | (with_reducible refine Kd.C_alloc ?_ _) | (with_reducible refine Kd.C_drewN ?_ _) | (with_reducible refine Kd.C_drew ?_))); (case side2 => exact (Kd.R_reads' HO264.out).2.1); rintro e w61 ⟨rfl, hb⟩; have n0_ := Aside0.mk (Kd.R_below (by (with_reducible repeat (first | apply Kd.R_alloc | apply Kd.R_drewN | apply Kd.R_drew)); exact HO_1.out) hb); have n1_ := Aside0.mk (Kd.R_below (by (with_reducible repeat (first | apply Kd.R_alloc | apply Kd.R_drewN | apply Kd.R_drew)); exact HO_7.out) hb); have n2_ := Aside0.mk (Kd.R_below (by (with_reducible repeat (first | apply Kd.R_alloc | apply Kd.R_drewN | apply Kd.R_drew)); exact HO_13.out) hb); have n3_ := Aside0.mk (Kd.R_below (by (with_reducible repeat (first | apply Kd.R_alloc | apply Kd.R_drewN | apply Kd.R_drew)); exact HO264.out) hb); have n4_ := Aside0.mk (blk_below (g := gb232) (o := .cells #[.string t239, .string t240] 24 (0, 0)) (by (with_reducible repeat (first | refine blk_drewN ?_ _ | refine blk_drew ?_ | refine blk_alloc ?_ _)); exact BK232.out) hb); have n5_ := Aside0.mk (below_step (by repeat (first | (with_reducible first | exact HB.out | apply below_alloc | apply pw_below_drewN | apply below_drew1 | refine below_set ?_ GE232.out) | exact HB.out)) hb); clear HO_1; clear HO_7; clear HO_13; clear HO264; clear BK232; clear HB; have HO_1 := n0_; have HO_7 := n1_; have HO_13 := n2_; have HO264 := n3_; have BK232 := n4_; have HB := n5_; clear n0_ n1_ n2_ n3_ n4_ n5_; (try clear hb); (try clear hb2); (try clear hk); (try clear hi)) | (go_at_call 9; (with_reducible refine (graftwoodlaw19_awake.calls  t268 _ A57.out HR_).mono ?_); rintro e w62 ⟨rfl, hb⟩; have n0_ := Aside0.mk (Kd.R_below (by (with_reducible repeat (first | apply Kd.R_alloc | apply Kd.R_drewN | apply Kd.R_drew)); exact HO_1.out) hb); have n1_ := Aside0.mk (Kd.R_below (by (with_reducible repeat (first | apply Kd.R_alloc | apply Kd.R_drewN | apply Kd.R_drew)); exact HO_7.out) hb); have n2_ := Aside0.mk (Kd.R_below (by (with_reducible repeat (first | apply Kd.R_alloc | apply Kd.R_drewN | apply Kd.R_drew)); exact HO_13.out) hb); have n3_ := Aside0.mk (Kd.R_below (by (with_reducible repeat (first | apply Kd.R_alloc | apply Kd.R_drewN | apply Kd.R_drew)); exact HO264.out) hb); have n4_ := Aside0.mk (blk_below (g := gb232) (o := .cells #[.string t239, .string t240] 24 (0, 0)) (by (with_reducible repeat (first | refine blk_drewN ?_ _ | refine blk_drew ?_ | refine blk_alloc ?_ _)); exact BK232.out) hb); have n5_ := Aside0.mk (below_step (by repeat (first | (with_reducible first | exact HB.out | apply below_alloc | apply pw_below_drewN | apply below_drew1 | refine below_set ?_ GE232.out) | exact HB.out)) hb); clear HO_1; clear HO_7; clear HO_13; clear HO264; clear BK232; clear HB; have HO_1 := n0_; have HO_7 := n1_; have HO_13 := n2_; have HO264 := n3_; have BK232 := n4_; have HB := n5_; clear n0_ n1_ n2_ n3_ n4_ n5_; (try clear hb); (try clear hb2); (try clear hk); (try clear hi)))
                          go_ret
                          exact ⟨by first | rfl | (simp [errW_none, errW_some] <;> rfl) | (simp [*, errW_none, errW_some] <;> rfl), by repeat (first | (with_reducible first | exact HB.out | apply below_alloc | apply pw_below_drewN | apply below_drew1 | refine below_set ?_ GE232.out) | exact HB.out)⟩
                      · rw [if_neg c44] at H
                        exact absurd H (by simp)
                    · rw [if_neg c43] at H
                      have c43b0 : (t261 == 1) = false := beq_eq_false_iff_ne.mpr c43
                      have c43b1 : (t261 != 1) = true := bne_iff_ne.mpr c43
                      replace H := Option.bind_eq_some_iff.mp H
                      obtain ⟨t269, A630, H⟩ := H
                      replace H : (some t269) = some r := H
                      have A63 := Aside0.mk A630
                      clear A630
                      obtain rfl := Option.some.inj H
                      go_wp2_with (first | (go_at_call 9; (with_reducible refine (graftwoodlaw19_awake.calls  t269 _ A63.out HR_).mono ?_); rintro e w64 ⟨rfl, hb⟩; have n0_ := Aside0.mk (Kd.R_below (by (with_reducible repeat (first | apply Kd.R_alloc | apply Kd.R_drewN | apply Kd.R_drew)); exact HO_1.out) hb); have n1_ := Aside0.mk (Kd.R_below (by (with_reducible repeat (first | apply Kd.R_alloc | apply Kd.R_drewN | apply Kd.R_drew)); exact HO_7.out) hb); have n2_ := Aside0.mk (Kd.R_below (by (with_reducible repeat (first | apply Kd.R_alloc | apply Kd.R_drewN | apply Kd.R_drew)); exact HO_9.out) hb); have n3_ := Aside0.mk (Kd.R_below (by (with_reducible repeat (first | apply Kd.R_alloc | apply Kd.R_drewN | apply Kd.R_drew)); exact HO_13.out) hb); have n4_ := Aside0.mk (blk_below (g := gb232) (o := .cells #[.string t239, .string t240] 24 (0, 0)) (by (with_reducible repeat (first | refine blk_drewN ?_ _ | refine blk_drew ?_ | refine blk_alloc ?_ _)); exact BK232.out) hb); have n5_ := Aside0.mk (below_step (by repeat (first | (with_reducible first | exact HB.out | apply below_alloc | apply pw_below_drewN | apply below_drew1 | refine below_set ?_ GE232.out) | exact HB.out)) hb); clear HO_1; clear HO_7; clear HO_9; clear HO_13; clear BK232; clear HB; have HO_1 := n0_; have HO_7 := n1_; have HO_9 := n2_; have HO_13 := n3_; have BK232 := n4_; have HB := n5_; clear n0_ n1_ n2_ n3_ n4_ n5_; (try clear hb); (try clear hb2); (try clear hk); (try clear hi)))
                      go_ret
                      exact ⟨by first | rfl | (simp [errW_none, errW_some] <;> rfl) | (simp [*, errW_none, errW_some] <;> rfl), by repeat (first | (with_reducible first | exact HB.out | apply below_alloc | apply pw_below_drewN | apply below_drew1 | refine below_set ?_ GE232.out) | exact HB.out)⟩
                  · replace c42 := Bool.eq_false_iff.mpr c42
                    subst c42
                    have H1 : (if t261 = 0 then (if (t258.length : Int) ≤ (t241.length : Int) then ((graftwoodlaw19_awake.f).bind fun t270 => (some t270)) else (some false)) else (some false)) = some r := by rw [if_neg (show ¬ (false = true) by decide)] at H; exact H
                    clear H
                    have H := H1
                    clear H1
                    by_cases c65 : t261 = 0
                    · rw [if_pos c65] at H
                      have c65b0 : (t261 == 0) = true := beq_iff_eq.mpr c65
                      have c65b1 : (t261 != 0) = false := bne_eq_false_iff_eq.mpr c65
                      clear c65
                      by_cases c66 : (t258.length : Int) ≤ (t241.length : Int)
                      · rw [if_pos c66] at H
                        have c66b0 : decide ((t258.length : Int) ≤ (t241.length : Int)) = true := decide_eq_true c66
                        have c66b1 : decide (t258.length ≤ t241.length) = true := decide_eq_true (Int.ofNat_le.mp c66)
                        clear c66
                        replace H := Option.bind_eq_some_iff.mp H
                        obtain ⟨t270, A670, H⟩ := H
                        replace H : (some t270) = some r := H
                        have A67 := Aside0.mk A670
                        clear A670
                        obtain rfl := Option.some.inj H
                        obtain ⟨Ao68, co68, eo68⟩ := Kd.R_slice HO_13.out
                        subst eo68
                        obtain ⟨Ao69, co69, eo69⟩ := Kd.R_slice HO_7.out
                        subst eo69
                        go_wp2_with (first | (go_at_call 9; (with_reducible refine (graftwoodlaw19_awake.calls  t270 _ A67.out HR_).mono ?_); rintro e w70 ⟨rfl, hb⟩; have n0_ := Aside0.mk (Kd.R_below (by (with_reducible repeat (first | apply Kd.R_alloc | apply Kd.R_drewN | apply Kd.R_drew)); exact HO_1.out) hb); have n1_ := Aside0.mk (Kd.R_below (by (with_reducible repeat (first | apply Kd.R_alloc | apply Kd.R_drewN | apply Kd.R_drew)); exact HO_7.out) hb); have n2_ := Aside0.mk (Kd.R_below (by (with_reducible repeat (first | apply Kd.R_alloc | apply Kd.R_drewN | apply Kd.R_drew)); exact HO_9.out) hb); have n3_ := Aside0.mk (Kd.R_below (by (with_reducible repeat (first | apply Kd.R_alloc | apply Kd.R_drewN | apply Kd.R_drew)); exact HO_13.out) hb); have n4_ := Aside0.mk (blk_below (g := gb232) (o := .cells #[.string t239, .string t240] 24 (0, 0)) (by (with_reducible repeat (first | refine blk_drewN ?_ _ | refine blk_drew ?_ | refine blk_alloc ?_ _)); exact BK232.out) hb); have n5_ := Aside0.mk (below_step (by repeat (first | (with_reducible first | exact HB.out | apply below_alloc | apply pw_below_drewN | apply below_drew1 | refine below_set ?_ GE232.out) | exact HB.out)) hb); clear HO_1; clear HO_7; clear HO_9; clear HO_13; clear BK232; clear HB; have HO_1 := n0_; have HO_7 := n1_; have HO_9 := n2_; have HO_13 := n3_; have BK232 := n4_; have HB := n5_; clear n0_ n1_ n2_ n3_ n4_ n5_; (try clear hb); (try clear hb2); (try clear hk); (try clear hi)))
                        go_ret
                        exact ⟨by first | rfl | (simp [errW_none, errW_some] <;> rfl) | (simp [*, errW_none, errW_some] <;> rfl), by repeat (first | (with_reducible first | exact HB.out | apply below_alloc | apply pw_below_drewN | apply below_drew1 | refine below_set ?_ GE232.out) | exact HB.out)⟩
                      · rw [if_neg c66] at H
                        have c66b0 : decide ((t258.length : Int) ≤ (t241.length : Int)) = false := decide_eq_false c66
                        have c66b1 : decide (t258.length ≤ t241.length) = false := decide_eq_false (fun h => c66 (Int.ofNat_le.mpr h))
                        clear c66
                        exact absurd ((Option.some.inj H).trans HR_.out) (by decide)
                    · rw [if_neg c65] at H
                      have c65b0 : (t261 == 0) = false := beq_eq_false_iff_ne.mpr c65
                      have c65b1 : (t261 != 0) = true := bne_iff_ne.mpr c65
                      exact absurd ((Option.some.inj H).trans HR_.out) (by decide)
end Go.Proofs.YtodkjmbmlobihaaDoor.Q
end
