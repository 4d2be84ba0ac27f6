/- Part 12 of this claim: several texts one behind the other: Fgraftwoodlaw18LackBy, RWith5, RBy18, PureKBy. What each shows stands in its theorems; conditions: sizes of texts and lists, as the functions' definitions say. -/
import Derived.Test.YtffcbfclpfchnaaGreatDoorMLackBy0
import Derived.Test.YtffcbfclpfchnaaGreatDoorMLackBy1
import Derived.Test.YtffcbfclpfchnaaGreatDoorMLackBy9
import Derived.Test.YtffcbfclpfchnaaGreatDoorMLackBy10
import Derived.Test.YtffcbfclpfchnaaGreatDoorMLackBy3
import Derived.Test.YtffcbfclpfchnaaGreatDoorMLackBy11
import Derived.Test.YtffcbfclpfchnaaGreatDoorMLackBy8
import Derived.Test.YtffcbfclpfchnaaGreatDoorMLackBy6
import Derived.Test.YtffcbfclpfchnaaGreatDoorMLackBy7
section
namespace Go.Proofs.YtffcbfclpfchnaaGreatDoor.Q
open Go.RowKit Go.Proofs.YtffcbfclpfchnaaGreatDoorW.PrintWords Go.Proofs.YtffcbfclpfchnaaGreatDoorW.PrintLast Go.Proofs.YtffcbfclpfchnaaGreatDoorW.PrintMore
attribute [local go_sem] max2_int min2_int max_two min_two max_three min_three max_four min_four   -- for this text's walks alone
set_option linter.unusedVariables false
set_option linter.unusedSimpArgs false
/-! ### graftwoodlaw18_LackBy: function 4 -/
def graftwoodlaw18_LackBy.j0 : Nat → List (S51) → List (S42) → Bool → Int → Bool → ByteArray → ByteArray → Option (Bool)
  | 0, _, _, _, _, _, _, _ => none
  | k + 1, x0, x5, x6, x7, x28, x369000, x369001 => if x28 = true then (if (x5.length : Int) = 0 then (if x6 = true then (some false) else (if x7 = 1 then ((graftwoodlaw18_awake.f).bind fun t381 => (some t381)) else (some false))) else (some false)) else ((graftwoodref18_By.f k x0 x369000 x369001).bind fun bt382 => ((graftwoodref05_Same.f k x5 bt382.1).bind fun t386 => (if t386 = true then (if (x6 == bt382.2) = true then (if x7 = 0 then ((graftwoodlaw18_awake.f).bind fun t387 => (some t387)) else (some false)) else (some false)) else (some false))))
def graftwoodlaw18_LackBy.f (k : Nat) (l0 : List (S51)) (a1_0 : ByteArray) (a1_1 : ByteArray) : Option (Bool) := (graftwoodlaw18_Few.f k l0).bind fun t369 => ((graftwoodlaw05_One.f a1_0 a1_1).bind fun bt372 => ((lack_By.f k t369 bt372.1 bt372.2).bind fun bt374 => ((graftwoodref18_May.f k t369).bind fun t379 => (if t379 = true then ((graftwoodref05_May.f k bt372.1 bt372.2).bind fun t380 => (graftwoodlaw18_LackBy.j0 k t369 bt374.1 bt374.2.1 bt374.2.2 (!t380) bt372.1 bt372.2)) else (graftwoodlaw18_LackBy.j0 k t369 bt374.1 bt374.2.1 bt374.2.2 true bt372.1 bt372.2)))))
theorem graftwoodlaw18_LackBy.mono_l : ∀ k, (∀ y0 y1 y2 y3 y4 y5 y6, LeO (graftwoodlaw18_LackBy.j0 k y0 y1 y2 y3 y4 y5 y6) (graftwoodlaw18_LackBy.j0 (k + 1) y0 y1 y2 y3 y4 y5 y6))
  | 0 => fun _ _ _ _ _ _ _ r h => by simp [graftwoodlaw18_LackBy.j0] at h
  | k + 1 => by
    have ih0 := graftwoodlaw18_LackBy.mono_l k
    · intro y0 y1 y2 y3 y4 y5 y6
      unfold graftwoodlaw18_LackBy.j0
      repeat' first
      | (with_reducible exact ih0 _ _ _ _ _ _ _)
      | (with_reducible exact graftwoodlaw18_Few.mono _ _)
      | (with_reducible exact graftwoodref05_May.mono _ _ _)
      | (with_reducible exact graftwoodref05_Same.mono _ _ _)
      | (with_reducible exact graftwoodref18_By.mono _ _ _ _)
      | (with_reducible exact graftwoodref18_May.mono _ _)
      | (with_reducible exact lack_By.mono _ _ _ _)
      | (with_reducible exact LeO.refl _)
      | (with_reducible exact LeO.none _)
      | (with_reducible refine LeO.ite ?_ ?_)
      | (with_reducible refine LeO.bind ?_ (fun _ => ?_))
      | exact ih0 _ _ _ _ _ _ _
      | exact graftwoodlaw18_Few.mono _ _
      | exact graftwoodref05_May.mono _ _ _
      | exact graftwoodref05_Same.mono _ _ _
      | exact graftwoodref18_By.mono _ _ _ _
      | exact graftwoodref18_May.mono _ _
      | exact lack_By.mono _ _ _ _
      | exact LeO.none _
      | refine LeO.ite ?_ ?_
      | refine LeO.bind ?_ (fun _ => ?_)
theorem graftwoodlaw18_LackBy.mono : ∀ a0 a1 a2 k, LeO (graftwoodlaw18_LackBy.f k a0 a1 a2) (graftwoodlaw18_LackBy.f (k + 1) a0 a1 a2) := by
  intro a0 a1 a2 k
  have ih0 := graftwoodlaw18_LackBy.mono_l k
  unfold graftwoodlaw18_LackBy.f
  repeat' first
      | (with_reducible exact ih0 _ _ _ _ _ _ _)
      | (with_reducible exact graftwoodlaw18_Few.mono _ _)
      | (with_reducible exact graftwoodref05_May.mono _ _ _)
      | (with_reducible exact graftwoodref05_Same.mono _ _ _)
      | (with_reducible exact graftwoodref18_By.mono _ _ _ _)
      | (with_reducible exact graftwoodref18_May.mono _ _)
      | (with_reducible exact lack_By.mono _ _ _ _)
      | (with_reducible exact LeO.refl _)
      | (with_reducible exact LeO.none _)
      | (with_reducible refine LeO.ite ?_ ?_)
      | (with_reducible refine LeO.bind ?_ (fun _ => ?_))
      | exact ih0 _ _ _ _ _ _ _
      | exact graftwoodlaw18_Few.mono _ _
      | exact graftwoodref05_May.mono _ _ _
      | exact graftwoodref05_Same.mono _ _ _
      | exact graftwoodref18_By.mono _ _ _ _
      | exact graftwoodref18_May.mono _ _
      | exact lack_By.mono _ _ _ _
      | exact LeO.none _
      | refine LeO.ite ?_ ?_
      | refine LeO.bind ?_ (fun _ => ?_)
set_option maxHeartbeats 8000000 in
set_option maxRecDepth 100000 in
theorem graftwoodlaw18_LackBy.calls (k : Nat) (A0 : Option Addr) (c0 : Nat) (l0 : List (S51)) (a1_0 : ByteArray) (a1_1 : ByteArray) (r : Bool) (w : World) (hr0 : Kd.C k51 w A0 l0.length l0) (hc0 : l0.length ≤ c0) (h : graftwoodlaw18_LackBy.f k l0 a1_0 a1_1 = some r) (HR_ : Aside0 (r = true)) :
    Calls Tryz.prog 4 #[.slice A0 l0.length c0, .agg #[.string a1_0, .string a1_1]] w fun e w' => e = .returned (.bool r) ∧ Below w.heap.size w w' := by
  have hu42 := Tryz.underlying42
  have HR0 := Aside0.mk hr0
  have HC0 := Aside0.mk hc0
  clear hr0 hc0
  have HB := Aside0.mk (Below.refl w.heap.size w)
  have H : ((graftwoodlaw18_Few.f k l0).bind fun t369 => ((graftwoodlaw05_One.f a1_0 a1_1).bind fun bt372 => ((lack_By.f k t369 bt372.1 bt372.2).bind fun bt374 => ((graftwoodref18_May.f k t369).bind fun t379 => (if t379 = true then ((graftwoodref05_May.f k bt372.1 bt372.2).bind fun t380 => (graftwoodlaw18_LackBy.j0 k t369 bt374.1 bt374.2.1 bt374.2.2 (!t380) bt372.1 bt372.2)) else (graftwoodlaw18_LackBy.j0 k t369 bt374.1 bt374.2.1 bt374.2.2 true bt372.1 bt372.2)))))) = some r := h
  clear h
  replace H := Option.bind_eq_some_iff.mp H
  obtain ⟨t369, A30, H⟩ := H
  replace H : ((graftwoodlaw05_One.f a1_0 a1_1).bind fun bt372 => ((lack_By.f k t369 bt372.1 bt372.2).bind fun bt374 => ((graftwoodref18_May.f k t369).bind fun t379 => (if t379 = true then ((graftwoodref05_May.f k bt372.1 bt372.2).bind fun t380 => (graftwoodlaw18_LackBy.j0 k t369 bt374.1 bt374.2.1 bt374.2.2 (!t380) bt372.1 bt372.2)) else (graftwoodlaw18_LackBy.j0 k t369 bt374.1 bt374.2.1 bt374.2.2 true bt372.1 bt372.2))))) = some r := H
  have A3 := Aside0.mk A30
  clear A30
  replace H := Option.bind_eq_some_iff.mp H
  obtain ⟨⟨t372, t373⟩, A40, H⟩ := H
  replace H : ((lack_By.f k t369 t372 t373).bind fun bt374 => ((graftwoodref18_May.f k t369).bind fun t379 => (if t379 = true then ((graftwoodref05_May.f k t372 t373).bind fun t380 => (graftwoodlaw18_LackBy.j0 k t369 bt374.1 bt374.2.1 bt374.2.2 (!t380) t372 t373)) else (graftwoodlaw18_LackBy.j0 k t369 bt374.1 bt374.2.1 bt374.2.2 true t372 t373)))) = some r := H
  have A4 := Aside0.mk A40
  clear A40
  replace H := Option.bind_eq_some_iff.mp H
  obtain ⟨⟨t374, t377, t378⟩, A50, H⟩ := H
  replace H : ((graftwoodref18_May.f k t369).bind fun t379 => (if t379 = true then ((graftwoodref05_May.f k t372 t373).bind fun t380 => (graftwoodlaw18_LackBy.j0 k t369 t374 t377 t378 (!t380) t372 t373)) else (graftwoodlaw18_LackBy.j0 k t369 t374 t377 t378 true t372 t373))) = some r := H
  have A5 := Aside0.mk A50
  clear A50
  have HC6 := Aside0.mk H
  clear H
  go_enter Tryz.func4, Tryz.ntmps4
  try go_wp2_with (first | ((with_reducible refine gate_dst (N := 3) rfl ?_); refine box_event ?hg (N := 3) ?hd (cs := #[.string a1_0, .string a1_1]) (t := 42) ?hr ?_; (case hd => rfl); (case hg => rfl); (case hr => first | (go_simp; done) | (go_simp; rfl)); intro gb368 hg w7 hbox hb; have n0_ := Aside0.mk (below_step (by repeat (first | (with_reducible first | exact HB.out | apply below_alloc | apply pw_below_drewN | apply below_drew1) | exact HB.out)) hb); have n1_ := Aside0.mk (hbox); have n2_ := Aside0.mk ((by rw [hg]; exact (below_size (by repeat (first | (with_reducible first | exact HB.out | apply below_alloc | apply pw_below_drewN | apply below_drew1) | exact HB.out))) : w.heap.size ≤ gb368)); have n3_ := Aside0.mk ((by rw [hg]; exact (below_size (by repeat (first | (with_reducible first | exact HB.out | apply below_alloc | apply pw_below_drewN | apply below_drew1) | exact HB.out))) : w.heap.size ≤ gb368)); clear HB; have HB := n0_; have BK368 := n1_; have GW368 := n2_; have GE368 := n3_; clear n0_ n1_ n2_ n3_; clear hb hbox hg))
  have n0_ := Aside0.mk (blk_drew BK368.out)
  have n1_ := Aside0.mk (below_drew1 HB.out)
  clear BK368
  clear HB
  have BK368 := n0_
  have HB := n1_
  clear n0_ n1_
  refine start_ (n := 6) (S := fun w' => w'.cell? ⟨gb368, 0, none⟩ = some (.string a1_0) ∧ w'.cell? ⟨gb368, 1, none⟩ = some (.string a1_1)) (ds := [5]) #[false, false, false, false, false, false] (by kernel_rfl) rfl rfl ⟨(blk_cell BK368.out 0).trans rfl, (blk_cell BK368.out 1).trans rfl⟩ (fun hHeld => ?_)
  generalize w7.drew = w8 at BK368 HB hHeld ⊢
  refine pure_ (i := 0) (N := some 10) (v := ?_) (a' := ?_) #[true, false, false, false, false, false] rfl rfl (by kernel_rfl) (fun _ _ _ h => h) (Or.inl ⟨by rfl, ?_⟩) ?_ ?_
  rotate_left
  · intro w'
    go_simp
    with_reducible rfl
  rotate_left
  · simp only [Act.put, List.setIfInBounds_toArray, List.set_cons_zero, List.set_cons_succ, i64_w, i32_w]
    rfl
  refine take_ (i := 2) (N := some 12) (v := ?_) (a' := ?_) #[true, false, true, false, false, false] rfl rfl (by kernel_rfl) (fun _ _ _ h => h) (Or.inl ⟨by rfl, ?_⟩) hHeld ?_ ?_
  rotate_left
  · rintro w' ⟨s0, s1⟩
    go_simp
    with_reducible rfl
  rotate_left
  · simp only [Act.put, List.setIfInBounds_toArray, List.set_cons_zero, List.set_cons_succ, i64_w, i32_w]
    rfl
  refine one_ (i := 1) (N := some 11) #[true, true, true, false, false, false] rfl rfl (by kernel_rfl) (by decide) (fun K hK => ?_)
  refine goes_ Tryz.func6 (by kernel_rfl) rfl #[.slice A0 l0.length c0] (by rfl) rfl rfl (by (try simp only [List.map_toArray, List.map_cons, List.map_nil]); first | done | rfl | (simp only [List.length_drop, List.length_take]; rfl)) ?_
  with_reducible refine (graftwoodlaw18_Few.calls k _ _ l0 t369 _ ?side1 ?side2 A3.out).mono ?_
  (case side1 => repeat (first | exact (Kd.C_below HR0.out HB.out) | (with_reducible refine Kd.C_alloc ?_ _) | (with_reducible refine Kd.C_drewN ?_ _) | (with_reducible refine Kd.C_drew ?_)))
  (case side2 => exact HC0.out)
  rintro e w9 ⟨v370, rfl, ho0, hb⟩
  refine ⟨_, rfl, ?_⟩
  have n0_ := Aside0.mk (Kd.R_lower ho0 (below_size (by repeat (first | (with_reducible first | exact HB.out | apply below_alloc | apply pw_below_drewN | apply below_drew1 | refine below_set ?_ GE368.out) | exact HB.out))))
  have n1_ := Aside0.mk (blk_below (g := gb368) (o := .cells #[.string a1_0, .string a1_1] 42 (0, 0)) (by (with_reducible repeat (first | refine blk_drewN ?_ _ | refine blk_drew ?_ | refine blk_alloc ?_ _)); exact BK368.out) hb)
  have n2_ := Aside0.mk (below_step (by repeat (first | (with_reducible first | exact HB.out | apply below_alloc | apply pw_below_drewN | apply below_drew1 | refine below_set ?_ GE368.out) | exact HB.out)) hb)
  clear BK368
  clear HB
  have HO371 := n0_
  have BK368 := n1_
  have HB := n2_
  clear n0_ n1_ n2_
  (try clear hb)
  (try clear hb2)
  (try clear hk)
  (try clear hi)
  (try clear ho0)
  refine hK.out _ _ ⟨(blk_cell BK368.out 0).trans rfl, (blk_cell BK368.out 1).trans rfl⟩ (fun hHeld => ?_)
  clear hK K
  refine norm_ (a' := ?_) ?_ ?_
  rotate_left
  · show Act.put _ (some 11) _ = _
    simp only [Act.put, List.setIfInBounds_toArray, List.set_cons_zero, List.set_cons_succ, i64_w, i32_w]
    rfl
  refine one_ (i := 3) (N := some 13) #[true, true, true, true, false, false] rfl rfl (by kernel_rfl) (by decide) (fun K hK => ?_)
  refine goes_ Tryz.func17 (by kernel_rfl) rfl #[.agg #[.string a1_0, .string a1_1]] (by rfl) rfl rfl (by (try simp only [List.map_toArray, List.map_cons, List.map_nil]); first | done | rfl | (simp only [List.length_drop, List.length_take]; rfl)) ?_
  with_reducible refine (graftwoodlaw05_One.calls a1_0 a1_1 t372 t373 _ A4.out).mono ?_
  rintro e w10 ⟨rfl, hb⟩
  refine ⟨_, rfl, ?_⟩
  have n0_ := Aside0.mk (Kd.R_below (by (with_reducible repeat (first | apply Kd.R_alloc | apply Kd.R_drewN | apply Kd.R_drew)); exact HO371.out) hb)
  have n1_ := Aside0.mk (blk_below (g := gb368) (o := .cells #[.string a1_0, .string a1_1] 42 (0, 0)) (by (with_reducible repeat (first | refine blk_drewN ?_ _ | refine blk_drew ?_ | refine blk_alloc ?_ _)); exact BK368.out) hb)
  have n2_ := Aside0.mk (below_step (by repeat (first | (with_reducible first | exact HB.out | apply below_alloc | apply pw_below_drewN | apply below_drew1 | refine below_set ?_ GE368.out) | exact HB.out)) hb)
  clear HO371
  clear BK368
  clear HB
  have HO371 := n0_
  have BK368 := n1_
  have HB := n2_
  clear n0_ n1_ n2_
  (try clear hb)
  (try clear hb2)
  (try clear hk)
  (try clear hi)
  refine hK.out _ _ ⟨(blk_cell BK368.out 0).trans rfl, (blk_cell BK368.out 1).trans rfl⟩ (fun hHeld => ?_)
  clear hK K
  refine norm_ (a' := ?_) ?_ ?_
  rotate_left
  · show Act.put _ (some 13) _ = _
    simp only [Act.put, List.setIfInBounds_toArray, List.set_cons_zero, List.set_cons_succ, i64_w, i32_w]
    rfl
  refine pure_ (i := 4) (N := some 0) (v := ?_) (a' := ?_) #[true, true, true, true, true, false] rfl rfl (by kernel_rfl) (fun _ _ _ h => h) (Or.inl ⟨by rfl, ?_⟩) ?_ ?_
  rotate_left
  · intro w'
    go_simp
    with_reducible rfl
  rotate_left
  · simp only [Act.put, List.setIfInBounds_toArray, List.set_cons_zero, List.set_cons_succ, i64_w, i32_w]
    rfl
  refine last_ (i := 5) (N := none) #[true, true, true, true, true, true] rfl rfl (by kernel_rfl) (by decide) (fun K hK => ?_)
  have hs11 : w10.cell? ⟨gb368, 0, none⟩ = some (.string a1_0) := (blk_cell BK368.out 0).trans rfl
  have hfs11 := blk_frozen BK368.out 0
  have hs12 : w10.cell? ⟨gb368, 1, none⟩ = some (.string a1_1) := (blk_cell BK368.out 1).trans rfl
  have hfs12 := blk_frozen BK368.out 1
  refine skip_ (w1 := ?_) (by rfl) rfl ?_ ?_
  rotate_left
  · go_simp
    rfl
  refine hK.out _ _ ?_
  clear hK K
  refine done_ (by kernel_rfl) ?_
  have hcz13_0 : w10.cell? ⟨gb368, 0, none⟩ = some (.string a1_0) := (blk_cell BK368.out 0).trans rfl
  have hcz13_1 : w10.cell? ⟨gb368, 1, none⟩ = some (.string a1_1) := (blk_cell BK368.out 1).trans rfl
  have hfz13_0 := blk_frozen BK368.out 0
  have hfz13_1 := blk_frozen BK368.out 1
  obtain ⟨Ao14, co14, eo14⟩ := Kd.R_slice HO371.out
  subst eo14
  go_upto_region 3 with (first | ((with_reducible refine gate_callee (f := 18) rfl ?_); refine goesL_ (some 17) rfl rfl Tryz.func18 (by kernel_rfl) rfl #[.slice Ao14 t369.length co14, .agg #[.string t372, .string t373]] rfl (by (try simp only [List.map_toArray, List.map_cons, List.map_nil]); first | done | rfl | (simp only [List.length_drop, List.length_take]; rfl)) ?_; (with_reducible refine (lack_By.calls k _ _ t369 t372 t373 t374 t377 t378 _ ?side1 ?side2 A5.out).mono ?_); (case side1 => refine (Kd.R_reads' (e := 51) (base := w.heap.size) (ok := fun k_ => True) (n := t369.length) (c := co14) ?_).2.2; exact (by (with_reducible repeat (first | apply Kd.R_alloc | apply Kd.R_drewN | apply Kd.R_drew)); exact (Kd.R_mono (Kd.R_far (p := ⟨gb368, 1, none⟩) (Kd.R_far (p := ⟨gb368, 0, none⟩) (Kd.R_types HO371.out BK368.out (by decide)) (fun _ hk => hk.2) (.string t372)) (fun _ hk => hk.2) (.string t373)) (fun _ h_ => h_.1)))); (case side2 => exact (Kd.R_reads' HO371.out).2.1); rintro e w15 ⟨v375, rfl, ho0, hb⟩; refine ⟨_, rfl, ?_⟩; have n0_ := Aside0.mk (Kd.R_below (by (with_reducible repeat (first | apply Kd.R_alloc | apply Kd.R_drewN | apply Kd.R_drew)); exact (Kd.R_mono (Kd.R_far (p := ⟨gb368, 1, none⟩) (Kd.R_far (p := ⟨gb368, 0, none⟩) (Kd.R_types HO371.out BK368.out (by decide)) (fun _ hk => hk.2) (.string t372)) (fun _ hk => hk.2) (.string t373)) (fun _ h_ => h_.1))) hb); have n1_ := Aside0.mk (Kd.R_lower (Kd.R_newB ho0 (g := gb368) (o := .cells #[.string t372, .string t373] 42 (0, 0)) (by (with_reducible repeat (first | refine blk_drewN ?_ _ | refine blk_drew ?_ | refine blk_alloc ?_ _)); refine blk_put (cs := #[.string t372, .string a1_1]) ?_ 1 _ rfl; (with_reducible repeat (first | refine blk_drewN ?_ _ | refine blk_drew ?_ | refine blk_alloc ?_ _)); refine blk_put (cs := #[.string a1_0, .string a1_1]) ?_ 0 _ rfl; (with_reducible repeat (first | refine blk_drewN ?_ _ | refine blk_drew ?_ | refine blk_alloc ?_ _)); exact BK368.out)) (below_size (by repeat (first | (with_reducible first | exact HB.out | apply below_alloc | apply pw_below_drewN | apply below_drew1 | refine below_set ?_ GE368.out) | exact HB.out)))); have n2_ := Aside0.mk (blk_below (g := gb368) (o := .cells #[.string t372, .string t373] 42 (0, 0)) (by (with_reducible repeat (first | refine blk_drewN ?_ _ | refine blk_drew ?_ | refine blk_alloc ?_ _)); refine blk_put (cs := #[.string t372, .string a1_1]) ?_ 1 _ rfl; (with_reducible repeat (first | refine blk_drewN ?_ _ | refine blk_drew ?_ | refine blk_alloc ?_ _)); refine blk_put (cs := #[.string a1_0, .string a1_1]) ?_ 0 _ rfl; (with_reducible repeat (first | refine blk_drewN ?_ _ | refine blk_drew ?_ | refine blk_alloc ?_ _)); exact BK368.out) hb); have n3_ := Aside0.mk (below_step (by repeat (first | (with_reducible first | exact HB.out | apply below_alloc | apply pw_below_drewN | apply below_drew1 | refine below_set ?_ GE368.out) | exact HB.out)) hb); clear HO371; clear BK368; clear HB; have HO371 := n0_; have HO376 := n1_; have BK368 := n2_; have HB := n3_; clear n0_ n1_ n2_ n3_; (try clear hb); (try clear hb2); (try clear hk); (try clear hi); (try clear ho0)))
  (try simp only [Act.put, List.setIfInBounds_toArray, List.set_cons_zero, List.set_cons_succ])
  go_cut [28] (fun v28 wc => ∃ (kq : Nat) (x28_5 : Bool), v28 = .bool x28_5 ∧ Aside0 (graftwoodlaw18_LackBy.j0 kq t369 t374 t377 t378 x28_5 t372 t373 = some r) ∧ Aside0 (kq ≤ k) ∧ Aside0 (Kd.R k51 51 wc w.heap.size (fun _ => True) (.slice Ao14 t369.length co14) t369) ∧ Aside0 (Kd.R k42 42 wc w.heap.size (fun k_ => k_ ≠ gb368) v375 t374) ∧ Aside0 (wc.heap[gb368]? = some (.cells #[.string t372, .string t373] 42 (0, 0))) ∧ Aside0 (Below w.heap.size w wc))
  case first =>
    have H := HC6.out
    clear HC6
    replace H := Option.bind_eq_some_iff.mp H
    obtain ⟨t379, A160, H⟩ := H
    replace H : (if t379 = true then ((graftwoodref05_May.f k t372 t373).bind fun t380 => (graftwoodlaw18_LackBy.j0 k t369 t374 t377 t378 (!t380) t372 t373)) else (graftwoodlaw18_LackBy.j0 k t369 t374 t377 t378 true t372 t373)) = some r := H
    have A16 := Aside0.mk A160
    clear A160
    by_cases c17 : t379 = true
    · subst c17
      have H1 : ((graftwoodref05_May.f k t372 t373).bind fun t380 => (graftwoodlaw18_LackBy.j0 k t369 t374 t377 t378 (!t380) t372 t373)) = some r := by rw [if_pos rfl] at H; exact H
      clear H
      have H := H1
      clear H1
      replace H := Option.bind_eq_some_iff.mp H
      obtain ⟨t380, A180, H⟩ := H
      replace H : (graftwoodlaw18_LackBy.j0 k t369 t374 t377 t378 (!t380) t372 t373) = some r := H
      have A18 := Aside0.mk A180
      clear A180
      have H' := Aside0.mk H
      clear H
      go_wp2_with (first | ((with_reducible refine gate_callee (f := 10) rfl ?_); refine goesL_ (some 22) rfl rfl Tryz.func10 (by kernel_rfl) rfl #[.slice Ao14 t369.length co14] rfl (by (try simp only [List.map_toArray, List.map_cons, List.map_nil]); first | done | rfl | (simp only [List.length_drop, List.length_take]; rfl)) ?_; (with_reducible refine (graftwoodref18_May.calls k _ _ t369 true _ ?side1 ?side2 A16.out).mono ?_); (case side1 => repeat (first | exact (Kd.R_reads' HO371.out).2.2 | (with_reducible refine Kd.C_alloc ?_ _) | (with_reducible refine Kd.C_drewN ?_ _) | (with_reducible refine Kd.C_drew ?_))); (case side2 => exact (Kd.R_reads' HO371.out).2.1); rintro e w19 ⟨rfl, hb⟩; refine ⟨_, rfl, ?_⟩; have n0_ := Aside0.mk (Kd.R_below (by (with_reducible repeat (first | apply Kd.R_alloc | apply Kd.R_drewN | apply Kd.R_drew)); exact HO371.out) hb); have n1_ := Aside0.mk (Kd.R_below (by (with_reducible repeat (first | apply Kd.R_alloc | apply Kd.R_drewN | apply Kd.R_drew)); exact HO376.out) hb); have n2_ := Aside0.mk (blk_below (g := gb368) (o := .cells #[.string t372, .string t373] 42 (0, 0)) (by (with_reducible repeat (first | refine blk_drewN ?_ _ | refine blk_drew ?_ | refine blk_alloc ?_ _)); exact BK368.out) hb); have n3_ := Aside0.mk (below_step (by repeat (first | (with_reducible first | exact HB.out | apply below_alloc | apply pw_below_drewN | apply below_drew1 | refine below_set ?_ GE368.out) | exact HB.out)) hb); clear HO371; clear HO376; clear BK368; clear HB; have HO371 := n0_; have HO376 := n1_; have BK368 := n2_; have HB := n3_; clear n0_ n1_ n2_ n3_; (try clear hb); (try clear hb2); (try clear hk); (try clear hi); have hcz20_0 : w19.cell? ⟨gb368, 0, none⟩ = some (.string t372) := (blk_cell BK368.out 0).trans rfl; have hcz20_1 : w19.cell? ⟨gb368, 1, none⟩ = some (.string t373) := (blk_cell BK368.out 1).trans rfl; have hfz20_0 := blk_frozen BK368.out 0; have hfz20_1 := blk_frozen BK368.out 1) | (go_at_call 19; (with_reducible refine (graftwoodref05_May.calls k t372 t373 t380 _ A18.out).mono ?_); rintro e w21 ⟨rfl, hb⟩; have n0_ := Aside0.mk (Kd.R_below (by (with_reducible repeat (first | apply Kd.R_alloc | apply Kd.R_drewN | apply Kd.R_drew)); exact HO371.out) hb); have n1_ := Aside0.mk (Kd.R_below (by (with_reducible repeat (first | apply Kd.R_alloc | apply Kd.R_drewN | apply Kd.R_drew)); exact HO376.out) hb); have n2_ := Aside0.mk (blk_below (g := gb368) (o := .cells #[.string t372, .string t373] 42 (0, 0)) (by (with_reducible repeat (first | refine blk_drewN ?_ _ | refine blk_drew ?_ | refine blk_alloc ?_ _)); exact BK368.out) hb); have n3_ := Aside0.mk (below_step (by repeat (first | (with_reducible first | exact HB.out | apply below_alloc | apply pw_below_drewN | apply below_drew1 | refine below_set ?_ GE368.out) | exact HB.out)) hb); clear HO371; clear HO376; clear BK368; clear HB; have HO371 := n0_; have HO376 := n1_; have BK368 := n2_; have HB := n3_; clear n0_ n1_ n2_ n3_; (try clear hb); (try clear hb2); (try clear hk); (try clear hi)))
      go_meet
      case rel => exact ⟨_, (!t380), (by first | rfl | (simp; done) | (simp [*]; done)), H', ⟨by first | omega | exact Nat.le_refl _⟩, ⟨by (with_reducible repeat (first | apply Kd.R_alloc | apply Kd.R_drewN | apply Kd.R_drew)); exact HO371.out⟩, ⟨by (with_reducible repeat (first | apply Kd.R_alloc | apply Kd.R_drewN | apply Kd.R_drew)); exact Kd.R_mono HO376.out (fun _ hk => hk.2)⟩, ⟨by (with_reducible repeat (first | refine blk_drewN ?_ _ | refine blk_drew ?_ | refine blk_alloc ?_ _)); exact BK368.out⟩, ⟨by repeat (first | (with_reducible first | exact HB.out | apply below_alloc | apply pw_below_drewN | apply below_drew1 | refine below_set ?_ GE368.out) | exact HB.out)⟩⟩
    · replace c17 := Bool.eq_false_iff.mpr c17
      subst c17
      have H1 : (graftwoodlaw18_LackBy.j0 k t369 t374 t377 t378 true t372 t373) = some r := by rw [if_neg (show ¬ (false = true) by decide)] at H; exact H
      clear H
      have H := H1
      clear H1
      have H' := Aside0.mk H
      clear H
      go_wp2_with (first | ((with_reducible refine gate_callee (f := 10) rfl ?_); refine goesL_ (some 22) rfl rfl Tryz.func10 (by kernel_rfl) rfl #[.slice Ao14 t369.length co14] rfl (by (try simp only [List.map_toArray, List.map_cons, List.map_nil]); first | done | rfl | (simp only [List.length_drop, List.length_take]; rfl)) ?_; (with_reducible refine (graftwoodref18_May.calls k _ _ t369 false _ ?side1 ?side2 A16.out).mono ?_); (case side1 => repeat (first | exact (Kd.R_reads' HO371.out).2.2 | (with_reducible refine Kd.C_alloc ?_ _) | (with_reducible refine Kd.C_drewN ?_ _) | (with_reducible refine Kd.C_drew ?_))); (case side2 => exact (Kd.R_reads' HO371.out).2.1); rintro e w22 ⟨rfl, hb⟩; refine ⟨_, rfl, ?_⟩; have n0_ := Aside0.mk (Kd.R_below (by (with_reducible repeat (first | apply Kd.R_alloc | apply Kd.R_drewN | apply Kd.R_drew)); exact HO371.out) hb); have n1_ := Aside0.mk (Kd.R_below (by (with_reducible repeat (first | apply Kd.R_alloc | apply Kd.R_drewN | apply Kd.R_drew)); exact HO376.out) hb); have n2_ := Aside0.mk (blk_below (g := gb368) (o := .cells #[.string t372, .string t373] 42 (0, 0)) (by (with_reducible repeat (first | refine blk_drewN ?_ _ | refine blk_drew ?_ | refine blk_alloc ?_ _)); exact BK368.out) hb); have n3_ := Aside0.mk (below_step (by repeat (first | (with_reducible first | exact HB.out | apply below_alloc | apply pw_below_drewN | apply below_drew1 | refine below_set ?_ GE368.out) | exact HB.out)) hb); clear HO371; clear HO376; clear BK368; clear HB; have HO371 := n0_; have HO376 := n1_; have BK368 := n2_; have HB := n3_; clear n0_ n1_ n2_ n3_; (try clear hb); (try clear hb2); (try clear hk); (try clear hi)))
      go_meet
      case rel => exact ⟨_, (true), (by first | rfl | (simp; done) | (simp [*]; done)), H', ⟨by first | omega | exact Nat.le_refl _⟩, ⟨by (with_reducible repeat (first | apply Kd.R_alloc | apply Kd.R_drewN | apply Kd.R_drew)); exact HO371.out⟩, ⟨by (with_reducible repeat (first | apply Kd.R_alloc | apply Kd.R_drewN | apply Kd.R_drew)); exact Kd.R_mono HO376.out (fun _ hk => hk.2)⟩, ⟨by (with_reducible repeat (first | refine blk_drewN ?_ _ | refine blk_drew ?_ | refine blk_alloc ?_ _)); exact BK368.out⟩, ⟨by repeat (first | (with_reducible first | exact HB.out | apply below_alloc | apply pw_below_drewN | apply below_drew1 | refine below_set ?_ GE368.out) | exact HB.out)⟩⟩
  case rest =>
    clear HC6
    try clear c1
    try clear p2
    try clear c4
    try clear c6
    try clear c10
    try clear c17
    try clear c18
    try clear hcz13_0
    try clear hcz13_1
    try clear hcz20_0
    try clear hcz20_1
    try clear hfz13_0
    try clear hfz13_1
    try clear hfz20_0
    try clear hfz20_1
    obtain ⟨kq, x28_5, rfl, HA, HJ5, HO_0, HO_5, BK368, HB⟩ := hcut
    cases kq with
    | zero => exact absurd HA.out (by simp [graftwoodlaw18_LackBy.j0])
    | succ kj5 =>
      have H := HA.out
      clear HA
      simp only [graftwoodlaw18_LackBy.j0] at H
      by_cases c23 : x28_5 = true
      · subst c23
        have H1 : (if (t374.length : Int) = 0 then (if t377 = true then (some false) else (if t378 = 1 then ((graftwoodlaw18_awake.f).bind fun t381 => (some t381)) else (some false))) else (some false)) = some r := by rw [if_pos rfl] at H; exact H
        clear H
        have H := H1
        clear H1
        by_cases c24 : (t374.length : Int) = 0
        · rw [if_pos c24] at H
          have c24b0 : ((t374.length : Int) == 0) = true := beq_iff_eq.mpr c24
          have c24b1 : ((t374.length : Int) != 0) = false := bne_eq_false_iff_eq.mpr c24
          clear c24
          by_cases c25 : t377 = true
          · subst c25
            have H1 : (some false) = some r := by rw [if_pos rfl] at H; exact H
            clear H
            have H := H1
            clear H1
            exact absurd ((Option.some.inj H).trans HR_.out) (by decide)
          · replace c25 := Bool.eq_false_iff.mpr c25
            subst c25
            have H1 : (if t378 = 1 then ((graftwoodlaw18_awake.f).bind fun t381 => (some t381)) else (some false)) = some r := by rw [if_neg (show ¬ (false = true) by decide)] at H; exact H
            clear H
            have H := H1
            clear H1
            by_cases c26 : t378 = 1
            · rw [if_pos c26] at H
              have c26b0 : (t378 == 1) = true := beq_iff_eq.mpr c26
              have c26b1 : (t378 != 1) = false := bne_eq_false_iff_eq.mpr c26
              clear c26
              replace H := Option.bind_eq_some_iff.mp H
              obtain ⟨t381, A270, H⟩ := H
              replace H : (some t381) = some r := H
              have A27 := Aside0.mk A270
              clear A270
              obtain rfl := Option.some.inj H
              obtain ⟨Ao28, co28, eo28⟩ := Kd.R_slice HO_5.out
              subst eo28
              go_wp2_with (first | (go_at_call 12; (with_reducible refine (graftwoodlaw18_awake.calls  t381 _ A27.out HR_).mono ?_); rintro e w29 ⟨rfl, hb⟩; have n0_ := Aside0.mk (Kd.R_below (by (with_reducible repeat (first | apply Kd.R_alloc | apply Kd.R_drewN | apply Kd.R_drew)); exact HO_0.out) hb); have n1_ := Aside0.mk (Kd.R_below (by (with_reducible repeat (first | apply Kd.R_alloc | apply Kd.R_drewN | apply Kd.R_drew)); exact HO_5.out) hb); have n2_ := Aside0.mk (blk_below (g := gb368) (o := .cells #[.string t372, .string t373] 42 (0, 0)) (by (with_reducible repeat (first | refine blk_drewN ?_ _ | refine blk_drew ?_ | refine blk_alloc ?_ _)); exact BK368.out) hb); have n3_ := Aside0.mk (below_step (by repeat (first | (with_reducible first | exact HB.out | apply below_alloc | apply pw_below_drewN | apply below_drew1 | refine below_set ?_ GE368.out) | exact HB.out)) hb); clear HO_0; clear HO_5; clear BK368; clear HB; have HO_0 := n0_; have HO_5 := n1_; have BK368 := n2_; have HB := n3_; clear n0_ n1_ n2_ n3_; (try clear hb); (try clear hb2); (try clear hk); (try clear hi)))
              go_ret
              exact ⟨by first | rfl | (simp [errW_none, errW_some] <;> rfl) | (simp [*, errW_none, errW_some] <;> rfl), by repeat (first | (with_reducible first | exact HB.out | apply below_alloc | apply pw_below_drewN | apply below_drew1 | refine below_set ?_ GE368.out) | exact HB.out)⟩
            · rw [if_neg c26] at H
              have c26b0 : (t378 == 1) = false := beq_eq_false_iff_ne.mpr c26
              have c26b1 : (t378 != 1) = true := bne_iff_ne.mpr c26
              exact absurd ((Option.some.inj H).trans HR_.out) (by decide)
        · rw [if_neg c24] at H
          have c24b0 : ((t374.length : Int) == 0) = false := beq_eq_false_iff_ne.mpr c24
          have c24b1 : ((t374.length : Int) != 0) = true := bne_iff_ne.mpr c24
          have c24b2 : ¬ (t374 = []) := fun h_ => c24 (by rw [h_]; rfl)
          exact absurd ((Option.some.inj H).trans HR_.out) (by decide)
      · replace c23 := Bool.eq_false_iff.mpr c23
        subst c23
        have H1 : ((graftwoodref18_By.f kj5 t369 t372 t373).bind fun bt382 => ((graftwoodref05_Same.f kj5 t374 bt382.1).bind fun t386 => (if t386 = true then (if (t377 == bt382.2) = true then (if t378 = 0 then ((graftwoodlaw18_awake.f).bind fun t387 => (some t387)) else (some false)) else (some false)) else (some false)))) = some r := by rw [if_neg (show ¬ (false = true) by decide)] at H; exact H
        clear H
        have H := H1
        clear H1
        replace H := Option.bind_eq_some_iff.mp H
        obtain ⟨⟨t382, t385⟩, A300, H⟩ := H
        replace H : ((graftwoodref05_Same.f kj5 t374 t382).bind fun t386 => (if t386 = true then (if (t377 == t385) = true then (if t378 = 0 then ((graftwoodlaw18_awake.f).bind fun t387 => (some t387)) else (some false)) else (some false)) else (some false))) = some r := H
        have A30 := Aside0.mk A300
        clear A300
        replace H := Option.bind_eq_some_iff.mp H
        obtain ⟨t386, A310, H⟩ := H
        replace H : (if t386 = true then (if (t377 == t385) = true then (if t378 = 0 then ((graftwoodlaw18_awake.f).bind fun t387 => (some t387)) else (some false)) else (some false)) else (some false)) = some r := H
        have A31 := Aside0.mk A310
        clear A310
        by_cases c32 : t386 = true
        · subst c32
          have H1 : (if (t377 == t385) = true then (if t378 = 0 then ((graftwoodlaw18_awake.f).bind fun t387 => (some t387)) else (some false)) else (some false)) = some r := by rw [if_pos rfl] at H; exact H
          clear H
          have H := H1
          clear H1
          by_cases c33 : (t377 == t385) = true
          · rw [if_pos c33] at H
            have c33b0 : (t377 == t385) = true := c33
            (try (have c33b1 : decide (t377 = t385) = true := by simpa using c33))
            (try (have c33b2 : (t377 == t385) = true := by simpa using c33))
            clear c33
            by_cases c34 : t378 = 0
            · rw [if_pos c34] at H
              have c34b0 : (t378 == 0) = true := beq_iff_eq.mpr c34
              have c34b1 : (t378 != 0) = false := bne_eq_false_iff_eq.mpr c34
              clear c34
              replace H := Option.bind_eq_some_iff.mp H
              obtain ⟨t387, A350, H⟩ := H
              replace H : (some t387) = some r := H
              have A35 := Aside0.mk A350
              clear A350
              obtain rfl := Option.some.inj H
              have hcz36_0 : wc.cell? ⟨gb368, 0, none⟩ = some (.string t372) := (blk_cell BK368.out 0).trans rfl
              have hcz36_1 : wc.cell? ⟨gb368, 1, none⟩ = some (.string t373) := (blk_cell BK368.out 1).trans rfl
              have hfz36_0 := blk_frozen BK368.out 0
              have hfz36_1 := blk_frozen BK368.out 1
              go_wp2_with (first | ((with_reducible refine gate_callee (f := 20) rfl ?_); refine goesL_ (some 46) rfl rfl Tryz.func20 (by kernel_rfl) rfl #[.slice Ao14 t369.length co14, .agg #[.string t372, .string t373]] rfl (by (try simp only [List.map_toArray, List.map_cons, List.map_nil]); first | done | rfl | (simp only [List.length_drop, List.length_take]; rfl)) ?_; (with_reducible refine (graftwoodref18_By.calls kj5 _ _ t369 t372 t373 t382 t385 _ ?side1 ?side2 A30.out).mono ?_); (case side1 => repeat (first | exact (Kd.R_reads' HO_0.out).2.2 | (with_reducible refine Kd.C_alloc ?_ _) | (with_reducible refine Kd.C_drewN ?_ _) | (with_reducible refine Kd.C_drew ?_))); (case side2 => exact (Kd.R_reads' HO_0.out).2.1); rintro e w37 ⟨v383, rfl, ho0, hb⟩; refine ⟨_, rfl, ?_⟩; have n0_ := Aside0.mk (Kd.R_below (by (with_reducible repeat (first | apply Kd.R_alloc | apply Kd.R_drewN | apply Kd.R_drew)); exact HO_0.out) hb); have n1_ := Aside0.mk (Kd.R_elder' (by (with_reducible repeat (first | apply Kd.R_alloc | apply Kd.R_drewN | apply Kd.R_drew)); exact HO_5.out) (Kd.R_base ho0) hb); have n2_ := Aside0.mk (Kd.R_lower (Kd.R_newB (Kd.R_new' ho0 (Kd.R_lt (by (with_reducible repeat (first | apply Kd.R_alloc | apply Kd.R_drewN | apply Kd.R_drew)); exact HO_5.out))) (g := gb368) (o := .cells #[.string t372, .string t373] 42 (0, 0)) (by (with_reducible repeat (first | refine blk_drewN ?_ _ | refine blk_drew ?_ | refine blk_alloc ?_ _)); exact BK368.out)) (below_size (by repeat (first | (with_reducible first | exact HB.out | apply below_alloc | apply pw_below_drewN | apply below_drew1 | refine below_set ?_ GE368.out) | exact HB.out)))); have n3_ := Aside0.mk (blk_below (g := gb368) (o := .cells #[.string t372, .string t373] 42 (0, 0)) (by (with_reducible repeat (first | refine blk_drewN ?_ _ | refine blk_drew ?_ | refine blk_alloc ?_ _)); exact BK368.out) hb); have n4_ := Aside0.mk (below_step (by repeat (first | (with_reducible first | exact HB.out | apply below_alloc | apply pw_below_drewN | apply below_drew1 | refine below_set ?_ GE368.out) | exact HB.out)) hb); clear HO_0; clear HO_5; clear BK368; clear HB; have HO_0 := n0_; have HO_5 := n1_; have HO384 := n2_; have BK368 := n3_; have HB := n4_; clear n0_ n1_ n2_ n3_ n4_; (try clear hb); (try clear hb2); (try clear hk); (try clear hi); (try clear ho0); obtain ⟨Ao38, co38, eo38⟩ := Kd.R_slice HO_5.out; subst eo38; obtain ⟨Ao39, co39, eo39⟩ := Kd.R_slice HO384.out; subst eo39) | ((with_reducible refine gate_callee (f := 13) rfl ?_); refine goesL_ (some 51) rfl rfl Tryz.func13 (by kernel_rfl) rfl #[.slice Ao38 t374.length co38, .slice Ao39 t382.length co39] rfl (by (try simp only [List.map_toArray, List.map_cons, List.map_nil]); first | done | rfl | (simp only [List.length_drop, List.length_take]; rfl)) ?_; (with_reducible refine (graftwoodref05_Same.calls kj5 _ _ t374 _ _ t382 true _ ?side1 ?side2 ?side3 ?side4 A31.out).mono ?_); (case side1 => repeat (first | exact (Kd.R_reads' HO_5.out).2.2 | (with_reducible refine Kd.C_alloc ?_ _) | (with_reducible refine Kd.C_drewN ?_ _) | (with_reducible refine Kd.C_drew ?_))); (case side2 => exact (Kd.R_reads' HO_5.out).2.1); (case side3 => repeat (first | exact (Kd.R_reads' HO384.out).2.2 | (with_reducible refine Kd.C_alloc ?_ _) | (with_reducible refine Kd.C_drewN ?_ _) | (with_reducible refine Kd.C_drew ?_))); (case side4 => exact (Kd.R_reads' HO384.out).2.1); rintro e w' ⟨rfl, ⟨nd, rfl⟩⟩; refine ⟨_, rfl, ?_⟩) | (go_at_call 12; (with_reducible refine (graftwoodlaw18_awake.calls  t387 _ A35.out HR_).mono ?_); rintro e w40 ⟨rfl, hb⟩; have n0_ := Aside0.mk (Kd.R_below (by (with_reducible repeat (first | apply Kd.R_alloc | apply Kd.R_drewN | apply Kd.R_drew)); exact HO_0.out) hb); have n1_ := Aside0.mk (Kd.R_below (by (with_reducible repeat (first | apply Kd.R_alloc | apply Kd.R_drewN | apply Kd.R_drew)); exact HO_5.out) hb); have n2_ := Aside0.mk (Kd.R_below (by (with_reducible repeat (first | apply Kd.R_alloc | apply Kd.R_drewN | apply Kd.R_drew)); exact HO384.out) hb); have n3_ := Aside0.mk (blk_below (g := gb368) (o := .cells #[.string t372, .string t373] 42 (0, 0)) (by (with_reducible repeat (first | refine blk_drewN ?_ _ | refine blk_drew ?_ | refine blk_alloc ?_ _)); exact BK368.out) hb); have n4_ := Aside0.mk (below_step (by repeat (first | (with_reducible first | exact HB.out | apply below_alloc | apply pw_below_drewN | apply below_drew1 | refine below_set ?_ GE368.out) | exact HB.out)) hb); clear HO_0; clear HO_5; clear HO384; clear BK368; clear HB; have HO_0 := n0_; have HO_5 := n1_; have HO384 := n2_; have BK368 := n3_; have HB := n4_; clear n0_ n1_ n2_ n3_ n4_; (try clear hb); (try clear hb2); (try clear hk); (try clear hi)))
              go_ret
              exact ⟨by first | rfl | (simp [errW_none, errW_some] <;> rfl) | (simp [*, errW_none, errW_some] <;> rfl), by repeat (first | (with_reducible first | exact HB.out | apply below_alloc | apply pw_below_drewN | apply below_drew1 | refine below_set ?_ GE368.out) | exact HB.out)⟩
            · rw [if_neg c34] at H
              have c34b0 : (t378 == 0) = false := beq_eq_false_iff_ne.mpr c34
              have c34b1 : (t378 != 0) = true := bne_iff_ne.mpr c34
              exact absurd ((Option.some.inj H).trans HR_.out) (by decide)
          · rw [if_neg c33] at H
            have c33b0 : (t377 == t385) = false := by simpa using c33
            (try (have c33b1 : decide (t377 = t385) = false := by simpa using c33))
            (try (have c33b2 : (t377 == t385) = false := by simpa using c33))
            (try (have c33b3 : ¬ (t377 = t385) := by simpa using c33))
            clear c33
            exact absurd ((Option.some.inj H).trans HR_.out) (by decide)
        · replace c32 := Bool.eq_false_iff.mpr c32
          subst c32
          have H1 : (some false) = some r := by rw [if_neg (show ¬ (false = true) by decide)] at H; exact H
          clear H
          have H := H1
          clear H1
          exact absurd ((Option.some.inj H).trans HR_.out) (by decide)
end Go.Proofs.YtffcbfclpfchnaaGreatDoor.Q
end

section
namespace Go.Proofs.YtffcbfclpfchnaaGreatDoor.Q
open Go.Proofs.YtffcbfclpfchnaaGreatDoor.QB.D
open Go Go.RowKit Go.Lib Go.Proofs.YtffcbfclpfchnaaGreatDoorW.PrintWords Go.Proofs.YtffcbfclpfchnaaGreatDoorW.PrintLast Go.Proofs.YtffcbfclpfchnaaGreatDoorW.PrintMore Gw
set_option linter.unusedVariables false
set_option linter.unusedSimpArgs false
theorem rwith_l1 (l : List S42) (t : S42) (hl : l.length ≤ 2147483648) (hb : ∀ x ∈ l, Brief x) (hg : ∀ x ∈ l, GoodN x) (bt : Brief t) (gt : GoodN t) : ∀ (n i k : Nat) (acc : List S42), l.length ≤ i + n → i ≤ l.length → n + 1000 ≤ k → acc.length ≤ 4294967296 + i →
    graftwoodref05_With.l1 k l acc (i : Int) t.f0 t.f1 = some (acc ++ (l.drop i).filter (fun x => decide (ordN t x < 0))) := by
  intro n
  induction n with
  | zero =>
    intro i k acc h1 h2 hk ha
    obtain ⟨j, rfl⟩ : ∃ j, k = j + 1 := ⟨k - 1, by omega⟩
    simp only [graftwoodref05_With.l1]
    rw [if_neg (by omega), List.drop_of_length_le (by omega)]
    simp
  | succ n ih =>
    intro i k acc h1 h2 hk ha
    obtain ⟨j, rfl⟩ : ∃ j, k = j + 1 := ⟨k - 1, by omega⟩
    by_cases hi : i < l.length
    · have hm := List.getElem_mem hi
      have hwr : wrap64 ((i : Int) + 1) = ((i + 1 : Nat) : Int) := by unfold wrap64; omega
      simp only [graftwoodref05_With.l1]
      rw [if_pos (by omega), if_pos (by omega), rd_nat hi, less_val j t l[i] bt (hb _ hm) gt (hg _ hm) (by omega), List.drop_eq_getElem_cons hi, hwr]
      simp only [Option.bind_some]
      by_cases ho : ordN t l[i] < 0
      · rw [decide_eq_true ho, if_pos rfl, if_pos (by omega), List.filter_cons_of_pos (by simp [ho]), ih (i + 1) j _ (by omega) (by omega) (by omega) (by simp; omega)]
        simp
      · rw [decide_eq_false ho, if_neg (by decide), List.filter_cons_of_neg (by simp [ho]), ih (i + 1) j _ (by omega) (by omega) (by omega) (by omega)]
    · exact ih i (j + 1) acc (by omega) h2 (by omega) ha
theorem rwith_l0 (l : List S42) (t : S42) (hl : l.length ≤ 2147483648) (hb : ∀ x ∈ l, Brief x) (hg : ∀ x ∈ l, GoodN x) (bt : Brief t) (gt : GoodN t) : ∀ (n i k : Nat) (acc : List S42), l.length ≤ i + n → i ≤ l.length → n + l.length + 1001 ≤ k → acc.length ≤ i →
    graftwoodref05_With.l0 k l acc (i : Int) t.f0 t.f1 = some (acc ++ (l.drop i).filter (fun x => decide (ordN x t < 0)) ++ [t] ++ l.filter (fun x => decide (ordN t x < 0))) := by
  intro n
  induction n with
  | zero =>
    intro i k acc h1 h2 hk ha
    obtain ⟨j, rfl⟩ : ∃ j, k = j + 1 := ⟨k - 1, by omega⟩
    have h9 := rwith_l1 l t hl hb hg bt gt l.length 0 j (acc ++ [t]) (by omega) (Nat.zero_le _) (by omega) (by simp; omega)
    simp only [graftwoodref05_With.l0]
    rw [if_neg (by omega), if_pos (by omega), List.drop_of_length_le (by omega)]
    refine h9.trans ?_
    simp
  | succ n ih =>
    intro i k acc h1 h2 hk ha
    obtain ⟨j, rfl⟩ : ∃ j, k = j + 1 := ⟨k - 1, by omega⟩
    by_cases hi : i < l.length
    · have hm := List.getElem_mem hi
      have hwr : wrap64 ((i : Int) + 1) = ((i + 1 : Nat) : Int) := by unfold wrap64; omega
      simp only [graftwoodref05_With.l0]
      rw [if_pos (by omega), if_pos (by omega), rd_nat hi, less_val j l[i] t (hb _ hm) bt (hg _ hm) gt (by omega), List.drop_eq_getElem_cons hi, hwr]
      simp only [Option.bind_some]
      by_cases ho : ordN l[i] t < 0
      · rw [decide_eq_true ho, if_pos rfl, if_pos (by omega), List.filter_cons_of_pos (by simp [ho]), ih (i + 1) j _ (by omega) (by omega) (by omega) (by simp; omega)]
        simp
      · rw [decide_eq_false ho, if_neg (by decide), List.filter_cons_of_neg (by simp [ho]), ih (i + 1) j _ (by omega) (by omega) (by omega) (by omega)]
    · exact ih i (j + 1) acc (by omega) h2 (by omega) ha
theorem rwith_val (l : List S42) (t : S42) (hl : l.length ≤ 2147483648) (hb : ∀ x ∈ l, Brief x) (hg : ∀ x ∈ l, GoodN x) (bt : Brief t) (gt : GoodN t) (k : Nat) (hk : 2 * l.length + 1001 ≤ k) :
    graftwoodref05_With.f k l t.f0 t.f1 = some (rwithN l t) := by
  have h := rwith_l0 l t hl hb hg bt gt l.length 0 k [] (by omega) (Nat.zero_le _) (by omega) (Nat.le_refl _)
  rw [List.drop_zero] at h
  exact h
theorem filter_two {α : Type} (p q : α → Bool) : ∀ (l : List α), (∀ x ∈ l, ¬ (p x = true ∧ q x = true)) → (l.filter p).length + (l.filter q).length ≤ l.length
  | [], _ => by simp
  | x :: r, h => by
    have ih := filter_two p q r (fun y hy => h y (List.mem_cons_of_mem _ hy))
    have hx := h x List.mem_cons_self
    simp only [List.filter_cons, List.length_cons]
    cases hp : p x <;> cases hq : q x <;> simp_all <;> omega
theorem rwithN_len {l : List S42} {t : S42} (hg : ∀ x ∈ l, GoodN x) (gt : GoodN t) : (rwithN l t).length ≤ l.length + 1 := by
  have h := filter_two (fun x => decide (ordN x t < 0)) (fun x => decide (ordN t x < 0)) l (fun x hx h => by
    have h1 : ordN x t < 0 := of_decide_eq_true h.1
    have h2 : ordN t x < 0 := of_decide_eq_true h.2
    have := ordN_to.sym x t (hg x hx) gt
    omega)
  unfold rwithN
  simp only [List.length_append, List.length_cons, List.length_nil]
  omega
theorem setN_len (m : List S42) : (setN m).length ≤ m.length := by
  unfold setN
  rw [(sortN_perm _).length_eq]
  have h1 := ded_len m m.length (Nat.le_refl _)
  rwa [List.take_length] at h1
theorem rsetN_snoc (m : List S42) (x : S42) : rsetN (m ++ [x]) = rwithN (rsetN m) x := by
  unfold rsetN
  rw [List.foldl_append]
  rfl
theorem rby_l0 (l : List S51) (hl : l.length ≤ 65536) (hb : ∀ e ∈ l, Brief e.f0 ∧ Brief e.f1) (hok : okE l = true) (n : S42) : ∀ (r i k : Nat), i + r = l.length → r + 2 * l.length + 1010 ≤ k →
    graftwoodref18_By.l0 k l (rsetN (needF (l.take i) n)) (rootF (l.take i) n) (i : Int) n.f0 n.f1 = some (byF l n, rootF l n) := by
  have hmem : ∀ (i : Nat) (x : S42), x ∈ needF (l.take i) n → Brief x ∧ mayN x = true := fun i x hx => by
    have h := mem_need.1 hx
    have h2 := List.mem_of_mem_take h.2
    exact ⟨(hb _ h2).1, ((okBy_each hok h2).2).resolve_left h.1⟩
  have hset : ∀ i, rsetN (needF (l.take i) n) = setN (needF (l.take i) n) := fun i => (setN_ref (fun x hx => (hmem i x hx).1.tiny) (fun x hx => (hmem i x hx).2)).symm
  intro r
  induction r with
  | zero =>
    intro i k hi hk
    obtain ⟨j, rfl⟩ : ∃ j, k = j + 1 := ⟨k - 1, by omega⟩
    simp only [graftwoodref18_By.l0]
    rw [if_neg (by omega), hset i, List.take_of_length_le (by omega)]
    rfl
  | succ r ih =>
    intro i k hi hk
    obtain ⟨j, rfl⟩ : ∃ j, k = j + 1 := ⟨k - 1, by omega⟩
    have hil : i < l.length := by omega
    have hwr : wrap64 ((i : Int) + 1) = ((i + 1 : Nat) : Int) := by unfold wrap64; omega
    have hneq : (!(l[i].f1.f0.toList == n.f0.toList) || !(l[i].f1.f1.toList == n.f1.toList)) = !decide (l[i].f1 = n) := by rw [← node_eqb, Bool.not_and]
    have h1 : needF (l.take (i + 1)) n = if (decide (l[i].f1 = n) && !decide (l[i].f0 = z42)) = true then needF (l.take i) n ++ [l[i].f0] else needF (l.take i) n := by
      unfold needF
      rw [List.take_succ_eq_append_getElem hil, List.filter_append, List.map_append]
      split
      · rename_i e; rw [List.filter_cons_of_pos (by exact e)]; rfl
      · rename_i e; rw [List.filter_cons_of_neg (by exact e)]; simp
    have h2 : rootF (l.take (i + 1)) n = (rootF (l.take i) n || (decide (l[i].f1 = n) && decide (l[i].f0 = z42))) := by
      unfold rootF
      rw [List.take_succ_eq_append_getElem hil, List.any_append]
      simp
    have h9 := ih (i + 1) j (by omega) (by omega)
    rw [h1, h2] at h9
    simp only [graftwoodref18_By.l0]
    rw [if_pos (by omega), if_pos (by omega), rd_needs hil, hneq, node_eqr, hwr]
    by_cases e1 : l[i].f1 = n
    · rw [decide_eq_true e1] at h9 ⊢
      rw [if_neg (by decide)]
      by_cases e0 : l[i].f0 = z42
      · rw [decide_eq_true e0] at h9 ⊢
        rw [if_pos rfl]
        simpa using h9
      · have hx : l[i].f0 ∈ needF (l.take (i + 1)) n := by
          rw [h1, decide_eq_true e1, decide_eq_false e0, if_pos (by rfl)]
          exact List.mem_append_right _ List.mem_cons_self
        have hxb := hmem (i + 1) _ hx
        have hsl : (rsetN (needF (l.take i) n)).length ≤ l.length := by
          rw [hset i]
          refine Nat.le_trans (setN_len _) (Nat.le_trans (need_len _ _) ?_)
          rw [List.length_take]; omega
        have hsm : ∀ x ∈ rsetN (needF (l.take i) n), Brief x ∧ mayN x = true := fun x hx => by
          rw [hset i] at hx
          exact hmem i x ((mem_setN _ x).1 hx)
        rw [decide_eq_false e0] at h9 ⊢
        rw [if_neg (by decide), rwith_val _ l[i].f0 (by omega) (fun x hx => (hsm x hx).1) (fun x hx => mayN_good (hsm x hx).1.tiny (hsm x hx).2) hxb.1 (mayN_good hxb.1.tiny hxb.2) j (by omega)]
        simp only [Option.bind_some]
        rw [if_pos (by rfl), rsetN_snoc] at h9
        simpa using h9
    · rw [decide_eq_false e1] at h9 ⊢
      rw [if_pos (by rfl)]
      simpa using h9
theorem rby_val (l : List S51) (hl : l.length ≤ 65536) (hb : ∀ e ∈ l, Brief e.f0 ∧ Brief e.f1) (hok : okE l = true) (n : S42) (k : Nat) (hk : 3 * l.length + 1010 ≤ k) : graftwoodref18_By.f k l n.f0 n.f1 = some (byF l n, rootF l n) :=
  rby_l0 l hl hb hok n l.length 0 k (by omega) (by omega)
theorem lackBy_true (l : List S51) (n0 n1 : ByteArray) : graftwoodlaw18_LackBy.f 5001 l n0 n1 = some true := by
  unfold graftwoodlaw18_LackBy.f
  rw [fewE_val l _ (by omega), One_val]
  simp only [Option.bind_some]
  have hl := fewE_len l
  have fl := fewE_brief l
  have fn : Brief (⟨few n0, few n1⟩ : S42) := oneN_brief ⟨n0, n1⟩
  generalize fewE l = m at *
  obtain ⟨n, hn⟩ : ∃ n : S42, n = ⟨few n0, few n1⟩ := ⟨_, rfl⟩
  rw [← hn] at fn
  rw [show few n0 = n.f0 by rw [hn], show few n1 = n.f1 by rw [hn]]
  clear hn
  rw [by_val m (by omega) fl n fn 5001 (by omega), ref18May_val m (by omega) fl 5001 (by omega), ref5May_val 5001 n fn (by omega)]
  simp only [Option.bind_some]
  have e : (5001 : Nat) = 5000 + 1 := rfl
  cases hok : okE m with
  | false =>
    rw [if_neg (by decide), if_neg (fun h => by cases h.1), e]
    simp only [graftwoodlaw18_LackBy.j0]
    rw [if_pos trivial, if_pos (by rfl), if_neg (by decide), if_pos trivial, awake18_val]
    rfl
  | true =>
    rw [if_pos rfl]
    cases hmn : mayN n with
    | false =>
      rw [if_neg (fun h => by cases h.2), e]
      simp only [graftwoodlaw18_LackBy.j0]
      rw [if_pos (by rfl), if_pos (by rfl), if_neg (by decide), if_pos trivial, awake18_val]
      rfl
    | true =>
      have hbl := by_len m n
      have hs := same_val (byF m n) (byF m n) (by omega) 5000 (by omega)
      rw [decide_eq_true rfl] at hs
      rw [if_pos ⟨rfl, rfl⟩, e]
      simp only [graftwoodlaw18_LackBy.j0]
      rw [if_neg (by decide), rby_val m (by omega) fl hok n 5000 (by omega)]
      simp only [Option.bind_some]
      rw [hs]
      simp only [Option.bind_some]
      rw [if_pos trivial, if_pos (by simp), if_pos trivial, awake18_val]
      rfl
end Go.Proofs.YtffcbfclpfchnaaGreatDoor.Q
end
