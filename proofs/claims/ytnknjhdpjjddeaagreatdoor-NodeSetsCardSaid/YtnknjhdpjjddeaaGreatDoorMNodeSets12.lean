/- Part 12 of this claim: several texts one behind the other: Fgraftwoodlaw05NodeSets. What each shows stands in its theorems; conditions: sizes of texts and lists, as the functions' definitions say. -/
import Derived.Test.YtnknjhdpjjddeaaGreatDoorMNodeSets0
import Derived.Test.YtnknjhdpjjddeaaGreatDoorMNodeSets8
import Derived.Test.YtnknjhdpjjddeaaGreatDoorMNodeSets10
import Derived.Test.YtnknjhdpjjddeaaGreatDoorMNodeSets2
import Derived.Test.YtnknjhdpjjddeaaGreatDoorMNodeSets9
import Derived.Test.YtnknjhdpjjddeaaGreatDoorMNodeSets11
import Derived.Test.YtnknjhdpjjddeaaGreatDoorMNodeSets5
import Derived.Test.YtnknjhdpjjddeaaGreatDoorMNodeSets6
import Derived.Test.YtnknjhdpjjddeaaGreatDoorMNodeSets7
section
namespace Go.Proofs.YtnknjhdpjjddeaaGreatDoor.Q
open Go.RowKit Go.Proofs.YtnknjhdpjjddeaaGreatDoorW.PrintWords Go.Proofs.YtnknjhdpjjddeaaGreatDoorW.PrintLast Go.Proofs.YtnknjhdpjjddeaaGreatDoorW.PrintMore
attribute [local go_sem] max2_int min2_int max_two min_two max_three min_three max_four min_four   -- for this text's walks alone
set_option linter.unusedVariables false
set_option linter.unusedSimpArgs false
/-! ### graftwoodlaw05_NodeSets: function 4 -/
mutual
def graftwoodlaw05_NodeSets.l0 : Nat → List (S32) → Bool → Int → ByteArray → ByteArray → Option (Bool)
  | 0, _, _, _, _, _ => none
  | k + 1, x0, x5, x6, x292000, x292001 => if x6 < (x0.length : Int) then (if x5 = true then (if 0 ≤ x6 then ((graftwoodref05_May.f k ((rd_T32 x0 x6).f0) ((rd_T32 x0 x6).f1)).bind fun t298 => (graftwoodlaw05_NodeSets.l0 k x0 t298 (wrap64 (x6 + 1)) x292000 x292001)) else (none)) else (graftwoodlaw05_NodeSets.l0 k x0 false (wrap64 (x6 + 1)) x292000 x292001)) else ((node_Set.f x0).bind fun bt299 => ((node_Check.f k x0).bind fun t303 => ((graftwoodref05_Check.f k x0).bind fun t304 => (if ((t303 == 0) != t304) = true then (graftwoodlaw05_NodeSets.j1 k x0 true x292000 x292001) else (if x5 = true then ((graftwoodref05_Set.f k x0).bind fun t305 => ((graftwoodref05_Same.f k bt299.1 t305).bind fun t308 => (if t308 = true then (if bt299.2 = 0 then (graftwoodlaw05_NodeSets.j1 k x0 false x292000 x292001) else (graftwoodlaw05_NodeSets.j1 k x0 true x292000 x292001)) else (graftwoodlaw05_NodeSets.j1 k x0 true x292000 x292001)))) else (if (bt299.1.length : Int) > 0 then (graftwoodlaw05_NodeSets.j1 k x0 true x292000 x292001) else (graftwoodlaw05_NodeSets.j1 k x0 (bt299.2 != 1) x292000 x292001)))))))
def graftwoodlaw05_NodeSets.j1 : Nat → List (S32) → Bool → ByteArray → ByteArray → Option (Bool)
  | 0, _, _, _, _ => none
  | k + 1, x0, x70, x292000, x292001 => if x70 = true then (some false) else ((node_Has.f x0 x292000 x292001).bind fun bt309 => ((node_With.f x0 x292000 x292001).bind fun bt311 => ((node_Without.f x0 x292000 x292001).bind fun bt315 => ((graftwoodref05_Check.f k x0).bind fun t319 => (if t319 = true then ((graftwoodref05_May.f k x292000 x292001).bind fun t320 => (graftwoodlaw05_NodeSets.j2 k x0 bt309.1 bt309.2 bt311.1 bt311.2 bt315.1 bt315.2 (!t320) x292000 x292001)) else (graftwoodlaw05_NodeSets.j2 k x0 bt309.1 bt309.2 bt311.1 bt311.2 bt315.1 bt315.2 true x292000 x292001))))))
def graftwoodlaw05_NodeSets.j2 : Nat → List (S32) → Bool → Int → List (S32) → Int → List (S32) → Int → Bool → ByteArray → ByteArray → Option (Bool)
  | 0, _, _, _, _, _, _, _, _, _, _ => none
  | k + 1, x0, x9, x10, x11, x12, x13, x14, x96, x292000, x292001 => if x96 = true then (if x9 = true then (some false) else (if x10 = 1 then (if (x11.length : Int) = 0 then (if x12 = 1 then (if (x13.length : Int) = 0 then (if x14 = 1 then ((graftwoodlaw05_awake.f k).bind fun t321 => (some t321)) else (some false)) else (some false)) else (some false)) else (some false)) else (some false))) else ((graftwoodref05_Has.f k x0 x292000 x292001).bind fun t322 => (if (x9 == t322) = true then (if x10 = 0 then ((graftwoodref05_With.f k x0 x292000 x292001).bind fun t323 => ((graftwoodref05_Same.f k x11 t323).bind fun t326 => (if t326 = true then (if x12 = 0 then ((graftwoodref05_Minus.f k x0 (([(⟨x292000, x292001⟩ : S32)] : List (S32)))).bind fun t330 => ((graftwoodref05_Same.f k x13 t330).bind fun t333 => (if t333 = true then (if x14 = 0 then ((graftwoodlaw05_awake.f k).bind fun t334 => (some t334)) else (some false)) else (some false)))) else (some false)) else (some false)))) else (some false)) else (some false)))
end
def graftwoodlaw05_NodeSets.f (k : Nat) (l0 : List (S32)) (a1_0 : ByteArray) (a1_1 : ByteArray) : Option (Bool) := (graftwoodlaw05_Few.f k l0).bind fun t292 => ((graftwoodlaw05_One.f a1_0 a1_1).bind fun bt295 => (graftwoodlaw05_NodeSets.l0 k t292 true 0 bt295.1 bt295.2))
theorem graftwoodlaw05_NodeSets.mono_l : ∀ k, (∀ y0 y1 y2 y3 y4, LeO (graftwoodlaw05_NodeSets.l0 k y0 y1 y2 y3 y4) (graftwoodlaw05_NodeSets.l0 (k + 1) y0 y1 y2 y3 y4)) ∧ (∀ y0 y1 y2 y3, LeO (graftwoodlaw05_NodeSets.j1 k y0 y1 y2 y3) (graftwoodlaw05_NodeSets.j1 (k + 1) y0 y1 y2 y3)) ∧ (∀ y0 y1 y2 y3 y4 y5 y6 y7 y8 y9, LeO (graftwoodlaw05_NodeSets.j2 k y0 y1 y2 y3 y4 y5 y6 y7 y8 y9) (graftwoodlaw05_NodeSets.j2 (k + 1) y0 y1 y2 y3 y4 y5 y6 y7 y8 y9))
  | 0 => ⟨fun _ _ _ _ _ r h => by simp [graftwoodlaw05_NodeSets.l0] at h, fun _ _ _ _ r h => by simp [graftwoodlaw05_NodeSets.j1] at h, fun _ _ _ _ _ _ _ _ _ _ r h => by simp [graftwoodlaw05_NodeSets.j2] at h⟩
  | k + 1 => by
    obtain ⟨ih0, ih1, ih2⟩ := graftwoodlaw05_NodeSets.mono_l k
    refine ⟨?_, ?_, ?_⟩
    · intro y0 y1 y2 y3 y4
      unfold graftwoodlaw05_NodeSets.l0
      repeat' first
      | (with_reducible exact ih0 _ _ _ _ _)
      | (with_reducible exact ih1 _ _ _ _)
      | (with_reducible exact ih2 _ _ _ _ _ _ _ _ _ _)
      | (with_reducible exact graftwoodlaw05_Few.mono _ _)
      | (with_reducible exact graftwoodlaw05_awake.mono _)
      | (with_reducible exact graftwoodref05_Check.mono _ _)
      | (with_reducible exact graftwoodref05_Has.mono _ _ _ _)
      | (with_reducible exact graftwoodref05_May.mono _ _ _)
      | (with_reducible exact graftwoodref05_Minus.mono _ _ _)
      | (with_reducible exact graftwoodref05_Same.mono _ _ _)
      | (with_reducible exact graftwoodref05_Set.mono _ _)
      | (with_reducible exact graftwoodref05_With.mono _ _ _ _)
      | (with_reducible exact node_Check.mono _ _)
      | (with_reducible exact LeO.refl _)
      | (with_reducible exact LeO.none _)
      | (with_reducible refine LeO.ite ?_ ?_)
      | (with_reducible refine LeO.bind ?_ (fun _ => ?_))
      | exact ih0 _ _ _ _ _
      | exact ih1 _ _ _ _
      | exact ih2 _ _ _ _ _ _ _ _ _ _
      | exact graftwoodlaw05_Few.mono _ _
      | exact graftwoodlaw05_awake.mono _
      | exact graftwoodref05_Check.mono _ _
      | exact graftwoodref05_Has.mono _ _ _ _
      | exact graftwoodref05_May.mono _ _ _
      | exact graftwoodref05_Minus.mono _ _ _
      | exact graftwoodref05_Same.mono _ _ _
      | exact graftwoodref05_Set.mono _ _
      | exact graftwoodref05_With.mono _ _ _ _
      | exact node_Check.mono _ _
      | exact LeO.none _
      | refine LeO.ite ?_ ?_
      | refine LeO.bind ?_ (fun _ => ?_)
    · intro y0 y1 y2 y3
      unfold graftwoodlaw05_NodeSets.j1
      repeat' first
      | (with_reducible exact ih0 _ _ _ _ _)
      | (with_reducible exact ih1 _ _ _ _)
      | (with_reducible exact ih2 _ _ _ _ _ _ _ _ _ _)
      | (with_reducible exact graftwoodlaw05_Few.mono _ _)
      | (with_reducible exact graftwoodlaw05_awake.mono _)
      | (with_reducible exact graftwoodref05_Check.mono _ _)
      | (with_reducible exact graftwoodref05_Has.mono _ _ _ _)
      | (with_reducible exact graftwoodref05_May.mono _ _ _)
      | (with_reducible exact graftwoodref05_Minus.mono _ _ _)
      | (with_reducible exact graftwoodref05_Same.mono _ _ _)
      | (with_reducible exact graftwoodref05_Set.mono _ _)
      | (with_reducible exact graftwoodref05_With.mono _ _ _ _)
      | (with_reducible exact node_Check.mono _ _)
      | (with_reducible exact LeO.refl _)
      | (with_reducible exact LeO.none _)
      | (with_reducible refine LeO.ite ?_ ?_)
      | (with_reducible refine LeO.bind ?_ (fun _ => ?_))
      | exact ih0 _ _ _ _ _
      | exact ih1 _ _ _ _
      | exact ih2 _ _ _ _ _ _ _ _ _ _
      | exact graftwoodlaw05_Few.mono _ _
      | exact graftwoodlaw05_awake.mono _
      | exact graftwoodref05_Check.mono _ _
      | exact graftwoodref05_Has.mono _ _ _ _
      | exact graftwoodref05_May.mono _ _ _
      | exact graftwoodref05_Minus.mono _ _ _
      | exact graftwoodref05_Same.mono _ _ _
      | exact graftwoodref05_Set.mono _ _
      | exact graftwoodref05_With.mono _ _ _ _
      | exact node_Check.mono _ _
      | exact LeO.none _
      | refine LeO.ite ?_ ?_
      | refine LeO.bind ?_ (fun _ => ?_)
    · intro y0 y1 y2 y3 y4 y5 y6 y7 y8 y9
      unfold graftwoodlaw05_NodeSets.j2
      repeat' first
      | (with_reducible exact ih0 _ _ _ _ _)
      | (with_reducible exact ih1 _ _ _ _)
      | (with_reducible exact ih2 _ _ _ _ _ _ _ _ _ _)
      | (with_reducible exact graftwoodlaw05_Few.mono _ _)
      | (with_reducible exact graftwoodlaw05_awake.mono _)
      | (with_reducible exact graftwoodref05_Check.mono _ _)
      | (with_reducible exact graftwoodref05_Has.mono _ _ _ _)
      | (with_reducible exact graftwoodref05_May.mono _ _ _)
      | (with_reducible exact graftwoodref05_Minus.mono _ _ _)
      | (with_reducible exact graftwoodref05_Same.mono _ _ _)
      | (with_reducible exact graftwoodref05_Set.mono _ _)
      | (with_reducible exact graftwoodref05_With.mono _ _ _ _)
      | (with_reducible exact node_Check.mono _ _)
      | (with_reducible exact LeO.refl _)
      | (with_reducible exact LeO.none _)
      | (with_reducible refine LeO.ite ?_ ?_)
      | (with_reducible refine LeO.bind ?_ (fun _ => ?_))
      | exact ih0 _ _ _ _ _
      | exact ih1 _ _ _ _
      | exact ih2 _ _ _ _ _ _ _ _ _ _
      | exact graftwoodlaw05_Few.mono _ _
      | exact graftwoodlaw05_awake.mono _
      | exact graftwoodref05_Check.mono _ _
      | exact graftwoodref05_Has.mono _ _ _ _
      | exact graftwoodref05_May.mono _ _ _
      | exact graftwoodref05_Minus.mono _ _ _
      | exact graftwoodref05_Same.mono _ _ _
      | exact graftwoodref05_Set.mono _ _
      | exact graftwoodref05_With.mono _ _ _ _
      | exact node_Check.mono _ _
      | exact LeO.none _
      | refine LeO.ite ?_ ?_
      | refine LeO.bind ?_ (fun _ => ?_)
theorem graftwoodlaw05_NodeSets.mono : ∀ a0 a1 a2 k, LeO (graftwoodlaw05_NodeSets.f k a0 a1 a2) (graftwoodlaw05_NodeSets.f (k + 1) a0 a1 a2) := by
  intro a0 a1 a2 k
  obtain ⟨ih0, ih1, ih2⟩ := graftwoodlaw05_NodeSets.mono_l k
  unfold graftwoodlaw05_NodeSets.f
  repeat' first
      | (with_reducible exact ih0 _ _ _ _ _)
      | (with_reducible exact ih1 _ _ _ _)
      | (with_reducible exact ih2 _ _ _ _ _ _ _ _ _ _)
      | (with_reducible exact graftwoodlaw05_Few.mono _ _)
      | (with_reducible exact graftwoodlaw05_awake.mono _)
      | (with_reducible exact graftwoodref05_Check.mono _ _)
      | (with_reducible exact graftwoodref05_Has.mono _ _ _ _)
      | (with_reducible exact graftwoodref05_May.mono _ _ _)
      | (with_reducible exact graftwoodref05_Minus.mono _ _ _)
      | (with_reducible exact graftwoodref05_Same.mono _ _ _)
      | (with_reducible exact graftwoodref05_Set.mono _ _)
      | (with_reducible exact graftwoodref05_With.mono _ _ _ _)
      | (with_reducible exact node_Check.mono _ _)
      | (with_reducible exact LeO.refl _)
      | (with_reducible exact LeO.none _)
      | (with_reducible refine LeO.ite ?_ ?_)
      | (with_reducible refine LeO.bind ?_ (fun _ => ?_))
      | exact ih0 _ _ _ _ _
      | exact ih1 _ _ _ _
      | exact ih2 _ _ _ _ _ _ _ _ _ _
      | exact graftwoodlaw05_Few.mono _ _
      | exact graftwoodlaw05_awake.mono _
      | exact graftwoodref05_Check.mono _ _
      | exact graftwoodref05_Has.mono _ _ _ _
      | exact graftwoodref05_May.mono _ _ _
      | exact graftwoodref05_Minus.mono _ _ _
      | exact graftwoodref05_Same.mono _ _ _
      | exact graftwoodref05_Set.mono _ _
      | exact graftwoodref05_With.mono _ _ _ _
      | exact node_Check.mono _ _
      | exact LeO.none _
      | refine LeO.ite ?_ ?_
      | refine LeO.bind ?_ (fun _ => ?_)
set_option maxHeartbeats 8000000 in
set_option maxRecDepth 100000 in
theorem graftwoodlaw05_NodeSets.calls (k : Nat) (A0 : Option Addr) (c0 : Nat) (l0 : List (S32)) (a1_0 : ByteArray) (a1_1 : ByteArray) (r : Bool) (w : World) (hr0 : Kd.C k32 w A0 l0.length l0) (hc0 : l0.length ≤ c0) (h : graftwoodlaw05_NodeSets.f k l0 a1_0 a1_1 = some r) :
    Calls Tryz.prog 4 #[.slice A0 l0.length c0, .agg #[.string a1_0, .string a1_1]] w fun e w' => e = .returned (.bool r) ∧ Below w.heap.size w w' := by
  have hu32 := Tryz.underlying32
  have HR0 := Aside0.mk hr0
  have HC0 := Aside0.mk hc0
  clear hr0 hc0
  have HB := Aside0.mk (Below.refl w.heap.size w)
  have H : ((graftwoodlaw05_Few.f k l0).bind fun t292 => ((graftwoodlaw05_One.f a1_0 a1_1).bind fun bt295 => (graftwoodlaw05_NodeSets.l0 k t292 true 0 bt295.1 bt295.2))) = some r := h
  clear h
  replace H := Option.bind_eq_some_iff.mp H
  obtain ⟨t292, A30, H⟩ := H
  replace H : ((graftwoodlaw05_One.f a1_0 a1_1).bind fun bt295 => (graftwoodlaw05_NodeSets.l0 k t292 true 0 bt295.1 bt295.2)) = some r := H
  have A3 := Aside0.mk A30
  clear A30
  replace H := Option.bind_eq_some_iff.mp H
  obtain ⟨⟨t295, t296⟩, A40, H⟩ := H
  replace H : (graftwoodlaw05_NodeSets.l0 k t292 true 0 t295 t296) = some r := H
  have A4 := Aside0.mk A40
  clear A40
  have H' := Aside0.mk H
  clear H
  go_enter Tryz.func4, Tryz.ntmps4
  try go_wp2_with (first | ((with_reducible refine gate_dst (N := 3) rfl ?_); (try (refine gate_guard (by rfl) ?_; dsimp only)); refine box_event ?hg (N := 3) ?hd (cs := #[.string a1_0, .string a1_1]) (t := 32) ?hr ?_; (case hd => rfl); (case hg => rfl); (case hr => first | (go_simp; done) | (go_simp; rfl)); intro gb291 hg w5 hbox hb; have n0_ := Aside0.mk (below_step (by repeat (first | (with_reducible first | exact HB.out | apply below_alloc | apply pw_below_drewN | apply below_drew1) | exact HB.out)) hb); have n1_ := Aside0.mk (hbox); have n2_ := Aside0.mk ((by rw [hg]; exact (below_size (by repeat (first | (with_reducible first | exact HB.out | apply below_alloc | apply pw_below_drewN | apply below_drew1) | exact HB.out))) : w.heap.size ≤ gb291)); have n3_ := Aside0.mk ((by rw [hg]; exact (below_size (by repeat (first | (with_reducible first | exact HB.out | apply below_alloc | apply pw_below_drewN | apply below_drew1) | exact HB.out))) : w.heap.size ≤ gb291)); clear HB; have HB := n0_; have BK291 := n1_; have GW291 := n2_; have GE291 := n3_; clear n0_ n1_ n2_ n3_; clear hb hbox hg))
  have n0_ := Aside0.mk (blk_drew BK291.out)
  have n1_ := Aside0.mk (below_drew1 HB.out)
  clear BK291
  clear HB
  have BK291 := n0_
  have HB := n1_
  clear n0_ n1_
  refine start_ (n := 6) (S := fun w' => w'.cell? ⟨gb291, 0, none⟩ = some (.string a1_0) ∧ w'.cell? ⟨gb291, 1, none⟩ = some (.string a1_1)) (ds := [5]) #[false, false, false, false, false, false] (by kernel_rfl) rfl rfl ⟨(blk_cell BK291.out 0).trans rfl, (blk_cell BK291.out 1).trans rfl⟩ (fun hHeld => ?_)
  generalize w5.drew = w6 at BK291 HB hHeld ⊢
  refine pure_ (i := 0) (N := some 15) (v := ?_) (a' := ?_) #[true, false, false, false, false, false] rfl rfl (by kernel_rfl) (fun _ _ _ h => h) (Or.inl ⟨by rfl, ?_⟩) ?_ ?_
  rotate_left
  · intro w'
    go_simp
    with_reducible rfl
  rotate_left
  · simp only [Act.put, List.setIfInBounds_toArray, List.set_cons_zero, List.set_cons_succ, i64_w, i32_w]
    rfl
  refine take_ (i := 2) (N := some 17) (v := ?_) (a' := ?_) #[true, false, true, false, false, false] rfl rfl (by kernel_rfl) (fun _ _ _ h => h) (Or.inl ⟨by rfl, ?_⟩) hHeld ?_ ?_
  rotate_left
  · rintro w' ⟨s0, s1⟩
    go_simp
    with_reducible rfl
  rotate_left
  · simp only [Act.put, List.setIfInBounds_toArray, List.set_cons_zero, List.set_cons_succ, i64_w, i32_w]
    rfl
  refine one_ (i := 1) (N := some 16) #[true, true, true, false, false, false] rfl rfl (by kernel_rfl) (by decide) (fun K hK => ?_)
  refine goes_ Tryz.func5 (by kernel_rfl) rfl #[.slice A0 l0.length c0] (by rfl) rfl rfl (by (try simp only [List.map_toArray, List.map_cons, List.map_nil]); first | done | rfl | (simp only [List.length_drop, List.length_take]; rfl)) ?_
  with_reducible refine (graftwoodlaw05_Few.calls k _ _ l0 t292 _ ?side1 ?side2 A3.out).mono ?_
  (case side1 => repeat (first | exact (Kd.C_below HR0.out HB.out) | (with_reducible refine Kd.C_alloc ?_ _) | (with_reducible refine Kd.C_drewN ?_ _) | (with_reducible refine Kd.C_drew ?_)))
  (case side2 => exact HC0.out)
  rintro e w7 ⟨v293, rfl, ho0, hb⟩
  refine ⟨_, rfl, ?_⟩
  have n0_ := Aside0.mk (Kd.R_lower (Kd.R_newB ho0 (g := gb291) (o := .cells #[.string a1_0, .string a1_1] 32 (0, 0)) (by (with_reducible repeat (first | refine blk_drewN ?_ _ | refine blk_drew ?_ | refine blk_alloc ?_ _)); exact BK291.out)) (below_size (by repeat (first | (with_reducible first | exact HB.out | apply below_alloc | apply pw_below_drewN | apply below_drew1 | refine below_set ?_ GE291.out) | exact HB.out))))
  have n1_ := Aside0.mk (blk_below (g := gb291) (o := .cells #[.string a1_0, .string a1_1] 32 (0, 0)) (by (with_reducible repeat (first | refine blk_drewN ?_ _ | refine blk_drew ?_ | refine blk_alloc ?_ _)); exact BK291.out) hb)
  have n2_ := Aside0.mk (below_step (by repeat (first | (with_reducible first | exact HB.out | apply below_alloc | apply pw_below_drewN | apply below_drew1 | refine below_set ?_ GE291.out) | exact HB.out)) hb)
  clear BK291
  clear HB
  have HO294 := n0_
  have BK291 := n1_
  have HB := n2_
  clear n0_ n1_ n2_
  (try clear hb)
  (try clear hb2)
  (try clear hk)
  (try clear hi)
  (try clear ho0)
  refine hK.out _ _ ⟨(blk_cell BK291.out 0).trans rfl, (blk_cell BK291.out 1).trans rfl⟩ (fun hHeld => ?_)
  clear hK K
  refine norm_ (a' := ?_) ?_ ?_
  rotate_left
  · show Act.put _ (some 16) _ = _
    simp only [Act.put, List.setIfInBounds_toArray, List.set_cons_zero, List.set_cons_succ, i64_w, i32_w]
    rfl
  refine one_ (i := 3) (N := some 18) #[true, true, true, true, false, false] rfl rfl (by kernel_rfl) (by decide) (fun K hK => ?_)
  refine goes_ Tryz.func11 (by kernel_rfl) rfl #[.agg #[.string a1_0, .string a1_1]] (by rfl) rfl rfl (by (try simp only [List.map_toArray, List.map_cons, List.map_nil]); first | done | rfl | (simp only [List.length_drop, List.length_take]; rfl)) ?_
  with_reducible refine (graftwoodlaw05_One.calls a1_0 a1_1 t295 t296 _ A4.out).mono ?_
  rintro e w8 ⟨rfl, hb⟩
  refine ⟨_, rfl, ?_⟩
  have n0_ := Aside0.mk (Kd.R_below (by (with_reducible repeat (first | apply Kd.R_alloc | apply Kd.R_drewN | apply Kd.R_drew)); exact HO294.out) hb)
  have n1_ := Aside0.mk (blk_below (g := gb291) (o := .cells #[.string a1_0, .string a1_1] 32 (0, 0)) (by (with_reducible repeat (first | refine blk_drewN ?_ _ | refine blk_drew ?_ | refine blk_alloc ?_ _)); exact BK291.out) hb)
  have n2_ := Aside0.mk (below_step (by repeat (first | (with_reducible first | exact HB.out | apply below_alloc | apply pw_below_drewN | apply below_drew1 | refine below_set ?_ GE291.out) | exact HB.out)) hb)
  clear HO294
  clear BK291
  clear HB
  have HO294 := n0_
  have BK291 := n1_
  have HB := n2_
  clear n0_ n1_ n2_
  (try clear hb)
  (try clear hb2)
  (try clear hk)
  (try clear hi)
  refine hK.out _ _ ⟨(blk_cell BK291.out 0).trans rfl, (blk_cell BK291.out 1).trans rfl⟩ (fun hHeld => ?_)
  clear hK K
  refine norm_ (a' := ?_) ?_ ?_
  rotate_left
  · show Act.put _ (some 18) _ = _
    simp only [Act.put, List.setIfInBounds_toArray, List.set_cons_zero, List.set_cons_succ, i64_w, i32_w]
    rfl
  refine pure_ (i := 4) (N := some 0) (v := ?_) (a' := ?_) #[true, true, true, true, true, false] rfl rfl (by kernel_rfl) (fun _ _ _ h => h) (Or.inl ⟨by rfl, ?_⟩) ?_ ?_
  rotate_left
  · intro w'
    go_simp
    with_reducible rfl
  rotate_left
  · simp only [Act.put, List.setIfInBounds_toArray, List.set_cons_zero, List.set_cons_succ, i64_w, i32_w]
    rfl
  refine last_ (i := 5) (N := none) #[true, true, true, true, true, true] rfl rfl (by kernel_rfl) (by decide) (fun K hK => ?_)
  have hs9 : w8.cell? ⟨gb291, 0, none⟩ = some (.string a1_0) := (blk_cell BK291.out 0).trans rfl
  have hfs9 := blk_frozen BK291.out 0
  have hs10 : w8.cell? ⟨gb291, 1, none⟩ = some (.string a1_1) := (blk_cell BK291.out 1).trans rfl
  have hfs10 := blk_frozen BK291.out 1
  refine skip_ (w1 := ?_) (by rfl) rfl ?_ ?_
  rotate_left
  · go_simp
    rfl
  refine hK.out _ _ ?_
  clear hK K
  refine done_ (by kernel_rfl) ?_
  try go_wp2
  go_loopg [5, 6] k (fun kq v5 v6 w' => ∃ (x5_1 : Bool) (x6_1 : Int), v5 = .bool x5_1 ∧ v6 = .int .i64 x6_1 ∧ Aside0 (graftwoodlaw05_NodeSets.l0 kq t292 x5_1 x6_1 t295 t296 = some r) ∧ Aside0 (kq ≤ k) ∧ Aside0 (Kd.R k32 32 w' w.heap.size (fun k_ => k_ ≠ gb291) v293 t292) ∧ Aside0 (w'.heap[gb291]? = some (.cells #[.string t295, .string t296] 32 (0, 0))) ∧ Aside0 (Below w.heap.size w w'))
  case atStart => exact ⟨(true), (0), (by first | rfl | (simp; done) | (simp [*]; done)), (by first | rfl | (simp; done) | (simp [*]; done)), H', ⟨Nat.le_refl _⟩, ⟨by (with_reducible repeat (first | apply Kd.R_alloc | apply Kd.R_drewN | apply Kd.R_drew)); exact Kd.R_mono (Kd.R_far (p := ⟨gb291, 1, none⟩) (Kd.R_far (p := ⟨gb291, 0, none⟩) (Kd.R_mono HO294.out (fun k_ hk => (⟨hk, hk.2⟩ : _ ∧ k_ ≠ gb291))) (fun _ hk => hk.2) (.string t295)) (fun _ hk => hk.2) (.string t296)) (fun _ hk => hk.1.2)⟩, ⟨by (with_reducible repeat (first | refine blk_drewN ?_ _ | refine blk_drew ?_ | refine blk_alloc ?_ _)); refine blk_put (cs := #[.string t295, .string a1_1]) ?_ 1 _ rfl; (with_reducible repeat (first | refine blk_drewN ?_ _ | refine blk_drew ?_ | refine blk_alloc ?_ _)); refine blk_put (cs := #[.string a1_0, .string a1_1]) ?_ 0 _ rfl; (with_reducible repeat (first | refine blk_drewN ?_ _ | refine blk_drew ?_ | refine blk_alloc ?_ _)); exact BK291.out⟩, ⟨by repeat (first | (with_reducible first | exact HB.out | apply below_alloc | apply pw_below_drewN | apply below_drew1 | refine below_set ?_ GE291.out) | exact HB.out)⟩⟩
  case round =>
    clear H'
    try clear c1
    try clear p2
    try clear c4
    try clear c5
    obtain ⟨x5_1, x6_1, rfl, rfl, HA, HK1, HO_0, BK291, HB⟩ := hrel
    cases gk with
    | zero => exact absurd HA.out (by simp [graftwoodlaw05_NodeSets.l0])
    | succ k1 =>
      have H := HA.out
      clear HA
      simp only [graftwoodlaw05_NodeSets.l0] at H
      by_cases c11 : x6_1 < (t292.length : Int)
      · rw [if_pos c11] at H
        have c11b0 : decide (x6_1 < (t292.length : Int)) = true := decide_eq_true c11
        clear c11
        by_cases c12 : x5_1 = true
        · subst c12
          have H1 : (if 0 ≤ x6_1 then ((graftwoodref05_May.f k1 ((rd_T32 t292 x6_1).f0) ((rd_T32 t292 x6_1).f1)).bind fun t298 => (graftwoodlaw05_NodeSets.l0 k1 t292 t298 (wrap64 (x6_1 + 1)) t295 t296)) else (none)) = some r := by rw [if_pos rfl] at H; exact H
          clear H
          have H := H1
          clear H1
          by_cases c13 : 0 ≤ x6_1
          · rw [if_pos c13] at H
            have c13b0 : decide (0 ≤ x6_1) = true := decide_eq_true c13
            clear c13
            replace H := Option.bind_eq_some_iff.mp H
            obtain ⟨t298, A140, H⟩ := H
            replace H : (graftwoodlaw05_NodeSets.l0 k1 t292 t298 (wrap64 (x6_1 + 1)) t295 t296) = some r := H
            have A14 := Aside0.mk A140
            clear A140
            have H' := Aside0.mk H
            clear H
            obtain ⟨Ao15, co15, eo15⟩ := Kd.R_slice HO_0.out
            subst eo15
            have p297 : 0 ≤ (x6_1 : Int) := of_decide_eq_true (by first | (with_reducible assumption) | assumption)
            have q297 : x6_1 < (t292.length : Int) := of_decide_eq_true (by first | (with_reducible assumption) | assumption)
            obtain ⟨ad297, e297, hx297_0, hx297_1⟩ := at_T32 (Kd.R_reads' HO_0.out).2.2 x6_1 p297 q297
            cases e297
            replace p297 := eq_true p297
            replace q297 := eq_true q297
            go_wp2_with (first | (go_at_call 12; (with_reducible refine (graftwoodref05_May.calls k1 ((rd_T32 t292 x6_1).f0) ((rd_T32 t292 x6_1).f1) t298 _ A14.out).mono ?_); rintro e w16 ⟨rfl, hb⟩; have n0_ := Aside0.mk (Kd.R_below (by (with_reducible repeat (first | apply Kd.R_alloc | apply Kd.R_drewN | apply Kd.R_drew)); exact HO_0.out) hb); have n1_ := Aside0.mk (blk_below (g := gb291) (o := .cells #[.string t295, .string t296] 32 (0, 0)) (by (with_reducible repeat (first | refine blk_drewN ?_ _ | refine blk_drew ?_ | refine blk_alloc ?_ _)); exact BK291.out) hb); have n2_ := Aside0.mk (below_step (by repeat (first | (with_reducible first | exact HB.out | apply below_alloc | apply pw_below_drewN | apply below_drew1 | refine below_set ?_ GE291.out) | exact HB.out)) hb); clear HO_0; clear BK291; clear HB; have HO_0 := n0_; have BK291 := n1_; have HB := n2_; clear n0_ n1_ n2_; (try clear hb); (try clear hb2); (try clear hk); (try clear hi)))
            go_roundg k1
            case measure => have := HK1.out; omega
            case rel => exact ⟨(t298), (wrap64 (x6_1 + 1)), (by first | rfl | (simp; done) | (simp [*]; done)), (by first | rfl | (simp; done) | (simp [*]; done)), H', ⟨by have := HK1.out; omega⟩, ⟨by (with_reducible repeat (first | apply Kd.R_alloc | apply Kd.R_drewN | apply Kd.R_drew)); exact HO_0.out⟩, ⟨by (with_reducible repeat (first | refine blk_drewN ?_ _ | refine blk_drew ?_ | refine blk_alloc ?_ _)); exact BK291.out⟩, ⟨by repeat (first | (with_reducible first | exact HB.out | apply below_alloc | apply pw_below_drewN | apply below_drew1 | refine below_set ?_ GE291.out) | exact HB.out)⟩⟩
          · rw [if_neg c13] at H
            exact absurd H (by simp)
        · replace c12 := Bool.eq_false_iff.mpr c12
          subst c12
          have H1 : (graftwoodlaw05_NodeSets.l0 k1 t292 false (wrap64 (x6_1 + 1)) t295 t296) = some r := by rw [if_neg (show ¬ (false = true) by decide)] at H; exact H
          clear H
          have H := H1
          clear H1
          have H' := Aside0.mk H
          clear H
          obtain ⟨Ao17, co17, eo17⟩ := Kd.R_slice HO_0.out
          subst eo17
          go_wp2
          go_roundg k1
          case measure => have := HK1.out; omega
          case rel => exact ⟨(false), (wrap64 (x6_1 + 1)), (by first | rfl | (simp; done) | (simp [*]; done)), (by first | rfl | (simp; done) | (simp [*]; done)), H', ⟨by have := HK1.out; omega⟩, ⟨by (with_reducible repeat (first | apply Kd.R_alloc | apply Kd.R_drewN | apply Kd.R_drew)); exact HO_0.out⟩, ⟨by (with_reducible repeat (first | refine blk_drewN ?_ _ | refine blk_drew ?_ | refine blk_alloc ?_ _)); exact BK291.out⟩, ⟨by repeat (first | (with_reducible first | exact HB.out | apply below_alloc | apply pw_below_drewN | apply below_drew1 | refine below_set ?_ GE291.out) | exact HB.out)⟩⟩
      · rw [if_neg c11] at H
        have c11b0 : decide (x6_1 < (t292.length : Int)) = false := decide_eq_false c11
        clear c11
        replace H := Option.bind_eq_some_iff.mp H
        obtain ⟨⟨t299, t300⟩, A180, H⟩ := H
        replace H : ((node_Check.f k1 t292).bind fun t303 => ((graftwoodref05_Check.f k1 t292).bind fun t304 => (if ((t303 == 0) != t304) = true then (graftwoodlaw05_NodeSets.j1 k1 t292 true t295 t296) else (if x5_1 = true then ((graftwoodref05_Set.f k1 t292).bind fun t305 => ((graftwoodref05_Same.f k1 t299 t305).bind fun t308 => (if t308 = true then (if t300 = 0 then (graftwoodlaw05_NodeSets.j1 k1 t292 false t295 t296) else (graftwoodlaw05_NodeSets.j1 k1 t292 true t295 t296)) else (graftwoodlaw05_NodeSets.j1 k1 t292 true t295 t296)))) else (if (t299.length : Int) > 0 then (graftwoodlaw05_NodeSets.j1 k1 t292 true t295 t296) else (graftwoodlaw05_NodeSets.j1 k1 t292 (t300 != 1) t295 t296)))))) = some r := H
        have A18 := Aside0.mk A180
        clear A180
        have HC19 := Aside0.mk H
        clear H
        obtain ⟨Ao20, co20, eo20⟩ := Kd.R_slice HO_0.out
        subst eo20
        go_upto_region 8 with (first | ((with_reducible refine gate_callee (f := 13) rfl ?_); refine goesL_ (some 35) rfl rfl Tryz.func13 (by kernel_rfl) rfl #[.slice Ao20 t292.length co20] rfl (by (try simp only [List.map_toArray, List.map_cons, List.map_nil]); first | done | rfl | (simp only [List.length_drop, List.length_take]; rfl)) ?_; (with_reducible refine (node_Set.calls _ _ t292 t299 t300 _ ?side1 ?side2 A18.out).mono ?_); (case side1 => repeat (first | exact (Kd.R_reads' HO_0.out).2.2 | (with_reducible refine Kd.C_alloc ?_ _) | (with_reducible refine Kd.C_drewN ?_ _) | (with_reducible refine Kd.C_drew ?_))); (case side2 => exact (Kd.R_reads' HO_0.out).2.1); rintro e w21 ⟨v301, rfl, ho0, hb⟩; refine ⟨_, rfl, ?_⟩; have n0_ := Aside0.mk (Kd.R_elder' (by (with_reducible repeat (first | apply Kd.R_alloc | apply Kd.R_drewN | apply Kd.R_drew)); exact HO_0.out) (Kd.R_base ho0) hb); have n1_ := Aside0.mk (Kd.R_lower (Kd.R_newB (Kd.R_new' ho0 (Kd.R_lt (by (with_reducible repeat (first | apply Kd.R_alloc | apply Kd.R_drewN | apply Kd.R_drew)); exact HO_0.out))) (g := gb291) (o := .cells #[.string t295, .string t296] 32 (0, 0)) (by (with_reducible repeat (first | refine blk_drewN ?_ _ | refine blk_drew ?_ | refine blk_alloc ?_ _)); exact BK291.out)) (below_size (by repeat (first | (with_reducible first | exact HB.out | apply below_alloc | apply pw_below_drewN | apply below_drew1 | refine below_set ?_ GE291.out) | exact HB.out)))); have n2_ := Aside0.mk (blk_below (g := gb291) (o := .cells #[.string t295, .string t296] 32 (0, 0)) (by (with_reducible repeat (first | refine blk_drewN ?_ _ | refine blk_drew ?_ | refine blk_alloc ?_ _)); exact BK291.out) hb); have n3_ := Aside0.mk (below_step (by repeat (first | (with_reducible first | exact HB.out | apply below_alloc | apply pw_below_drewN | apply below_drew1 | refine below_set ?_ GE291.out) | exact HB.out)) hb); clear HO_0; clear BK291; clear HB; have HO_0 := n0_; have HO302 := n1_; have BK291 := n2_; have HB := n3_; clear n0_ n1_ n2_ n3_; (try clear hb); (try clear hb2); (try clear hk); (try clear hi); (try clear ho0)))
        (try simp only [Act.put, List.setIfInBounds_toArray, List.set_cons_zero, List.set_cons_succ])
        go_cut [70] (fun v70 wc => ∃ (kq : Nat) (x70_18 : Bool), v70 = .bool x70_18 ∧ Aside0 (graftwoodlaw05_NodeSets.j1 kq t292 x70_18 t295 t296 = some r) ∧ Aside0 (kq ≤ k1) ∧ Aside0 (Kd.R k32 32 wc w.heap.size (fun k_ => k_ ≠ gb291) (.slice Ao20 t292.length co20) t292) ∧ Aside0 (wc.heap[gb291]? = some (.cells #[.string t295, .string t296] 32 (0, 0))) ∧ Aside0 (Below w.heap.size w wc))
        case first =>
          have H := HC19.out
          clear HC19
          replace H := Option.bind_eq_some_iff.mp H
          obtain ⟨t303, A220, H⟩ := H
          replace H : ((graftwoodref05_Check.f k1 t292).bind fun t304 => (if ((t303 == 0) != t304) = true then (graftwoodlaw05_NodeSets.j1 k1 t292 true t295 t296) else (if x5_1 = true then ((graftwoodref05_Set.f k1 t292).bind fun t305 => ((graftwoodref05_Same.f k1 t299 t305).bind fun t308 => (if t308 = true then (if t300 = 0 then (graftwoodlaw05_NodeSets.j1 k1 t292 false t295 t296) else (graftwoodlaw05_NodeSets.j1 k1 t292 true t295 t296)) else (graftwoodlaw05_NodeSets.j1 k1 t292 true t295 t296)))) else (if (t299.length : Int) > 0 then (graftwoodlaw05_NodeSets.j1 k1 t292 true t295 t296) else (graftwoodlaw05_NodeSets.j1 k1 t292 (t300 != 1) t295 t296))))) = some r := H
          have A22 := Aside0.mk A220
          clear A220
          replace H := Option.bind_eq_some_iff.mp H
          obtain ⟨t304, A230, H⟩ := H
          replace H : (if ((t303 == 0) != t304) = true then (graftwoodlaw05_NodeSets.j1 k1 t292 true t295 t296) else (if x5_1 = true then ((graftwoodref05_Set.f k1 t292).bind fun t305 => ((graftwoodref05_Same.f k1 t299 t305).bind fun t308 => (if t308 = true then (if t300 = 0 then (graftwoodlaw05_NodeSets.j1 k1 t292 false t295 t296) else (graftwoodlaw05_NodeSets.j1 k1 t292 true t295 t296)) else (graftwoodlaw05_NodeSets.j1 k1 t292 true t295 t296)))) else (if (t299.length : Int) > 0 then (graftwoodlaw05_NodeSets.j1 k1 t292 true t295 t296) else (graftwoodlaw05_NodeSets.j1 k1 t292 (t300 != 1) t295 t296)))) = some r := H
          have A23 := Aside0.mk A230
          clear A230
          by_cases c24 : ((t303 == 0) != t304) = true
          · rw [if_pos c24] at H
            have c24b0 : ((t303 == 0) != t304) = true := c24
            (try (have c24b1 : decide ((t303 == 0) = t304) = false := by simpa using c24))
            (try (have c24b2 : ((t303 == 0) == t304) = false := by simpa using c24))
            (try (have c24b3 : ¬ ((t303 == 0) = t304) := by simpa using c24))
            clear c24
            (first | rw [c24b0] | (simp only [i64_w, i32_w]; rw [c24b0]) | skip)
            have H' := Aside0.mk H
            clear H
            go_wp2_with (first | ((with_reducible refine gate_callee (f := 14) rfl ?_); refine goesL_ (some 39) rfl rfl Tryz.func14 (by kernel_rfl) rfl #[.slice Ao20 t292.length co20] rfl (by (try simp only [List.map_toArray, List.map_cons, List.map_nil]); first | done | rfl | (simp only [List.length_drop, List.length_take]; rfl)) ?_; (with_reducible refine (node_Check.calls k1 _ _ t292 t303 _ ?side1 ?side2 A22.out).mono ?_); (case side1 => repeat (first | exact (Kd.R_reads' HO_0.out).2.2 | (with_reducible refine Kd.C_alloc ?_ _) | (with_reducible refine Kd.C_drewN ?_ _) | (with_reducible refine Kd.C_drew ?_))); (case side2 => exact (Kd.R_reads' HO_0.out).2.1); rintro e w25 ⟨rfl, hb⟩; refine ⟨_, rfl, ?_⟩; have n0_ := Aside0.mk (Kd.R_below (by (with_reducible repeat (first | apply Kd.R_alloc | apply Kd.R_drewN | apply Kd.R_drew)); exact HO_0.out) hb); have n1_ := Aside0.mk (Kd.R_below (by (with_reducible repeat (first | apply Kd.R_alloc | apply Kd.R_drewN | apply Kd.R_drew)); exact HO302.out) hb); have n2_ := Aside0.mk (blk_below (g := gb291) (o := .cells #[.string t295, .string t296] 32 (0, 0)) (by (with_reducible repeat (first | refine blk_drewN ?_ _ | refine blk_drew ?_ | refine blk_alloc ?_ _)); exact BK291.out) hb); have n3_ := Aside0.mk (below_step (by repeat (first | (with_reducible first | exact HB.out | apply below_alloc | apply pw_below_drewN | apply below_drew1 | refine below_set ?_ GE291.out) | exact HB.out)) hb); clear HO_0; clear HO302; clear BK291; clear HB; have HO_0 := n0_; have HO302 := n1_; have BK291 := n2_; have HB := n3_; clear n0_ n1_ n2_ n3_; (try clear hb); (try clear hb2); (try clear hk); (try clear hi)) | ((with_reducible refine gate_callee (f := 7) rfl ?_); refine goesL_ (some 42) rfl rfl Tryz.func7 (by kernel_rfl) rfl #[.slice Ao20 t292.length co20] rfl (by (try simp only [List.map_toArray, List.map_cons, List.map_nil]); first | done | rfl | (simp only [List.length_drop, List.length_take]; rfl)) ?_; (with_reducible refine (graftwoodref05_Check.calls k1 _ _ t292 t304 _ ?side1 ?side2 A23.out).mono ?_); (case side1 => repeat (first | exact (Kd.R_reads' HO_0.out).2.2 | (with_reducible refine Kd.C_alloc ?_ _) | (with_reducible refine Kd.C_drewN ?_ _) | (with_reducible refine Kd.C_drew ?_))); (case side2 => exact (Kd.R_reads' HO_0.out).2.1); rintro e w26 ⟨rfl, hb⟩; refine ⟨_, rfl, ?_⟩; have n0_ := Aside0.mk (Kd.R_below (by (with_reducible repeat (first | apply Kd.R_alloc | apply Kd.R_drewN | apply Kd.R_drew)); exact HO_0.out) hb); have n1_ := Aside0.mk (Kd.R_below (by (with_reducible repeat (first | apply Kd.R_alloc | apply Kd.R_drewN | apply Kd.R_drew)); exact HO302.out) hb); have n2_ := Aside0.mk (blk_below (g := gb291) (o := .cells #[.string t295, .string t296] 32 (0, 0)) (by (with_reducible repeat (first | refine blk_drewN ?_ _ | refine blk_drew ?_ | refine blk_alloc ?_ _)); exact BK291.out) hb); have n3_ := Aside0.mk (below_step (by repeat (first | (with_reducible first | exact HB.out | apply below_alloc | apply pw_below_drewN | apply below_drew1 | refine below_set ?_ GE291.out) | exact HB.out)) hb); clear HO_0; clear HO302; clear BK291; clear HB; have HO_0 := n0_; have HO302 := n1_; have BK291 := n2_; have HB := n3_; clear n0_ n1_ n2_ n3_; (try clear hb); (try clear hb2); (try clear hk); (try clear hi)))
            go_meet
            case rel => exact ⟨_, (true), (by first | rfl | (simp; done) | (simp [*]; done)), H', ⟨by have := HK1.out; first | omega | exact Nat.le_refl _⟩, ⟨by (with_reducible repeat (first | apply Kd.R_alloc | apply Kd.R_drewN | apply Kd.R_drew)); exact Kd.R_mono HO_0.out (fun _ hk => hk.1)⟩, ⟨by (with_reducible repeat (first | refine blk_drewN ?_ _ | refine blk_drew ?_ | refine blk_alloc ?_ _)); exact BK291.out⟩, ⟨by repeat (first | (with_reducible first | exact HB.out | apply below_alloc | apply pw_below_drewN | apply below_drew1 | refine below_set ?_ GE291.out) | exact HB.out)⟩⟩
          · rw [if_neg c24] at H
            have c24b0 : ((t303 == 0) != t304) = false := by simpa using c24
            (try (have c24b1 : decide ((t303 == 0) = t304) = true := by simpa using c24))
            (try (have c24b2 : ((t303 == 0) == t304) = true := by simpa using c24))
            clear c24
            (first | rw [c24b0] | (simp only [i64_w, i32_w]; rw [c24b0]) | skip)
            by_cases c27 : x5_1 = true
            · subst c27
              have H1 : ((graftwoodref05_Set.f k1 t292).bind fun t305 => ((graftwoodref05_Same.f k1 t299 t305).bind fun t308 => (if t308 = true then (if t300 = 0 then (graftwoodlaw05_NodeSets.j1 k1 t292 false t295 t296) else (graftwoodlaw05_NodeSets.j1 k1 t292 true t295 t296)) else (graftwoodlaw05_NodeSets.j1 k1 t292 true t295 t296)))) = some r := by rw [if_pos rfl] at H; exact H
              clear H
              have H := H1
              clear H1
              replace H := Option.bind_eq_some_iff.mp H
              obtain ⟨t305, A280, H⟩ := H
              replace H : ((graftwoodref05_Same.f k1 t299 t305).bind fun t308 => (if t308 = true then (if t300 = 0 then (graftwoodlaw05_NodeSets.j1 k1 t292 false t295 t296) else (graftwoodlaw05_NodeSets.j1 k1 t292 true t295 t296)) else (graftwoodlaw05_NodeSets.j1 k1 t292 true t295 t296))) = some r := H
              have A28 := Aside0.mk A280
              clear A280
              replace H := Option.bind_eq_some_iff.mp H
              obtain ⟨t308, A290, H⟩ := H
              replace H : (if t308 = true then (if t300 = 0 then (graftwoodlaw05_NodeSets.j1 k1 t292 false t295 t296) else (graftwoodlaw05_NodeSets.j1 k1 t292 true t295 t296)) else (graftwoodlaw05_NodeSets.j1 k1 t292 true t295 t296)) = some r := H
              have A29 := Aside0.mk A290
              clear A290
              by_cases c30 : t308 = true
              · subst c30
                have H1 : (if t300 = 0 then (graftwoodlaw05_NodeSets.j1 k1 t292 false t295 t296) else (graftwoodlaw05_NodeSets.j1 k1 t292 true t295 t296)) = some r := by rw [if_pos rfl] at H; exact H
                clear H
                have H := H1
                clear H1
                by_cases c31 : t300 = 0
                · rw [if_pos c31] at H
                  have c31b0 : (t300 == 0) = true := beq_iff_eq.mpr c31
                  have c31b1 : (t300 != 0) = false := bne_eq_false_iff_eq.mpr c31
                  clear c31
                  have H' := Aside0.mk H
                  clear H
                  go_wp2_with (first | ((with_reducible refine gate_callee (f := 14) rfl ?_); refine goesL_ (some 39) rfl rfl Tryz.func14 (by kernel_rfl) rfl #[.slice Ao20 t292.length co20] rfl (by (try simp only [List.map_toArray, List.map_cons, List.map_nil]); first | done | rfl | (simp only [List.length_drop, List.length_take]; rfl)) ?_; (with_reducible refine (node_Check.calls k1 _ _ t292 t303 _ ?side1 ?side2 A22.out).mono ?_); (case side1 => repeat (first | exact (Kd.R_reads' HO_0.out).2.2 | (with_reducible refine Kd.C_alloc ?_ _) | (with_reducible refine Kd.C_drewN ?_ _) | (with_reducible refine Kd.C_drew ?_))); (case side2 => exact (Kd.R_reads' HO_0.out).2.1); rintro e w32 ⟨rfl, hb⟩; refine ⟨_, rfl, ?_⟩; have n0_ := Aside0.mk (Kd.R_below (by (with_reducible repeat (first | apply Kd.R_alloc | apply Kd.R_drewN | apply Kd.R_drew)); exact HO_0.out) hb); have n1_ := Aside0.mk (Kd.R_below (by (with_reducible repeat (first | apply Kd.R_alloc | apply Kd.R_drewN | apply Kd.R_drew)); exact HO302.out) hb); have n2_ := Aside0.mk (blk_below (g := gb291) (o := .cells #[.string t295, .string t296] 32 (0, 0)) (by (with_reducible repeat (first | refine blk_drewN ?_ _ | refine blk_drew ?_ | refine blk_alloc ?_ _)); exact BK291.out) hb); have n3_ := Aside0.mk (below_step (by repeat (first | (with_reducible first | exact HB.out | apply below_alloc | apply pw_below_drewN | apply below_drew1 | refine below_set ?_ GE291.out) | exact HB.out)) hb); clear HO_0; clear HO302; clear BK291; clear HB; have HO_0 := n0_; have HO302 := n1_; have BK291 := n2_; have HB := n3_; clear n0_ n1_ n2_ n3_; (try clear hb); (try clear hb2); (try clear hk); (try clear hi)) | ((with_reducible refine gate_callee (f := 7) rfl ?_); refine goesL_ (some 42) rfl rfl Tryz.func7 (by kernel_rfl) rfl #[.slice Ao20 t292.length co20] rfl (by (try simp only [List.map_toArray, List.map_cons, List.map_nil]); first | done | rfl | (simp only [List.length_drop, List.length_take]; rfl)) ?_; (with_reducible refine (graftwoodref05_Check.calls k1 _ _ t292 t304 _ ?side1 ?side2 A23.out).mono ?_); (case side1 => repeat (first | exact (Kd.R_reads' HO_0.out).2.2 | (with_reducible refine Kd.C_alloc ?_ _) | (with_reducible refine Kd.C_drewN ?_ _) | (with_reducible refine Kd.C_drew ?_))); (case side2 => exact (Kd.R_reads' HO_0.out).2.1); rintro e w33 ⟨rfl, hb⟩; refine ⟨_, rfl, ?_⟩; have n0_ := Aside0.mk (Kd.R_below (by (with_reducible repeat (first | apply Kd.R_alloc | apply Kd.R_drewN | apply Kd.R_drew)); exact HO_0.out) hb); have n1_ := Aside0.mk (Kd.R_below (by (with_reducible repeat (first | apply Kd.R_alloc | apply Kd.R_drewN | apply Kd.R_drew)); exact HO302.out) hb); have n2_ := Aside0.mk (blk_below (g := gb291) (o := .cells #[.string t295, .string t296] 32 (0, 0)) (by (with_reducible repeat (first | refine blk_drewN ?_ _ | refine blk_drew ?_ | refine blk_alloc ?_ _)); exact BK291.out) hb); have n3_ := Aside0.mk (below_step (by repeat (first | (with_reducible first | exact HB.out | apply below_alloc | apply pw_below_drewN | apply below_drew1 | refine below_set ?_ GE291.out) | exact HB.out)) hb); clear HO_0; clear HO302; clear BK291; clear HB; have HO_0 := n0_; have HO302 := n1_; have BK291 := n2_; have HB := n3_; clear n0_ n1_ n2_ n3_; (try clear hb); (try clear hb2); (try clear hk); (try clear hi)) | (go_at_call 15; (with_reducible refine (graftwoodref05_Set.calls k1 _ _ t292 t305 _ ?side1 ?side2 A28.out).mono ?_); (case side1 => repeat (first | exact (Kd.R_reads' HO_0.out).2.2 | (with_reducible refine Kd.C_alloc ?_ _) | (with_reducible refine Kd.C_drewN ?_ _) | (with_reducible refine Kd.C_drew ?_))); (case side2 => exact (Kd.R_reads' HO_0.out).2.1); rintro e w34 ⟨v306, rfl, ho0, hb⟩; have n0_ := Aside0.mk (Kd.R_elder' (by (with_reducible repeat (first | apply Kd.R_alloc | apply Kd.R_drewN | apply Kd.R_drew)); exact HO_0.out) (Kd.R_base ho0) hb); have n1_ := Aside0.mk (Kd.R_elder' (by (with_reducible repeat (first | apply Kd.R_alloc | apply Kd.R_drewN | apply Kd.R_drew)); exact HO302.out) (Kd.R_base ho0) hb); have n2_ := Aside0.mk (Kd.R_lower (Kd.R_newB (Kd.R_new' (Kd.R_new' ho0 (Kd.R_lt (by (with_reducible repeat (first | apply Kd.R_alloc | apply Kd.R_drewN | apply Kd.R_drew)); exact HO_0.out))) (Kd.R_lt (by (with_reducible repeat (first | apply Kd.R_alloc | apply Kd.R_drewN | apply Kd.R_drew)); exact HO302.out))) (g := gb291) (o := .cells #[.string t295, .string t296] 32 (0, 0)) (by (with_reducible repeat (first | refine blk_drewN ?_ _ | refine blk_drew ?_ | refine blk_alloc ?_ _)); exact BK291.out)) (below_size (by repeat (first | (with_reducible first | exact HB.out | apply below_alloc | apply pw_below_drewN | apply below_drew1 | refine below_set ?_ GE291.out) | exact HB.out)))); have n3_ := Aside0.mk (blk_below (g := gb291) (o := .cells #[.string t295, .string t296] 32 (0, 0)) (by (with_reducible repeat (first | refine blk_drewN ?_ _ | refine blk_drew ?_ | refine blk_alloc ?_ _)); exact BK291.out) hb); have n4_ := Aside0.mk (below_step (by repeat (first | (with_reducible first | exact HB.out | apply below_alloc | apply pw_below_drewN | apply below_drew1 | refine below_set ?_ GE291.out) | exact HB.out)) hb); clear HO_0; clear HO302; clear BK291; clear HB; have HO_0 := n0_; have HO302 := n1_; have HO307 := n2_; have BK291 := n3_; have HB := n4_; clear n0_ n1_ n2_ n3_ n4_; (try clear hb); (try clear hb2); (try clear hk); (try clear hi); (try clear ho0); obtain ⟨Ao35, co35, eo35⟩ := Kd.R_slice HO302.out; subst eo35; obtain ⟨Ao36, co36, eo36⟩ := Kd.R_slice HO307.out; subst eo36) | (go_at_call 9; (with_reducible refine (graftwoodref05_Same.calls k1 _ _ t299 _ _ t305 true _ ?side1 ?side2 ?side3 ?side4 A29.out).mono ?_); (case side1 => repeat (first | exact (Kd.R_reads' HO302.out).2.2 | (with_reducible refine Kd.C_alloc ?_ _) | (with_reducible refine Kd.C_drewN ?_ _) | (with_reducible refine Kd.C_drew ?_))); (case side2 => exact (Kd.R_reads' HO302.out).2.1); (case side3 => repeat (first | exact (Kd.R_reads' HO307.out).2.2 | (with_reducible refine Kd.C_alloc ?_ _) | (with_reducible refine Kd.C_drewN ?_ _) | (with_reducible refine Kd.C_drew ?_))); (case side4 => exact (Kd.R_reads' HO307.out).2.1); rintro e w' ⟨rfl, ⟨nd, rfl⟩⟩))
                  go_meet
                  case rel => exact ⟨_, (false), (by first | rfl | (simp; done) | (simp [*]; done)), H', ⟨by have := HK1.out; first | omega | exact Nat.le_refl _⟩, ⟨by (with_reducible repeat (first | apply Kd.R_alloc | apply Kd.R_drewN | apply Kd.R_drew)); exact Kd.R_mono HO_0.out (fun _ hk => hk.1.1)⟩, ⟨by (with_reducible repeat (first | refine blk_drewN ?_ _ | refine blk_drew ?_ | refine blk_alloc ?_ _)); exact BK291.out⟩, ⟨by repeat (first | (with_reducible first | exact HB.out | apply below_alloc | apply pw_below_drewN | apply below_drew1 | refine below_set ?_ GE291.out) | exact HB.out)⟩⟩
                · rw [if_neg c31] at H
                  have c31b0 : (t300 == 0) = false := beq_eq_false_iff_ne.mpr c31
                  have c31b1 : (t300 != 0) = true := bne_iff_ne.mpr c31
                  have H' := Aside0.mk H
                  clear H
                  go_wp2_with (first | ((with_reducible refine gate_callee (f := 14) rfl ?_); refine goesL_ (some 39) rfl rfl Tryz.func14 (by kernel_rfl) rfl #[.slice Ao20 t292.length co20] rfl (by (try simp only [List.map_toArray, List.map_cons, List.map_nil]); first | done | rfl | (simp only [List.length_drop, List.length_take]; rfl)) ?_; (with_reducible refine (node_Check.calls k1 _ _ t292 t303 _ ?side1 ?side2 A22.out).mono ?_); (case side1 => repeat (first | exact (Kd.R_reads' HO_0.out).2.2 | (with_reducible refine Kd.C_alloc ?_ _) | (with_reducible refine Kd.C_drewN ?_ _) | (with_reducible refine Kd.C_drew ?_))); (case side2 => exact (Kd.R_reads' HO_0.out).2.1); rintro e w37 ⟨rfl, hb⟩; refine ⟨_, rfl, ?_⟩; have n0_ := Aside0.mk (Kd.R_below (by (with_reducible repeat (first | apply Kd.R_alloc | apply Kd.R_drewN | apply Kd.R_drew)); exact HO_0.out) hb); have n1_ := Aside0.mk (Kd.R_below (by (with_reducible repeat (first | apply Kd.R_alloc | apply Kd.R_drewN | apply Kd.R_drew)); exact HO302.out) hb); have n2_ := Aside0.mk (blk_below (g := gb291) (o := .cells #[.string t295, .string t296] 32 (0, 0)) (by (with_reducible repeat (first | refine blk_drewN ?_ _ | refine blk_drew ?_ | refine blk_alloc ?_ _)); exact BK291.out) hb); have n3_ := Aside0.mk (below_step (by repeat (first | (with_reducible first | exact HB.out | apply below_alloc | apply pw_below_drewN | apply below_drew1 | refine below_set ?_ GE291.out) | exact HB.out)) hb); clear HO_0; clear HO302; clear BK291; clear HB; have HO_0 := n0_; have HO302 := n1_; have BK291 := n2_; have HB := n3_; clear n0_ n1_ n2_ n3_; (try clear hb); (try clear hb2); (try clear hk); (try clear hi)) | ((with_reducible refine gate_callee (f := 7) rfl ?_); refine goesL_ (some 42) rfl rfl Tryz.func7 (by kernel_rfl) rfl #[.slice Ao20 t292.length co20] rfl (by (try simp only [List.map_toArray, List.map_cons, List.map_nil]); first | done | rfl | (simp only [List.length_drop, List.length_take]; rfl)) ?_; (with_reducible refine (graftwoodref05_Check.calls k1 _ _ t292 t304 _ ?side1 ?side2 A23.out).mono ?_); (case side1 => repeat (first | exact (Kd.R_reads' HO_0.out).2.2 | (with_reducible refine Kd.C_alloc ?_ _) | (with_reducible refine Kd.C_drewN ?_ _) | (with_reducible refine Kd.C_drew ?_))); (case side2 => exact (Kd.R_reads' HO_0.out).2.1); rintro e w38 ⟨rfl, hb⟩; refine ⟨_, rfl, ?_⟩; have n0_ := Aside0.mk (Kd.R_below (by (with_reducible repeat (first | apply Kd.R_alloc | apply Kd.R_drewN | apply Kd.R_drew)); exact HO_0.out) hb); have n1_ := Aside0.mk (Kd.R_below (by (with_reducible repeat (first | apply Kd.R_alloc | apply Kd.R_drewN | apply Kd.R_drew)); exact HO302.out) hb); have n2_ := Aside0.mk (blk_below (g := gb291) (o := .cells #[.string t295, .string t296] 32 (0, 0)) (by (with_reducible repeat (first | refine blk_drewN ?_ _ | refine blk_drew ?_ | refine blk_alloc ?_ _)); exact BK291.out) hb); have n3_ := Aside0.mk (below_step (by repeat (first | (with_reducible first | exact HB.out | apply below_alloc | apply pw_below_drewN | apply below_drew1 | refine below_set ?_ GE291.out) | exact HB.out)) hb); clear HO_0; clear HO302; clear BK291; clear HB; have HO_0 := n0_; have HO302 := n1_; have BK291 := n2_; have HB := n3_; clear n0_ n1_ n2_ n3_; (try clear hb); (try clear hb2); (try clear hk); (try clear hi)) | (go_at_call 15; (with_reducible refine (graftwoodref05_Set.calls k1 _ _ t292 t305 _ ?side1 ?side2 A28.out).mono ?_); (case side1 => repeat (first | exact (Kd.R_reads' HO_0.out).2.2 | (with_reducible refine Kd.C_alloc ?_ _) | (with_reducible refine Kd.C_drewN ?_ _) | (with_reducible refine Kd.C_drew ?_))); (case side2 => exact (Kd.R_reads' HO_0.out).2.1); rintro e w39 ⟨v306, rfl, ho0, hb⟩; have n0_ := Aside0.mk (Kd.R_elder' (by (with_reducible repeat (first | apply Kd.R_alloc | apply Kd.R_drewN | apply Kd.R_drew)); exact HO_0.out) (Kd.R_base ho0) hb); have n1_ := Aside0.mk (Kd.R_elder' (by (with_reducible repeat (first | apply Kd.R_alloc | apply Kd.R_drewN | apply Kd.R_drew)); exact HO302.out) (Kd.R_base ho0) hb); have n2_ := Aside0.mk (Kd.R_lower (Kd.R_newB (Kd.R_new' (Kd.R_new' ho0 (Kd.R_lt (by (with_reducible repeat (first | apply Kd.R_alloc | apply Kd.R_drewN | apply Kd.R_drew)); exact HO_0.out))) (Kd.R_lt (by (with_reducible repeat (first | apply Kd.R_alloc | apply Kd.R_drewN | apply Kd.R_drew)); exact HO302.out))) (g := gb291) (o := .cells #[.string t295, .string t296] 32 (0, 0)) (by (with_reducible repeat (first | refine blk_drewN ?_ _ | refine blk_drew ?_ | refine blk_alloc ?_ _)); exact BK291.out)) (below_size (by repeat (first | (with_reducible first | exact HB.out | apply below_alloc | apply pw_below_drewN | apply below_drew1 | refine below_set ?_ GE291.out) | exact HB.out)))); have n3_ := Aside0.mk (blk_below (g := gb291) (o := .cells #[.string t295, .string t296] 32 (0, 0)) (by (with_reducible repeat (first | refine blk_drewN ?_ _ | refine blk_drew ?_ | refine blk_alloc ?_ _)); exact BK291.out) hb); have n4_ := Aside0.mk (below_step (by repeat (first | (with_reducible first | exact HB.out | apply below_alloc | apply pw_below_drewN | apply below_drew1 | refine below_set ?_ GE291.out) | exact HB.out)) hb); clear HO_0; clear HO302; clear BK291; clear HB; have HO_0 := n0_; have HO302 := n1_; have HO307 := n2_; have BK291 := n3_; have HB := n4_; clear n0_ n1_ n2_ n3_ n4_; (try clear hb); (try clear hb2); (try clear hk); (try clear hi); (try clear ho0); obtain ⟨Ao40, co40, eo40⟩ := Kd.R_slice HO302.out; subst eo40; obtain ⟨Ao41, co41, eo41⟩ := Kd.R_slice HO307.out; subst eo41) | (go_at_call 9; (with_reducible refine (graftwoodref05_Same.calls k1 _ _ t299 _ _ t305 true _ ?side1 ?side2 ?side3 ?side4 A29.out).mono ?_); (case side1 => repeat (first | exact (Kd.R_reads' HO302.out).2.2 | (with_reducible refine Kd.C_alloc ?_ _) | (with_reducible refine Kd.C_drewN ?_ _) | (with_reducible refine Kd.C_drew ?_))); (case side2 => exact (Kd.R_reads' HO302.out).2.1); (case side3 => repeat (first | exact (Kd.R_reads' HO307.out).2.2 | (with_reducible refine Kd.C_alloc ?_ _) | (with_reducible refine Kd.C_drewN ?_ _) | (with_reducible refine Kd.C_drew ?_))); (case side4 => exact (Kd.R_reads' HO307.out).2.1); rintro e w' ⟨rfl, ⟨nd, rfl⟩⟩))
                  go_meet
                  case rel => exact ⟨_, (true), (by first | rfl | (simp; done) | (simp [*]; done)), H', ⟨by have := HK1.out; first | omega | exact Nat.le_refl _⟩, ⟨by (with_reducible repeat (first | apply Kd.R_alloc | apply Kd.R_drewN | apply Kd.R_drew)); exact Kd.R_mono HO_0.out (fun _ hk => hk.1.1)⟩, ⟨by (with_reducible repeat (first | refine blk_drewN ?_ _ | refine blk_drew ?_ | refine blk_alloc ?_ _)); exact BK291.out⟩, ⟨by repeat (first | (with_reducible first | exact HB.out | apply below_alloc | apply pw_below_drewN | apply below_drew1 | refine below_set ?_ GE291.out) | exact HB.out)⟩⟩
              · replace c30 := Bool.eq_false_iff.mpr c30
                subst c30
                have H1 : (graftwoodlaw05_NodeSets.j1 k1 t292 true t295 t296) = some r := by rw [if_neg (show ¬ (false = true) by decide)] at H; exact H
                clear H
                have H := H1
                clear H1
                have H' := Aside0.mk H
                clear H
                go_wp2_with (first | ((with_reducible refine gate_callee (f := 14) rfl ?_); refine goesL_ (some 39) rfl rfl Tryz.func14 (by kernel_rfl) rfl #[.slice Ao20 t292.length co20] rfl (by (try simp only [List.map_toArray, List.map_cons, List.map_nil]); first | done | rfl | (simp only [List.length_drop, List.length_take]; rfl)) ?_; (with_reducible refine (node_Check.calls k1 _ _ t292 t303 _ ?side1 ?side2 A22.out).mono ?_); (case side1 => repeat (first | exact (Kd.R_reads' HO_0.out).2.2 | (with_reducible refine Kd.C_alloc ?_ _) | (with_reducible refine Kd.C_drewN ?_ _) | (with_reducible refine Kd.C_drew ?_))); (case side2 => exact (Kd.R_reads' HO_0.out).2.1); rintro e w42 ⟨rfl, hb⟩; refine ⟨_, rfl, ?_⟩; have n0_ := Aside0.mk (Kd.R_below (by (with_reducible repeat (first | apply Kd.R_alloc | apply Kd.R_drewN | apply Kd.R_drew)); exact HO_0.out) hb); have n1_ := Aside0.mk (Kd.R_below (by (with_reducible repeat (first | apply Kd.R_alloc | apply Kd.R_drewN | apply Kd.R_drew)); exact HO302.out) hb); have n2_ := Aside0.mk (blk_below (g := gb291) (o := .cells #[.string t295, .string t296] 32 (0, 0)) (by (with_reducible repeat (first | refine blk_drewN ?_ _ | refine blk_drew ?_ | refine blk_alloc ?_ _)); exact BK291.out) hb); have n3_ := Aside0.mk (below_step (by repeat (first | (with_reducible first | exact HB.out | apply below_alloc | apply pw_below_drewN | apply below_drew1 | refine below_set ?_ GE291.out) | exact HB.out)) hb); clear HO_0; clear HO302; clear BK291; clear HB; have HO_0 := n0_; have HO302 := n1_; have BK291 := n2_; have HB := n3_; clear n0_ n1_ n2_ n3_; (try clear hb); (try clear hb2); (try clear hk); (try clear hi)) | ((with_reducible refine gate_callee (f := 7) rfl ?_); refine goesL_ (some 42) rfl rfl Tryz.func7 (by kernel_rfl) rfl #[.slice Ao20 t292.length co20] rfl (by (try simp only [List.map_toArray, List.map_cons, List.map_nil]); first | done | rfl | (simp only [List.length_drop, List.length_take]; rfl)) ?_; (with_reducible refine (graftwoodref05_Check.calls k1 _ _ t292 t304 _ ?side1 ?side2 A23.out).mono ?_); (case side1 => repeat (first | exact (Kd.R_reads' HO_0.out).2.2 | (with_reducible refine Kd.C_alloc ?_ _) | (with_reducible refine Kd.C_drewN ?_ _) | (with_reducible refine Kd.C_drew ?_))); (case side2 => exact (Kd.R_reads' HO_0.out).2.1); rintro e w43 ⟨rfl, hb⟩; refine ⟨_, rfl, ?_⟩; have n0_ := Aside0.mk (Kd.R_below (by (with_reducible repeat (first | apply Kd.R_alloc | apply Kd.R_drewN | apply Kd.R_drew)); exact HO_0.out) hb); have n1_ := Aside0.mk (Kd.R_below (by (with_reducible repeat (first | apply Kd.R_alloc | apply Kd.R_drewN | apply Kd.R_drew)); exact HO302.out) hb); have n2_ := Aside0.mk (blk_below (g := gb291) (o := .cells #[.string t295, .string t296] 32 (0, 0)) (by (with_reducible repeat (first | refine blk_drewN ?_ _ | refine blk_drew ?_ | refine blk_alloc ?_ _)); exact BK291.out) hb); have n3_ := Aside0.mk (below_step (by repeat (first | (with_reducible first | exact HB.out | apply below_alloc | apply pw_below_drewN | apply below_drew1 | refine below_set ?_ GE291.out) | exact HB.out)) hb); clear HO_0; clear HO302; clear BK291; clear HB; have HO_0 := n0_; have HO302 := n1_; have BK291 := n2_; have HB := n3_; clear n0_ n1_ n2_ n3_; (try clear hb); (try clear hb2); (try clear hk); (try clear hi)) | (go_at_call 15; (with_reducible refine (graftwoodref05_Set.calls k1 _ _ t292 t305 _ ?side1 ?side2 A28.out).mono ?_); (case side1 => repeat (first | exact (Kd.R_reads' HO_0.out).2.2 | (with_reducible refine Kd.C_alloc ?_ _) | (with_reducible refine Kd.C_drewN ?_ _) | (with_reducible refine Kd.C_drew ?_))); (case side2 => exact (Kd.R_reads' HO_0.out).2.1); rintro e w44 ⟨v306, rfl, ho0, hb⟩; have n0_ := Aside0.mk (Kd.R_elder' (by (with_reducible repeat (first | apply Kd.R_alloc | apply Kd.R_drewN | apply Kd.R_drew)); exact HO_0.out) (Kd.R_base ho0) hb); have n1_ := Aside0.mk (Kd.R_elder' (by (with_reducible repeat (first | apply Kd.R_alloc | apply Kd.R_drewN | apply Kd.R_drew)); exact HO302.out) (Kd.R_base ho0) hb); have n2_ := Aside0.mk (Kd.R_lower (Kd.R_newB (Kd.R_new' (Kd.R_new' ho0 (Kd.R_lt (by (with_reducible repeat (first | apply Kd.R_alloc | apply Kd.R_drewN | apply Kd.R_drew)); exact HO_0.out))) (Kd.R_lt (by (with_reducible repeat (first | apply Kd.R_alloc | apply Kd.R_drewN | apply Kd.R_drew)); exact HO302.out))) (g := gb291) (o := .cells #[.string t295, .string t296] 32 (0, 0)) (by (with_reducible repeat (first | refine blk_drewN ?_ _ | refine blk_drew ?_ | refine blk_alloc ?_ _)); exact BK291.out)) (below_size (by repeat (first | (with_reducible first | exact HB.out | apply below_alloc | apply pw_below_drewN | apply below_drew1 | refine below_set ?_ GE291.out) | exact HB.out)))); have n3_ := Aside0.mk (blk_below (g := gb291) (o := .cells #[.string t295, .string t296] 32 (0, 0)) (by (with_reducible repeat (first | refine blk_drewN ?_ _ | refine blk_drew ?_ | refine blk_alloc ?_ _)); exact BK291.out) hb); have n4_ := Aside0.mk (below_step (by repeat (first | (with_reducible first | exact HB.out | apply below_alloc | apply pw_below_drewN | apply below_drew1 | refine below_set ?_ GE291.out) | exact HB.out)) hb); clear HO_0; clear HO302; clear BK291; clear HB; have HO_0 := n0_; have HO302 := n1_; have HO307 := n2_; have BK291 := n3_; have HB := n4_; clear n0_ n1_ n2_ n3_ n4_; (try clear hb); (try clear hb2); (try clear hk); (try clear hi); (try clear ho0); obtain ⟨Ao45, co45, eo45⟩ := Kd.R_slice HO302.out; subst eo45; obtain ⟨Ao46, co46, eo46⟩ := Kd.R_slice HO307.out; subst eo46) | (go_at_call 9; (with_reducible refine (graftwoodref05_Same.calls k1 _ _ t299 _ _ t305 false _ ?side1 ?side2 ?side3 ?side4 A29.out).mono ?_); (case side1 => repeat (first | exact (Kd.R_reads' HO302.out).2.2 | (with_reducible refine Kd.C_alloc ?_ _) | (with_reducible refine Kd.C_drewN ?_ _) | (with_reducible refine Kd.C_drew ?_))); (case side2 => exact (Kd.R_reads' HO302.out).2.1); (case side3 => repeat (first | exact (Kd.R_reads' HO307.out).2.2 | (with_reducible refine Kd.C_alloc ?_ _) | (with_reducible refine Kd.C_drewN ?_ _) | (with_reducible refine Kd.C_drew ?_))); (case side4 => exact (Kd.R_reads' HO307.out).2.1); rintro e w' ⟨rfl, ⟨nd, rfl⟩⟩))
                go_meet
                case rel => exact ⟨_, (true), (by first | rfl | (simp; done) | (simp [*]; done)), H', ⟨by have := HK1.out; first | omega | exact Nat.le_refl _⟩, ⟨by (with_reducible repeat (first | apply Kd.R_alloc | apply Kd.R_drewN | apply Kd.R_drew)); exact Kd.R_mono HO_0.out (fun _ hk => hk.1.1)⟩, ⟨by (with_reducible repeat (first | refine blk_drewN ?_ _ | refine blk_drew ?_ | refine blk_alloc ?_ _)); exact BK291.out⟩, ⟨by repeat (first | (with_reducible first | exact HB.out | apply below_alloc | apply pw_below_drewN | apply below_drew1 | refine below_set ?_ GE291.out) | exact HB.out)⟩⟩
            · replace c27 := Bool.eq_false_iff.mpr c27
              subst c27
              have H1 : (if (t299.length : Int) > 0 then (graftwoodlaw05_NodeSets.j1 k1 t292 true t295 t296) else (graftwoodlaw05_NodeSets.j1 k1 t292 (t300 != 1) t295 t296)) = some r := by rw [if_neg (show ¬ (false = true) by decide)] at H; exact H
              clear H
              have H := H1
              clear H1
              by_cases c47 : (t299.length : Int) > 0
              · rw [if_pos c47] at H
                have c47b0 : decide (0 < (t299.length : Int)) = true := decide_eq_true c47
                have c47b1 : decide (0 < t299.length) = true := decide_eq_true (by omega)
                clear c47
                have H' := Aside0.mk H
                clear H
                go_wp2_with (first | ((with_reducible refine gate_callee (f := 14) rfl ?_); refine goesL_ (some 39) rfl rfl Tryz.func14 (by kernel_rfl) rfl #[.slice Ao20 t292.length co20] rfl (by (try simp only [List.map_toArray, List.map_cons, List.map_nil]); first | done | rfl | (simp only [List.length_drop, List.length_take]; rfl)) ?_; (with_reducible refine (node_Check.calls k1 _ _ t292 t303 _ ?side1 ?side2 A22.out).mono ?_); (case side1 => repeat (first | exact (Kd.R_reads' HO_0.out).2.2 | (with_reducible refine Kd.C_alloc ?_ _) | (with_reducible refine Kd.C_drewN ?_ _) | (with_reducible refine Kd.C_drew ?_))); (case side2 => exact (Kd.R_reads' HO_0.out).2.1); rintro e w48 ⟨rfl, hb⟩; refine ⟨_, rfl, ?_⟩; have n0_ := Aside0.mk (Kd.R_below (by (with_reducible repeat (first | apply Kd.R_alloc | apply Kd.R_drewN | apply Kd.R_drew)); exact HO_0.out) hb); have n1_ := Aside0.mk (Kd.R_below (by (with_reducible repeat (first | apply Kd.R_alloc | apply Kd.R_drewN | apply Kd.R_drew)); exact HO302.out) hb); have n2_ := Aside0.mk (blk_below (g := gb291) (o := .cells #[.string t295, .string t296] 32 (0, 0)) (by (with_reducible repeat (first | refine blk_drewN ?_ _ | refine blk_drew ?_ | refine blk_alloc ?_ _)); exact BK291.out) hb); have n3_ := Aside0.mk (below_step (by repeat (first | (with_reducible first | exact HB.out | apply below_alloc | apply pw_below_drewN | apply below_drew1 | refine below_set ?_ GE291.out) | exact HB.out)) hb); clear HO_0; clear HO302; clear BK291; clear HB; have HO_0 := n0_; have HO302 := n1_; have BK291 := n2_; have HB := n3_; clear n0_ n1_ n2_ n3_; (try clear hb); (try clear hb2); (try clear hk); (try clear hi)) | ((with_reducible refine gate_callee (f := 7) rfl ?_); refine goesL_ (some 42) rfl rfl Tryz.func7 (by kernel_rfl) rfl #[.slice Ao20 t292.length co20] rfl (by (try simp only [List.map_toArray, List.map_cons, List.map_nil]); first | done | rfl | (simp only [List.length_drop, List.length_take]; rfl)) ?_; (with_reducible refine (graftwoodref05_Check.calls k1 _ _ t292 t304 _ ?side1 ?side2 A23.out).mono ?_); (case side1 => repeat (first | exact (Kd.R_reads' HO_0.out).2.2 | (with_reducible refine Kd.C_alloc ?_ _) | (with_reducible refine Kd.C_drewN ?_ _) | (with_reducible refine Kd.C_drew ?_))); (case side2 => exact (Kd.R_reads' HO_0.out).2.1); rintro e w49 ⟨rfl, hb⟩; refine ⟨_, rfl, ?_⟩; have n0_ := Aside0.mk (Kd.R_below (by (with_reducible repeat (first | apply Kd.R_alloc | apply Kd.R_drewN | apply Kd.R_drew)); exact HO_0.out) hb); have n1_ := Aside0.mk (Kd.R_below (by (with_reducible repeat (first | apply Kd.R_alloc | apply Kd.R_drewN | apply Kd.R_drew)); exact HO302.out) hb); have n2_ := Aside0.mk (blk_below (g := gb291) (o := .cells #[.string t295, .string t296] 32 (0, 0)) (by (with_reducible repeat (first | refine blk_drewN ?_ _ | refine blk_drew ?_ | refine blk_alloc ?_ _)); exact BK291.out) hb); have n3_ := Aside0.mk (below_step (by repeat (first | (with_reducible first | exact HB.out | apply below_alloc | apply pw_below_drewN | apply below_drew1 | refine below_set ?_ GE291.out) | exact HB.out)) hb); clear HO_0; clear HO302; clear BK291; clear HB; have HO_0 := n0_; have HO302 := n1_; have BK291 := n2_; have HB := n3_; clear n0_ n1_ n2_ n3_; (try clear hb); (try clear hb2); (try clear hk); (try clear hi); obtain ⟨Ao50, co50, eo50⟩ := Kd.R_slice HO302.out; subst eo50))
                go_meet
                case rel => exact ⟨_, (true), (by first | rfl | (simp; done) | (simp [*]; done)), H', ⟨by have := HK1.out; first | omega | exact Nat.le_refl _⟩, ⟨by (with_reducible repeat (first | apply Kd.R_alloc | apply Kd.R_drewN | apply Kd.R_drew)); exact Kd.R_mono HO_0.out (fun _ hk => hk.1)⟩, ⟨by (with_reducible repeat (first | refine blk_drewN ?_ _ | refine blk_drew ?_ | refine blk_alloc ?_ _)); exact BK291.out⟩, ⟨by repeat (first | (with_reducible first | exact HB.out | apply below_alloc | apply pw_below_drewN | apply below_drew1 | refine below_set ?_ GE291.out) | exact HB.out)⟩⟩
              · rw [if_neg c47] at H
                have c47b0 : decide (0 < (t299.length : Int)) = false := decide_eq_false c47
                have c47b1 : decide (0 < t299.length) = false := decide_eq_false (by omega)
                clear c47
                have H' := Aside0.mk H
                clear H
                go_wp2_with (first | ((with_reducible refine gate_callee (f := 14) rfl ?_); refine goesL_ (some 39) rfl rfl Tryz.func14 (by kernel_rfl) rfl #[.slice Ao20 t292.length co20] rfl (by (try simp only [List.map_toArray, List.map_cons, List.map_nil]); first | done | rfl | (simp only [List.length_drop, List.length_take]; rfl)) ?_; (with_reducible refine (node_Check.calls k1 _ _ t292 t303 _ ?side1 ?side2 A22.out).mono ?_); (case side1 => repeat (first | exact (Kd.R_reads' HO_0.out).2.2 | (with_reducible refine Kd.C_alloc ?_ _) | (with_reducible refine Kd.C_drewN ?_ _) | (with_reducible refine Kd.C_drew ?_))); (case side2 => exact (Kd.R_reads' HO_0.out).2.1); rintro e w51 ⟨rfl, hb⟩; refine ⟨_, rfl, ?_⟩; have n0_ := Aside0.mk (Kd.R_below (by (with_reducible repeat (first | apply Kd.R_alloc | apply Kd.R_drewN | apply Kd.R_drew)); exact HO_0.out) hb); have n1_ := Aside0.mk (Kd.R_below (by (with_reducible repeat (first | apply Kd.R_alloc | apply Kd.R_drewN | apply Kd.R_drew)); exact HO302.out) hb); have n2_ := Aside0.mk (blk_below (g := gb291) (o := .cells #[.string t295, .string t296] 32 (0, 0)) (by (with_reducible repeat (first | refine blk_drewN ?_ _ | refine blk_drew ?_ | refine blk_alloc ?_ _)); exact BK291.out) hb); have n3_ := Aside0.mk (below_step (by repeat (first | (with_reducible first | exact HB.out | apply below_alloc | apply pw_below_drewN | apply below_drew1 | refine below_set ?_ GE291.out) | exact HB.out)) hb); clear HO_0; clear HO302; clear BK291; clear HB; have HO_0 := n0_; have HO302 := n1_; have BK291 := n2_; have HB := n3_; clear n0_ n1_ n2_ n3_; (try clear hb); (try clear hb2); (try clear hk); (try clear hi)) | ((with_reducible refine gate_callee (f := 7) rfl ?_); refine goesL_ (some 42) rfl rfl Tryz.func7 (by kernel_rfl) rfl #[.slice Ao20 t292.length co20] rfl (by (try simp only [List.map_toArray, List.map_cons, List.map_nil]); first | done | rfl | (simp only [List.length_drop, List.length_take]; rfl)) ?_; (with_reducible refine (graftwoodref05_Check.calls k1 _ _ t292 t304 _ ?side1 ?side2 A23.out).mono ?_); (case side1 => repeat (first | exact (Kd.R_reads' HO_0.out).2.2 | (with_reducible refine Kd.C_alloc ?_ _) | (with_reducible refine Kd.C_drewN ?_ _) | (with_reducible refine Kd.C_drew ?_))); (case side2 => exact (Kd.R_reads' HO_0.out).2.1); rintro e w52 ⟨rfl, hb⟩; refine ⟨_, rfl, ?_⟩; have n0_ := Aside0.mk (Kd.R_below (by (with_reducible repeat (first | apply Kd.R_alloc | apply Kd.R_drewN | apply Kd.R_drew)); exact HO_0.out) hb); have n1_ := Aside0.mk (Kd.R_below (by (with_reducible repeat (first | apply Kd.R_alloc | apply Kd.R_drewN | apply Kd.R_drew)); exact HO302.out) hb); have n2_ := Aside0.mk (blk_below (g := gb291) (o := .cells #[.string t295, .string t296] 32 (0, 0)) (by (with_reducible repeat (first | refine blk_drewN ?_ _ | refine blk_drew ?_ | refine blk_alloc ?_ _)); exact BK291.out) hb); have n3_ := Aside0.mk (below_step (by repeat (first | (with_reducible first | exact HB.out | apply below_alloc | apply pw_below_drewN | apply below_drew1 | refine below_set ?_ GE291.out) | exact HB.out)) hb); clear HO_0; clear HO302; clear BK291; clear HB; have HO_0 := n0_; have HO302 := n1_; have BK291 := n2_; have HB := n3_; clear n0_ n1_ n2_ n3_; (try clear hb); (try clear hb2); (try clear hk); (try clear hi); obtain ⟨Ao53, co53, eo53⟩ := Kd.R_slice HO302.out; subst eo53))
                go_meet
                case rel => exact ⟨_, ((t300 != 1)), (by first | rfl | (simp; done) | (simp [*]; done)), H', ⟨by have := HK1.out; first | omega | exact Nat.le_refl _⟩, ⟨by (with_reducible repeat (first | apply Kd.R_alloc | apply Kd.R_drewN | apply Kd.R_drew)); exact Kd.R_mono HO_0.out (fun _ hk => hk.1)⟩, ⟨by (with_reducible repeat (first | refine blk_drewN ?_ _ | refine blk_drew ?_ | refine blk_alloc ?_ _)); exact BK291.out⟩, ⟨by repeat (first | (with_reducible first | exact HB.out | apply below_alloc | apply pw_below_drewN | apply below_drew1 | refine below_set ?_ GE291.out) | exact HB.out)⟩⟩
        case rest =>
          clear HC19
          try clear c1
          try clear c2
          try clear p2
          try clear q2
          try clear hx2
          try clear c3
          try clear c4
          try clear c5
          try clear p6
          try clear c7
          try clear c11
          try clear c11b0
          try clear c12
          try clear c13
          try clear c13b0
          try clear c14
          try clear c24
          try clear c24b0
          try clear c24b1
          try clear c24b2
          try clear c27
          try clear p29
          try clear q29
          try clear hx29
          try clear c30
          try clear c31
          try clear c31b0
          try clear c31b1
          try clear c47
          try clear c47b0
          try clear c47b1
          try clear hx297_0
          try clear hx297_1
          try clear p2
          try clear p297
          try clear q297
          obtain ⟨kq, x70_18, rfl, HA, HJ18, HO_0, BK291, HB⟩ := hcut
          cases kq with
          | zero => exact absurd HA.out (by simp [graftwoodlaw05_NodeSets.j1])
          | succ kj18 =>
            have H := HA.out
            clear HA
            simp only [graftwoodlaw05_NodeSets.j1] at H
            by_cases c54 : x70_18 = true
            · subst c54
              have H1 : (some false) = some r := by rw [if_pos rfl] at H; exact H
              clear H
              have H := H1
              clear H1
              obtain rfl := Option.some.inj H
              go_wp2
              go_ret
              exact ⟨by first | rfl | (simp [errW_none, errW_some] <;> rfl) | (simp [*, errW_none, errW_some] <;> rfl), by repeat (first | (with_reducible first | exact HB.out | apply below_alloc | apply pw_below_drewN | apply below_drew1 | refine below_set ?_ GE291.out) | exact HB.out)⟩
            · replace c54 := Bool.eq_false_iff.mpr c54
              subst c54
              have H1 : ((node_Has.f t292 t295 t296).bind fun bt309 => ((node_With.f t292 t295 t296).bind fun bt311 => ((node_Without.f t292 t295 t296).bind fun bt315 => ((graftwoodref05_Check.f kj18 t292).bind fun t319 => (if t319 = true then ((graftwoodref05_May.f kj18 t295 t296).bind fun t320 => (graftwoodlaw05_NodeSets.j2 kj18 t292 bt309.1 bt309.2 bt311.1 bt311.2 bt315.1 bt315.2 (!t320) t295 t296)) else (graftwoodlaw05_NodeSets.j2 kj18 t292 bt309.1 bt309.2 bt311.1 bt311.2 bt315.1 bt315.2 true t295 t296)))))) = some r := by rw [if_neg (show ¬ (false = true) by decide)] at H; exact H
              clear H
              have H := H1
              clear H1
              replace H := Option.bind_eq_some_iff.mp H
              obtain ⟨⟨t309, t310⟩, A550, H⟩ := H
              replace H : ((node_With.f t292 t295 t296).bind fun bt311 => ((node_Without.f t292 t295 t296).bind fun bt315 => ((graftwoodref05_Check.f kj18 t292).bind fun t319 => (if t319 = true then ((graftwoodref05_May.f kj18 t295 t296).bind fun t320 => (graftwoodlaw05_NodeSets.j2 kj18 t292 t309 t310 bt311.1 bt311.2 bt315.1 bt315.2 (!t320) t295 t296)) else (graftwoodlaw05_NodeSets.j2 kj18 t292 t309 t310 bt311.1 bt311.2 bt315.1 bt315.2 true t295 t296))))) = some r := H
              have A55 := Aside0.mk A550
              clear A550
              replace H := Option.bind_eq_some_iff.mp H
              obtain ⟨⟨t311, t314⟩, A560, H⟩ := H
              replace H : ((node_Without.f t292 t295 t296).bind fun bt315 => ((graftwoodref05_Check.f kj18 t292).bind fun t319 => (if t319 = true then ((graftwoodref05_May.f kj18 t295 t296).bind fun t320 => (graftwoodlaw05_NodeSets.j2 kj18 t292 t309 t310 t311 t314 bt315.1 bt315.2 (!t320) t295 t296)) else (graftwoodlaw05_NodeSets.j2 kj18 t292 t309 t310 t311 t314 bt315.1 bt315.2 true t295 t296)))) = some r := H
              have A56 := Aside0.mk A560
              clear A560
              replace H := Option.bind_eq_some_iff.mp H
              obtain ⟨⟨t315, t318⟩, A570, H⟩ := H
              replace H : ((graftwoodref05_Check.f kj18 t292).bind fun t319 => (if t319 = true then ((graftwoodref05_May.f kj18 t295 t296).bind fun t320 => (graftwoodlaw05_NodeSets.j2 kj18 t292 t309 t310 t311 t314 t315 t318 (!t320) t295 t296)) else (graftwoodlaw05_NodeSets.j2 kj18 t292 t309 t310 t311 t314 t315 t318 true t295 t296))) = some r := H
              have A57 := Aside0.mk A570
              clear A570
              have HC58 := Aside0.mk H
              clear H
              have hcz59_0 : wc.cell? ⟨gb291, 0, none⟩ = some (.string t295) := (blk_cell BK291.out 0).trans rfl
              have hcz59_1 : wc.cell? ⟨gb291, 1, none⟩ = some (.string t296) := (blk_cell BK291.out 1).trans rfl
              have hfz59_0 := blk_frozen BK291.out 0
              have hfz59_1 := blk_frozen BK291.out 1
              go_upto_region 13 with (first | ((with_reducible refine gate_callee (f := 16) rfl ?_); refine goesL_ (some 74) rfl rfl Tryz.func16 (by kernel_rfl) rfl #[.slice Ao20 t292.length co20, .agg #[.string t295, .string t296]] rfl (by (try simp only [List.map_toArray, List.map_cons, List.map_nil]); first | done | rfl | (simp only [List.length_drop, List.length_take]; rfl)) ?_; (with_reducible refine (node_Has.calls _ _ t292 t295 t296 t309 t310 _ ?side1 ?side2 A55.out).mono ?_); (case side1 => repeat (first | exact (Kd.R_reads' HO_0.out).2.2 | (with_reducible refine Kd.C_alloc ?_ _) | (with_reducible refine Kd.C_drewN ?_ _) | (with_reducible refine Kd.C_drew ?_))); (case side2 => exact (Kd.R_reads' HO_0.out).2.1); rintro e w60 ⟨rfl, hb⟩; refine ⟨_, rfl, ?_⟩; have n0_ := Aside0.mk (Kd.R_below (by (with_reducible repeat (first | apply Kd.R_alloc | apply Kd.R_drewN | apply Kd.R_drew)); exact HO_0.out) hb); have n1_ := Aside0.mk (blk_below (g := gb291) (o := .cells #[.string t295, .string t296] 32 (0, 0)) (by (with_reducible repeat (first | refine blk_drewN ?_ _ | refine blk_drew ?_ | refine blk_alloc ?_ _)); exact BK291.out) hb); have n2_ := Aside0.mk (below_step (by repeat (first | (with_reducible first | exact HB.out | apply below_alloc | apply pw_below_drewN | apply below_drew1 | refine below_set ?_ GE291.out) | exact HB.out)) hb); clear HO_0; clear BK291; clear HB; have HO_0 := n0_; have BK291 := n1_; have HB := n2_; clear n0_ n1_ n2_; (try clear hb); (try clear hb2); (try clear hk); (try clear hi); have hcz61_0 : w60.cell? ⟨gb291, 0, none⟩ = some (.string t295) := (blk_cell BK291.out 0).trans rfl; have hcz61_1 : w60.cell? ⟨gb291, 1, none⟩ = some (.string t296) := (blk_cell BK291.out 1).trans rfl; have hfz61_0 := blk_frozen BK291.out 0; have hfz61_1 := blk_frozen BK291.out 1) | ((with_reducible refine gate_callee (f := 17) rfl ?_); refine goesL_ (some 80) rfl rfl Tryz.func17 (by kernel_rfl) rfl #[.slice Ao20 t292.length co20, .agg #[.string t295, .string t296]] rfl (by (try simp only [List.map_toArray, List.map_cons, List.map_nil]); first | done | rfl | (simp only [List.length_drop, List.length_take]; rfl)) ?_; (with_reducible refine (node_With.calls _ _ t292 t295 t296 t311 t314 _ ?side1 ?side2 A56.out).mono ?_); (case side1 => repeat (first | exact (Kd.R_reads' HO_0.out).2.2 | (with_reducible refine Kd.C_alloc ?_ _) | (with_reducible refine Kd.C_drewN ?_ _) | (with_reducible refine Kd.C_drew ?_))); (case side2 => exact (Kd.R_reads' HO_0.out).2.1); rintro e w62 ⟨v312, rfl, ho0, hb⟩; refine ⟨_, rfl, ?_⟩; have n0_ := Aside0.mk (Kd.R_elder' (by (with_reducible repeat (first | apply Kd.R_alloc | apply Kd.R_drewN | apply Kd.R_drew)); exact HO_0.out) (Kd.R_base ho0) hb); have n1_ := Aside0.mk (Kd.R_lower (Kd.R_newB (Kd.R_new' ho0 (Kd.R_lt (by (with_reducible repeat (first | apply Kd.R_alloc | apply Kd.R_drewN | apply Kd.R_drew)); exact HO_0.out))) (g := gb291) (o := .cells #[.string t295, .string t296] 32 (0, 0)) (by (with_reducible repeat (first | refine blk_drewN ?_ _ | refine blk_drew ?_ | refine blk_alloc ?_ _)); exact BK291.out)) (below_size (by repeat (first | (with_reducible first | exact HB.out | apply below_alloc | apply pw_below_drewN | apply below_drew1 | refine below_set ?_ GE291.out) | exact HB.out)))); have n2_ := Aside0.mk (blk_below (g := gb291) (o := .cells #[.string t295, .string t296] 32 (0, 0)) (by (with_reducible repeat (first | refine blk_drewN ?_ _ | refine blk_drew ?_ | refine blk_alloc ?_ _)); exact BK291.out) hb); have n3_ := Aside0.mk (below_step (by repeat (first | (with_reducible first | exact HB.out | apply below_alloc | apply pw_below_drewN | apply below_drew1 | refine below_set ?_ GE291.out) | exact HB.out)) hb); clear HO_0; clear BK291; clear HB; have HO_0 := n0_; have HO313 := n1_; have BK291 := n2_; have HB := n3_; clear n0_ n1_ n2_ n3_; (try clear hb); (try clear hb2); (try clear hk); (try clear hi); (try clear ho0); have hcz63_0 : w62.cell? ⟨gb291, 0, none⟩ = some (.string t295) := (blk_cell BK291.out 0).trans rfl; have hcz63_1 : w62.cell? ⟨gb291, 1, none⟩ = some (.string t296) := (blk_cell BK291.out 1).trans rfl; have hfz63_0 := blk_frozen BK291.out 0; have hfz63_1 := blk_frozen BK291.out 1) | ((with_reducible refine gate_callee (f := 18) rfl ?_); refine goesL_ (some 86) rfl rfl Tryz.func18 (by kernel_rfl) rfl #[.slice Ao20 t292.length co20, .agg #[.string t295, .string t296]] rfl (by (try simp only [List.map_toArray, List.map_cons, List.map_nil]); first | done | rfl | (simp only [List.length_drop, List.length_take]; rfl)) ?_; (with_reducible refine (node_Without.calls _ _ t292 t295 t296 t315 t318 _ ?side1 ?side2 A57.out).mono ?_); (case side1 => repeat (first | exact (Kd.R_reads' HO_0.out).2.2 | (with_reducible refine Kd.C_alloc ?_ _) | (with_reducible refine Kd.C_drewN ?_ _) | (with_reducible refine Kd.C_drew ?_))); (case side2 => exact (Kd.R_reads' HO_0.out).2.1); rintro e w64 ⟨v316, rfl, ho0, hb⟩; refine ⟨_, rfl, ?_⟩; have n0_ := Aside0.mk (Kd.R_elder' (by (with_reducible repeat (first | apply Kd.R_alloc | apply Kd.R_drewN | apply Kd.R_drew)); exact HO_0.out) (Kd.R_base ho0) hb); have n1_ := Aside0.mk (Kd.R_elder' (by (with_reducible repeat (first | apply Kd.R_alloc | apply Kd.R_drewN | apply Kd.R_drew)); exact HO313.out) (Kd.R_base ho0) hb); have n2_ := Aside0.mk (Kd.R_lower (Kd.R_newB (Kd.R_new' (Kd.R_new' ho0 (Kd.R_lt (by (with_reducible repeat (first | apply Kd.R_alloc | apply Kd.R_drewN | apply Kd.R_drew)); exact HO_0.out))) (Kd.R_lt (by (with_reducible repeat (first | apply Kd.R_alloc | apply Kd.R_drewN | apply Kd.R_drew)); exact HO313.out))) (g := gb291) (o := .cells #[.string t295, .string t296] 32 (0, 0)) (by (with_reducible repeat (first | refine blk_drewN ?_ _ | refine blk_drew ?_ | refine blk_alloc ?_ _)); exact BK291.out)) (below_size (by repeat (first | (with_reducible first | exact HB.out | apply below_alloc | apply pw_below_drewN | apply below_drew1 | refine below_set ?_ GE291.out) | exact HB.out)))); have n3_ := Aside0.mk (blk_below (g := gb291) (o := .cells #[.string t295, .string t296] 32 (0, 0)) (by (with_reducible repeat (first | refine blk_drewN ?_ _ | refine blk_drew ?_ | refine blk_alloc ?_ _)); exact BK291.out) hb); have n4_ := Aside0.mk (below_step (by repeat (first | (with_reducible first | exact HB.out | apply below_alloc | apply pw_below_drewN | apply below_drew1 | refine below_set ?_ GE291.out) | exact HB.out)) hb); clear HO_0; clear HO313; clear BK291; clear HB; have HO_0 := n0_; have HO313 := n1_; have HO317 := n2_; have BK291 := n3_; have HB := n4_; clear n0_ n1_ n2_ n3_ n4_; (try clear hb); (try clear hb2); (try clear hk); (try clear hi); (try clear ho0)))
              (try simp only [Act.put, List.setIfInBounds_toArray, List.set_cons_zero, List.set_cons_succ])
              go_cut [96] (fun v96 wc => ∃ (kq : Nat) (x96_57 : Bool), v96 = .bool x96_57 ∧ Aside0 (graftwoodlaw05_NodeSets.j2 kq t292 t309 t310 t311 t314 t315 t318 x96_57 t295 t296 = some r) ∧ Aside0 (kq ≤ kj18) ∧ Aside0 (Kd.R k32 32 wc w.heap.size (fun k_ => some k_ ≠ (v312 : Value).ownBlock ∧ some k_ ≠ (v316 : Value).ownBlock ∧ k_ ≠ gb291) (.slice Ao20 t292.length co20) t292) ∧ Aside0 (Kd.R k32 32 wc w.heap.size (fun k_ => some k_ ≠ ((.slice Ao20 t292.length co20) : Value).ownBlock ∧ some k_ ≠ (v316 : Value).ownBlock ∧ k_ ≠ gb291) v312 t311) ∧ Aside0 (Kd.R k32 32 wc w.heap.size (fun k_ => some k_ ≠ ((.slice Ao20 t292.length co20) : Value).ownBlock ∧ some k_ ≠ (v312 : Value).ownBlock ∧ k_ ≠ gb291) v316 t315) ∧ Aside0 (wc.heap[gb291]? = some (.cells #[.string t295, .string t296] 32 (0, 0))) ∧ Aside0 (Below w.heap.size w wc))
              case first =>
                have H := HC58.out
                clear HC58
                replace H := Option.bind_eq_some_iff.mp H
                obtain ⟨t319, A650, H⟩ := H
                replace H : (if t319 = true then ((graftwoodref05_May.f kj18 t295 t296).bind fun t320 => (graftwoodlaw05_NodeSets.j2 kj18 t292 t309 t310 t311 t314 t315 t318 (!t320) t295 t296)) else (graftwoodlaw05_NodeSets.j2 kj18 t292 t309 t310 t311 t314 t315 t318 true t295 t296)) = some r := H
                have A65 := Aside0.mk A650
                clear A650
                by_cases c66 : t319 = true
                · subst c66
                  have H1 : ((graftwoodref05_May.f kj18 t295 t296).bind fun t320 => (graftwoodlaw05_NodeSets.j2 kj18 t292 t309 t310 t311 t314 t315 t318 (!t320) t295 t296)) = some r := by rw [if_pos rfl] at H; exact H
                  clear H
                  have H := H1
                  clear H1
                  replace H := Option.bind_eq_some_iff.mp H
                  obtain ⟨t320, A670, H⟩ := H
                  replace H : (graftwoodlaw05_NodeSets.j2 kj18 t292 t309 t310 t311 t314 t315 t318 (!t320) t295 t296) = some r := H
                  have A67 := Aside0.mk A670
                  clear A670
                  have H' := Aside0.mk H
                  clear H
                  go_wp2_with (first | ((with_reducible refine gate_callee (f := 7) rfl ?_); refine goesL_ (some 90) rfl rfl Tryz.func7 (by kernel_rfl) rfl #[.slice Ao20 t292.length co20] rfl (by (try simp only [List.map_toArray, List.map_cons, List.map_nil]); first | done | rfl | (simp only [List.length_drop, List.length_take]; rfl)) ?_; (with_reducible refine (graftwoodref05_Check.calls kj18 _ _ t292 true _ ?side1 ?side2 A65.out).mono ?_); (case side1 => repeat (first | exact (Kd.R_reads' HO_0.out).2.2 | (with_reducible refine Kd.C_alloc ?_ _) | (with_reducible refine Kd.C_drewN ?_ _) | (with_reducible refine Kd.C_drew ?_))); (case side2 => exact (Kd.R_reads' HO_0.out).2.1); rintro e w68 ⟨rfl, hb⟩; refine ⟨_, rfl, ?_⟩; have n0_ := Aside0.mk (Kd.R_below (by (with_reducible repeat (first | apply Kd.R_alloc | apply Kd.R_drewN | apply Kd.R_drew)); exact HO_0.out) hb); have n1_ := Aside0.mk (Kd.R_below (by (with_reducible repeat (first | apply Kd.R_alloc | apply Kd.R_drewN | apply Kd.R_drew)); exact HO313.out) hb); have n2_ := Aside0.mk (Kd.R_below (by (with_reducible repeat (first | apply Kd.R_alloc | apply Kd.R_drewN | apply Kd.R_drew)); exact HO317.out) hb); have n3_ := Aside0.mk (blk_below (g := gb291) (o := .cells #[.string t295, .string t296] 32 (0, 0)) (by (with_reducible repeat (first | refine blk_drewN ?_ _ | refine blk_drew ?_ | refine blk_alloc ?_ _)); exact BK291.out) hb); have n4_ := Aside0.mk (below_step (by repeat (first | (with_reducible first | exact HB.out | apply below_alloc | apply pw_below_drewN | apply below_drew1 | refine below_set ?_ GE291.out) | exact HB.out)) hb); clear HO_0; clear HO313; clear HO317; clear BK291; clear HB; have HO_0 := n0_; have HO313 := n1_; have HO317 := n2_; have BK291 := n3_; have HB := n4_; clear n0_ n1_ n2_ n3_ n4_; (try clear hb); (try clear hb2); (try clear hk); (try clear hi); have hcz69_0 : w68.cell? ⟨gb291, 0, none⟩ = some (.string t295) := (blk_cell BK291.out 0).trans rfl; have hcz69_1 : w68.cell? ⟨gb291, 1, none⟩ = some (.string t296) := (blk_cell BK291.out 1).trans rfl; have hfz69_0 := blk_frozen BK291.out 0; have hfz69_1 := blk_frozen BK291.out 1) | (go_at_call 12; (with_reducible refine (graftwoodref05_May.calls kj18 t295 t296 t320 _ A67.out).mono ?_); rintro e w70 ⟨rfl, hb⟩; have n0_ := Aside0.mk (Kd.R_below (by (with_reducible repeat (first | apply Kd.R_alloc | apply Kd.R_drewN | apply Kd.R_drew)); exact HO_0.out) hb); have n1_ := Aside0.mk (Kd.R_below (by (with_reducible repeat (first | apply Kd.R_alloc | apply Kd.R_drewN | apply Kd.R_drew)); exact HO313.out) hb); have n2_ := Aside0.mk (Kd.R_below (by (with_reducible repeat (first | apply Kd.R_alloc | apply Kd.R_drewN | apply Kd.R_drew)); exact HO317.out) hb); have n3_ := Aside0.mk (blk_below (g := gb291) (o := .cells #[.string t295, .string t296] 32 (0, 0)) (by (with_reducible repeat (first | refine blk_drewN ?_ _ | refine blk_drew ?_ | refine blk_alloc ?_ _)); exact BK291.out) hb); have n4_ := Aside0.mk (below_step (by repeat (first | (with_reducible first | exact HB.out | apply below_alloc | apply pw_below_drewN | apply below_drew1 | refine below_set ?_ GE291.out) | exact HB.out)) hb); clear HO_0; clear HO313; clear HO317; clear BK291; clear HB; have HO_0 := n0_; have HO313 := n1_; have HO317 := n2_; have BK291 := n3_; have HB := n4_; clear n0_ n1_ n2_ n3_ n4_; (try clear hb); (try clear hb2); (try clear hk); (try clear hi)))
                  go_meet
                  case rel => exact ⟨_, (!t320), (by first | rfl | (simp; done) | (simp [*]; done)), H', ⟨by have := HK1.out; have := HJ18.out; first | omega | exact Nat.le_refl _⟩, ⟨by (with_reducible repeat (first | apply Kd.R_alloc | apply Kd.R_drewN | apply Kd.R_drew)); exact Kd.R_mono HO_0.out (fun _ hk => ⟨hk.1.2, ⟨hk.2, hk.1.1⟩⟩)⟩, ⟨by (with_reducible repeat (first | apply Kd.R_alloc | apply Kd.R_drewN | apply Kd.R_drew)); exact Kd.R_mono HO313.out (fun _ hk => ⟨hk.1.1.2, ⟨hk.2, hk.1.2⟩⟩)⟩, ⟨by (with_reducible repeat (first | apply Kd.R_alloc | apply Kd.R_drewN | apply Kd.R_drew)); exact Kd.R_mono HO317.out (fun _ hk => ⟨hk.1.1.2, ⟨hk.1.2, hk.2⟩⟩)⟩, ⟨by (with_reducible repeat (first | refine blk_drewN ?_ _ | refine blk_drew ?_ | refine blk_alloc ?_ _)); exact BK291.out⟩, ⟨by repeat (first | (with_reducible first | exact HB.out | apply below_alloc | apply pw_below_drewN | apply below_drew1 | refine below_set ?_ GE291.out) | exact HB.out)⟩⟩
                · replace c66 := Bool.eq_false_iff.mpr c66
                  subst c66
                  have H1 : (graftwoodlaw05_NodeSets.j2 kj18 t292 t309 t310 t311 t314 t315 t318 true t295 t296) = some r := by rw [if_neg (show ¬ (false = true) by decide)] at H; exact H
                  clear H
                  have H := H1
                  clear H1
                  have H' := Aside0.mk H
                  clear H
                  go_wp2_with (first | ((with_reducible refine gate_callee (f := 7) rfl ?_); refine goesL_ (some 90) rfl rfl Tryz.func7 (by kernel_rfl) rfl #[.slice Ao20 t292.length co20] rfl (by (try simp only [List.map_toArray, List.map_cons, List.map_nil]); first | done | rfl | (simp only [List.length_drop, List.length_take]; rfl)) ?_; (with_reducible refine (graftwoodref05_Check.calls kj18 _ _ t292 false _ ?side1 ?side2 A65.out).mono ?_); (case side1 => repeat (first | exact (Kd.R_reads' HO_0.out).2.2 | (with_reducible refine Kd.C_alloc ?_ _) | (with_reducible refine Kd.C_drewN ?_ _) | (with_reducible refine Kd.C_drew ?_))); (case side2 => exact (Kd.R_reads' HO_0.out).2.1); rintro e w71 ⟨rfl, hb⟩; refine ⟨_, rfl, ?_⟩; have n0_ := Aside0.mk (Kd.R_below (by (with_reducible repeat (first | apply Kd.R_alloc | apply Kd.R_drewN | apply Kd.R_drew)); exact HO_0.out) hb); have n1_ := Aside0.mk (Kd.R_below (by (with_reducible repeat (first | apply Kd.R_alloc | apply Kd.R_drewN | apply Kd.R_drew)); exact HO313.out) hb); have n2_ := Aside0.mk (Kd.R_below (by (with_reducible repeat (first | apply Kd.R_alloc | apply Kd.R_drewN | apply Kd.R_drew)); exact HO317.out) hb); have n3_ := Aside0.mk (blk_below (g := gb291) (o := .cells #[.string t295, .string t296] 32 (0, 0)) (by (with_reducible repeat (first | refine blk_drewN ?_ _ | refine blk_drew ?_ | refine blk_alloc ?_ _)); exact BK291.out) hb); have n4_ := Aside0.mk (below_step (by repeat (first | (with_reducible first | exact HB.out | apply below_alloc | apply pw_below_drewN | apply below_drew1 | refine below_set ?_ GE291.out) | exact HB.out)) hb); clear HO_0; clear HO313; clear HO317; clear BK291; clear HB; have HO_0 := n0_; have HO313 := n1_; have HO317 := n2_; have BK291 := n3_; have HB := n4_; clear n0_ n1_ n2_ n3_ n4_; (try clear hb); (try clear hb2); (try clear hk); (try clear hi)))
                  go_meet
                  case rel => exact ⟨_, (true), (by first | rfl | (simp; done) | (simp [*]; done)), H', ⟨by have := HK1.out; have := HJ18.out; first | omega | exact Nat.le_refl _⟩, ⟨by (with_reducible repeat (first | apply Kd.R_alloc | apply Kd.R_drewN | apply Kd.R_drew)); exact Kd.R_mono HO_0.out (fun _ hk => ⟨hk.1.2, ⟨hk.2, hk.1.1⟩⟩)⟩, ⟨by (with_reducible repeat (first | apply Kd.R_alloc | apply Kd.R_drewN | apply Kd.R_drew)); exact Kd.R_mono HO313.out (fun _ hk => ⟨hk.1.1.2, ⟨hk.2, hk.1.2⟩⟩)⟩, ⟨by (with_reducible repeat (first | apply Kd.R_alloc | apply Kd.R_drewN | apply Kd.R_drew)); exact Kd.R_mono HO317.out (fun _ hk => ⟨hk.1.1.2, ⟨hk.1.2, hk.2⟩⟩)⟩, ⟨by (with_reducible repeat (first | refine blk_drewN ?_ _ | refine blk_drew ?_ | refine blk_alloc ?_ _)); exact BK291.out⟩, ⟨by repeat (first | (with_reducible first | exact HB.out | apply below_alloc | apply pw_below_drewN | apply below_drew1 | refine below_set ?_ GE291.out) | exact HB.out)⟩⟩
              case rest =>
                clear HC58
                try clear c1
                try clear c2
                try clear p2
                try clear q2
                try clear hx2
                try clear c3
                try clear c4
                try clear c5
                try clear c6
                try clear p6
                try clear c7
                try clear c11
                try clear c11b0
                try clear c12
                try clear c13
                try clear c13b0
                try clear c14
                try clear c16
                try clear c17
                try clear c18
                try clear c24
                try clear c24b0
                try clear c24b1
                try clear c24b2
                try clear c27
                try clear p29
                try clear q29
                try clear hx29
                try clear c30
                try clear c31
                try clear c31b0
                try clear c31b1
                try clear c47
                try clear c47b0
                try clear c47b1
                try clear c54
                try clear p64
                try clear c66
                try clear hcz59_0
                try clear hcz59_1
                try clear hcz61_0
                try clear hcz61_1
                try clear hcz63_0
                try clear hcz63_1
                try clear hcz69_0
                try clear hcz69_1
                try clear hfz59_0
                try clear hfz59_1
                try clear hfz61_0
                try clear hfz61_1
                try clear hfz63_0
                try clear hfz63_1
                try clear hfz69_0
                try clear hfz69_1
                try clear hx297_0
                try clear hx297_1
                try clear p2
                try clear p29
                try clear p297
                try clear p6
                try clear q2
                try clear q29
                try clear q297
                obtain ⟨kq, x96_57, rfl, HA, HJ57, HO_0, HO_11, HO_13, BK291, HB⟩ := hcut
                cases kq with
                | zero => exact absurd HA.out (by simp [graftwoodlaw05_NodeSets.j2])
                | succ kj57 =>
                  have H := HA.out
                  clear HA
                  simp only [graftwoodlaw05_NodeSets.j2] at H
                  by_cases c72 : x96_57 = true
                  · subst c72
                    have H1 : (if t309 = true then (some false) else (if t310 = 1 then (if (t311.length : Int) = 0 then (if t314 = 1 then (if (t315.length : Int) = 0 then (if t318 = 1 then ((graftwoodlaw05_awake.f kj57).bind fun t321 => (some t321)) else (some false)) else (some false)) else (some false)) else (some false)) else (some false))) = some r := by rw [if_pos rfl] at H; exact H
                    clear H
                    have H := H1
                    clear H1
                    by_cases c73 : t309 = true
                    · subst c73
                      have H1 : (some false) = some r := by rw [if_pos rfl] at H; exact H
                      clear H
                      have H := H1
                      clear H1
                      obtain rfl := Option.some.inj H
                      go_wp2
                      go_ret
                      exact ⟨by first | rfl | (simp [errW_none, errW_some] <;> rfl) | (simp [*, errW_none, errW_some] <;> rfl), by repeat (first | (with_reducible first | exact HB.out | apply below_alloc | apply pw_below_drewN | apply below_drew1 | refine below_set ?_ GE291.out) | exact HB.out)⟩
                    · replace c73 := Bool.eq_false_iff.mpr c73
                      subst c73
                      have H1 : (if t310 = 1 then (if (t311.length : Int) = 0 then (if t314 = 1 then (if (t315.length : Int) = 0 then (if t318 = 1 then ((graftwoodlaw05_awake.f kj57).bind fun t321 => (some t321)) else (some false)) else (some false)) else (some false)) else (some false)) else (some false)) = some r := by rw [if_neg (show ¬ (false = true) by decide)] at H; exact H
                      clear H
                      have H := H1
                      clear H1
                      by_cases c74 : t310 = 1
                      · rw [if_pos c74] at H
                        have c74b0 : (t310 == 1) = true := beq_iff_eq.mpr c74
                        have c74b1 : (t310 != 1) = false := bne_eq_false_iff_eq.mpr c74
                        clear c74
                        by_cases c75 : (t311.length : Int) = 0
                        · rw [if_pos c75] at H
                          have c75b0 : ((t311.length : Int) == 0) = true := beq_iff_eq.mpr c75
                          have c75b1 : ((t311.length : Int) != 0) = false := bne_eq_false_iff_eq.mpr c75
                          clear c75
                          by_cases c76 : t314 = 1
                          · rw [if_pos c76] at H
                            have c76b0 : (t314 == 1) = true := beq_iff_eq.mpr c76
                            have c76b1 : (t314 != 1) = false := bne_eq_false_iff_eq.mpr c76
                            clear c76
                            by_cases c77 : (t315.length : Int) = 0
                            · rw [if_pos c77] at H
                              have c77b0 : ((t315.length : Int) == 0) = true := beq_iff_eq.mpr c77
                              have c77b1 : ((t315.length : Int) != 0) = false := bne_eq_false_iff_eq.mpr c77
                              clear c77
                              by_cases c78 : t318 = 1
                              · rw [if_pos c78] at H
                                have c78b0 : (t318 == 1) = true := beq_iff_eq.mpr c78
                                have c78b1 : (t318 != 1) = false := bne_eq_false_iff_eq.mpr c78
                                clear c78
                                replace H := Option.bind_eq_some_iff.mp H
                                obtain ⟨t321, A790, H⟩ := H
                                replace H : (some t321) = some r := H
                                have A79 := Aside0.mk A790
                                clear A790
                                obtain rfl := Option.some.inj H
                                obtain ⟨Ao80, co80, eo80⟩ := Kd.R_slice HO_11.out
                                subst eo80
                                obtain ⟨Ao81, co81, eo81⟩ := Kd.R_slice HO_13.out
                                subst eo81
                                go_wp2_with (first | (go_at_call 8; (with_reducible refine (graftwoodlaw05_awake.calls kj57  t321 _ A79.out).mono ?_); rintro e w82 ⟨rfl, hb⟩; have n0_ := Aside0.mk (Kd.R_below (by (with_reducible repeat (first | apply Kd.R_alloc | apply Kd.R_drewN | apply Kd.R_drew)); exact HO_0.out) hb); have n1_ := Aside0.mk (Kd.R_below (by (with_reducible repeat (first | apply Kd.R_alloc | apply Kd.R_drewN | apply Kd.R_drew)); exact HO_11.out) hb); have n2_ := Aside0.mk (Kd.R_below (by (with_reducible repeat (first | apply Kd.R_alloc | apply Kd.R_drewN | apply Kd.R_drew)); exact HO_13.out) hb); have n3_ := Aside0.mk (blk_below (g := gb291) (o := .cells #[.string t295, .string t296] 32 (0, 0)) (by (with_reducible repeat (first | refine blk_drewN ?_ _ | refine blk_drew ?_ | refine blk_alloc ?_ _)); exact BK291.out) hb); have n4_ := Aside0.mk (below_step (by repeat (first | (with_reducible first | exact HB.out | apply below_alloc | apply pw_below_drewN | apply below_drew1 | refine below_set ?_ GE291.out) | exact HB.out)) hb); clear HO_0; clear HO_11; clear HO_13; clear BK291; clear HB; have HO_0 := n0_; have HO_11 := n1_; have HO_13 := n2_; have BK291 := n3_; have HB := n4_; clear n0_ n1_ n2_ n3_ n4_; (try clear hb); (try clear hb2); (try clear hk); (try clear hi)))
                                go_ret
                                exact ⟨by first | rfl | (simp [errW_none, errW_some] <;> rfl) | (simp [*, errW_none, errW_some] <;> rfl), by repeat (first | (with_reducible first | exact HB.out | apply below_alloc | apply pw_below_drewN | apply below_drew1 | refine below_set ?_ GE291.out) | exact HB.out)⟩
                              · rw [if_neg c78] at H
                                have c78b0 : (t318 == 1) = false := beq_eq_false_iff_ne.mpr c78
                                have c78b1 : (t318 != 1) = true := bne_iff_ne.mpr c78
                                obtain rfl := Option.some.inj H
                                obtain ⟨Ao83, co83, eo83⟩ := Kd.R_slice HO_11.out
                                subst eo83
                                obtain ⟨Ao84, co84, eo84⟩ := Kd.R_slice HO_13.out
                                subst eo84
                                go_wp2
                                go_ret
                                exact ⟨by first | rfl | (simp [errW_none, errW_some] <;> rfl) | (simp [*, errW_none, errW_some] <;> rfl), by repeat (first | (with_reducible first | exact HB.out | apply below_alloc | apply pw_below_drewN | apply below_drew1 | refine below_set ?_ GE291.out) | exact HB.out)⟩
                            · rw [if_neg c77] at H
                              have c77b0 : ((t315.length : Int) == 0) = false := beq_eq_false_iff_ne.mpr c77
                              have c77b1 : ((t315.length : Int) != 0) = true := bne_iff_ne.mpr c77
                              have c77b2 : ¬ (t315 = []) := fun h_ => c77 (by rw [h_]; rfl)
                              obtain rfl := Option.some.inj H
                              obtain ⟨Ao85, co85, eo85⟩ := Kd.R_slice HO_11.out
                              subst eo85
                              obtain ⟨Ao86, co86, eo86⟩ := Kd.R_slice HO_13.out
                              subst eo86
                              go_wp2
                              go_ret
                              exact ⟨by first | rfl | (simp [errW_none, errW_some] <;> rfl) | (simp [*, errW_none, errW_some] <;> rfl), by repeat (first | (with_reducible first | exact HB.out | apply below_alloc | apply pw_below_drewN | apply below_drew1 | refine below_set ?_ GE291.out) | exact HB.out)⟩
                          · rw [if_neg c76] at H
                            have c76b0 : (t314 == 1) = false := beq_eq_false_iff_ne.mpr c76
                            have c76b1 : (t314 != 1) = true := bne_iff_ne.mpr c76
                            obtain rfl := Option.some.inj H
                            obtain ⟨Ao87, co87, eo87⟩ := Kd.R_slice HO_11.out
                            subst eo87
                            go_wp2
                            go_ret
                            exact ⟨by first | rfl | (simp [errW_none, errW_some] <;> rfl) | (simp [*, errW_none, errW_some] <;> rfl), by repeat (first | (with_reducible first | exact HB.out | apply below_alloc | apply pw_below_drewN | apply below_drew1 | refine below_set ?_ GE291.out) | exact HB.out)⟩
                        · rw [if_neg c75] at H
                          have c75b0 : ((t311.length : Int) == 0) = false := beq_eq_false_iff_ne.mpr c75
                          have c75b1 : ((t311.length : Int) != 0) = true := bne_iff_ne.mpr c75
                          have c75b2 : ¬ (t311 = []) := fun h_ => c75 (by rw [h_]; rfl)
                          obtain rfl := Option.some.inj H
                          obtain ⟨Ao88, co88, eo88⟩ := Kd.R_slice HO_11.out
                          subst eo88
                          go_wp2
                          go_ret
                          exact ⟨by first | rfl | (simp [errW_none, errW_some] <;> rfl) | (simp [*, errW_none, errW_some] <;> rfl), by repeat (first | (with_reducible first | exact HB.out | apply below_alloc | apply pw_below_drewN | apply below_drew1 | refine below_set ?_ GE291.out) | exact HB.out)⟩
                      · rw [if_neg c74] at H
                        have c74b0 : (t310 == 1) = false := beq_eq_false_iff_ne.mpr c74
                        have c74b1 : (t310 != 1) = true := bne_iff_ne.mpr c74
                        obtain rfl := Option.some.inj H
                        go_wp2
                        go_ret
                        exact ⟨by first | rfl | (simp [errW_none, errW_some] <;> rfl) | (simp [*, errW_none, errW_some] <;> rfl), by repeat (first | (with_reducible first | exact HB.out | apply below_alloc | apply pw_below_drewN | apply below_drew1 | refine below_set ?_ GE291.out) | exact HB.out)⟩
                  · replace c72 := Bool.eq_false_iff.mpr c72
                    subst c72
                    have H1 : ((graftwoodref05_Has.f kj57 t292 t295 t296).bind fun t322 => (if (t309 == t322) = true then (if t310 = 0 then ((graftwoodref05_With.f kj57 t292 t295 t296).bind fun t323 => ((graftwoodref05_Same.f kj57 t311 t323).bind fun t326 => (if t326 = true then (if t314 = 0 then ((graftwoodref05_Minus.f kj57 t292 (([(⟨t295, t296⟩ : S32)] : List (S32)))).bind fun t330 => ((graftwoodref05_Same.f kj57 t315 t330).bind fun t333 => (if t333 = true then (if t318 = 0 then ((graftwoodlaw05_awake.f kj57).bind fun t334 => (some t334)) else (some false)) else (some false)))) else (some false)) else (some false)))) else (some false)) else (some false))) = some r := by rw [if_neg (show ¬ (false = true) by decide)] at H; exact H
                    clear H
                    have H := H1
                    clear H1
                    replace H := Option.bind_eq_some_iff.mp H
                    obtain ⟨t322, A890, H⟩ := H
                    replace H : (if (t309 == t322) = true then (if t310 = 0 then ((graftwoodref05_With.f kj57 t292 t295 t296).bind fun t323 => ((graftwoodref05_Same.f kj57 t311 t323).bind fun t326 => (if t326 = true then (if t314 = 0 then ((graftwoodref05_Minus.f kj57 t292 (([(⟨t295, t296⟩ : S32)] : List (S32)))).bind fun t330 => ((graftwoodref05_Same.f kj57 t315 t330).bind fun t333 => (if t333 = true then (if t318 = 0 then ((graftwoodlaw05_awake.f kj57).bind fun t334 => (some t334)) else (some false)) else (some false)))) else (some false)) else (some false)))) else (some false)) else (some false)) = some r := H
                    have A89 := Aside0.mk A890
                    clear A890
                    by_cases c90 : (t309 == t322) = true
                    · rw [if_pos c90] at H
                      have c90b0 : (t309 == t322) = true := c90
                      (try (have c90b1 : decide (t309 = t322) = true := by simpa using c90))
                      (try (have c90b2 : (t309 == t322) = true := by simpa using c90))
                      clear c90
                      by_cases c91 : t310 = 0
                      · rw [if_pos c91] at H
                        have c91b0 : (t310 == 0) = true := beq_iff_eq.mpr c91
                        have c91b1 : (t310 != 0) = false := bne_eq_false_iff_eq.mpr c91
                        clear c91
                        replace H := Option.bind_eq_some_iff.mp H
                        obtain ⟨t323, A920, H⟩ := H
                        replace H : ((graftwoodref05_Same.f kj57 t311 t323).bind fun t326 => (if t326 = true then (if t314 = 0 then ((graftwoodref05_Minus.f kj57 t292 (([(⟨t295, t296⟩ : S32)] : List (S32)))).bind fun t330 => ((graftwoodref05_Same.f kj57 t315 t330).bind fun t333 => (if t333 = true then (if t318 = 0 then ((graftwoodlaw05_awake.f kj57).bind fun t334 => (some t334)) else (some false)) else (some false)))) else (some false)) else (some false))) = some r := H
                        have A92 := Aside0.mk A920
                        clear A920
                        replace H := Option.bind_eq_some_iff.mp H
                        obtain ⟨t326, A930, H⟩ := H
                        replace H : (if t326 = true then (if t314 = 0 then ((graftwoodref05_Minus.f kj57 t292 (([(⟨t295, t296⟩ : S32)] : List (S32)))).bind fun t330 => ((graftwoodref05_Same.f kj57 t315 t330).bind fun t333 => (if t333 = true then (if t318 = 0 then ((graftwoodlaw05_awake.f kj57).bind fun t334 => (some t334)) else (some false)) else (some false)))) else (some false)) else (some false)) = some r := H
                        have A93 := Aside0.mk A930
                        clear A930
                        by_cases c94 : t326 = true
                        · subst c94
                          have H1 : (if t314 = 0 then ((graftwoodref05_Minus.f kj57 t292 (([(⟨t295, t296⟩ : S32)] : List (S32)))).bind fun t330 => ((graftwoodref05_Same.f kj57 t315 t330).bind fun t333 => (if t333 = true then (if t318 = 0 then ((graftwoodlaw05_awake.f kj57).bind fun t334 => (some t334)) else (some false)) else (some false)))) else (some false)) = some r := by rw [if_pos rfl] at H; exact H
                          clear H
                          have H := H1
                          clear H1
                          by_cases c95 : t314 = 0
                          · rw [if_pos c95] at H
                            have c95b0 : (t314 == 0) = true := beq_iff_eq.mpr c95
                            have c95b1 : (t314 != 0) = false := bne_eq_false_iff_eq.mpr c95
                            clear c95
                            obtain ⟨y327, hy327⟩ : ∃ y_ : List (S32), y_ = (([(⟨t295, t296⟩ : S32)] : List (S32))) := ⟨_, rfl⟩
                            replace H : ((graftwoodref05_Minus.f kj57 t292 y327).bind fun t330 => ((graftwoodref05_Same.f kj57 t315 t330).bind fun t333 => (if t333 = true then (if t318 = 0 then ((graftwoodlaw05_awake.f kj57).bind fun t334 => (some t334)) else (some false)) else (some false)))) = some r := by first | (rw [hy327]; with_reducible exact H) | (have H2_ := (Option.bind_some _ _).symm.trans H; rw [hy327]; with_reducible exact H2_) | (have H2_ := (Option.bind_some _ _).symm.trans H; with_reducible exact H2_) | with_reducible exact H | (rw [hy327]; exact H) | exact H
                            have Ny327 := Aside0.mk hy327
                            clear hy327
                            replace H := Option.bind_eq_some_iff.mp H
                            obtain ⟨t330, A960, H⟩ := H
                            replace H : ((graftwoodref05_Same.f kj57 t315 t330).bind fun t333 => (if t333 = true then (if t318 = 0 then ((graftwoodlaw05_awake.f kj57).bind fun t334 => (some t334)) else (some false)) else (some false))) = some r := H
                            have A96 := Aside0.mk A960
                            clear A960
                            replace H := Option.bind_eq_some_iff.mp H
                            obtain ⟨t333, A970, H⟩ := H
                            replace H : (if t333 = true then (if t318 = 0 then ((graftwoodlaw05_awake.f kj57).bind fun t334 => (some t334)) else (some false)) else (some false)) = some r := H
                            have A97 := Aside0.mk A970
                            clear A970
                            by_cases c98 : t333 = true
                            · subst c98
                              have H1 : (if t318 = 0 then ((graftwoodlaw05_awake.f kj57).bind fun t334 => (some t334)) else (some false)) = some r := by rw [if_pos rfl] at H; exact H
                              clear H
                              have H := H1
                              clear H1
                              by_cases c99 : t318 = 0
                              · rw [if_pos c99] at H
                                have c99b0 : (t318 == 0) = true := beq_iff_eq.mpr c99
                                have c99b1 : (t318 != 0) = false := bne_eq_false_iff_eq.mpr c99
                                clear c99
                                replace H := Option.bind_eq_some_iff.mp H
                                obtain ⟨t334, A1000, H⟩ := H
                                replace H : (some t334) = some r := H
                                have A100 := Aside0.mk A1000
                                clear A1000
                                obtain rfl := Option.some.inj H
                                have hcz101_0 : wc.cell? ⟨gb291, 0, none⟩ = some (.string t295) := (blk_cell BK291.out 0).trans rfl
                                have hcz101_1 : wc.cell? ⟨gb291, 1, none⟩ = some (.string t296) := (blk_cell BK291.out 1).trans rfl
                                have hfz101_0 := blk_frozen BK291.out 0
                                have hfz101_1 := blk_frozen BK291.out 1
                                go_wp2_with (first | ((with_reducible refine gate_callee (f := 19) rfl ?_); refine goesL_ (some 127) rfl rfl Tryz.func19 (by kernel_rfl) rfl #[.slice Ao20 t292.length co20, .agg #[.string t295, .string t296]] rfl (by (try simp only [List.map_toArray, List.map_cons, List.map_nil]); first | done | rfl | (simp only [List.length_drop, List.length_take]; rfl)) ?_; (with_reducible refine (graftwoodref05_Has.calls kj57 _ _ t292 t295 t296 t322 _ ?side1 ?side2 A89.out).mono ?_); (case side1 => repeat (first | exact (Kd.R_reads' HO_0.out).2.2 | (with_reducible refine Kd.C_alloc ?_ _) | (with_reducible refine Kd.C_drewN ?_ _) | (with_reducible refine Kd.C_drew ?_))); (case side2 => exact (Kd.R_reads' HO_0.out).2.1); rintro e w102 ⟨rfl, hb⟩; refine ⟨_, rfl, ?_⟩; have n0_ := Aside0.mk (Kd.R_below (by (with_reducible repeat (first | apply Kd.R_alloc | apply Kd.R_drewN | apply Kd.R_drew)); exact HO_0.out) hb); have n1_ := Aside0.mk (Kd.R_below (by (with_reducible repeat (first | apply Kd.R_alloc | apply Kd.R_drewN | apply Kd.R_drew)); exact HO_11.out) hb); have n2_ := Aside0.mk (Kd.R_below (by (with_reducible repeat (first | apply Kd.R_alloc | apply Kd.R_drewN | apply Kd.R_drew)); exact HO_13.out) hb); have n3_ := Aside0.mk (blk_below (g := gb291) (o := .cells #[.string t295, .string t296] 32 (0, 0)) (by (with_reducible repeat (first | refine blk_drewN ?_ _ | refine blk_drew ?_ | refine blk_alloc ?_ _)); exact BK291.out) hb); have n4_ := Aside0.mk (below_step (by repeat (first | (with_reducible first | exact HB.out | apply below_alloc | apply pw_below_drewN | apply below_drew1 | refine below_set ?_ GE291.out) | exact HB.out)) hb); clear HO_0; clear HO_11; clear HO_13; clear BK291; clear HB; have HO_0 := n0_; have HO_11 := n1_; have HO_13 := n2_; have BK291 := n3_; have HB := n4_; clear n0_ n1_ n2_ n3_ n4_; (try clear hb); (try clear hb2); (try clear hk); (try clear hi); have hcz103_0 : w102.cell? ⟨gb291, 0, none⟩ = some (.string t295) := (blk_cell BK291.out 0).trans rfl; have hcz103_1 : w102.cell? ⟨gb291, 1, none⟩ = some (.string t296) := (blk_cell BK291.out 1).trans rfl; have hfz103_0 := blk_frozen BK291.out 0; have hfz103_1 := blk_frozen BK291.out 1) | (go_at_call 20; (with_reducible refine (graftwoodref05_With.calls kj57 _ _ t292 t295 t296 t323 _ ?side1 ?side2 A92.out).mono ?_); (case side1 => repeat (first | exact (Kd.R_reads' HO_0.out).2.2 | (with_reducible refine Kd.C_alloc ?_ _) | (with_reducible refine Kd.C_drewN ?_ _) | (with_reducible refine Kd.C_drew ?_))); (case side2 => exact (Kd.R_reads' HO_0.out).2.1); rintro e w104 ⟨v324, rfl, ho0, hb⟩; have n0_ := Aside0.mk (Kd.R_elder' (by (with_reducible repeat (first | apply Kd.R_alloc | apply Kd.R_drewN | apply Kd.R_drew)); exact HO_0.out) (Kd.R_base ho0) hb); have n1_ := Aside0.mk (Kd.R_elder' (by (with_reducible repeat (first | apply Kd.R_alloc | apply Kd.R_drewN | apply Kd.R_drew)); exact HO_11.out) (Kd.R_base ho0) hb); have n2_ := Aside0.mk (Kd.R_elder' (by (with_reducible repeat (first | apply Kd.R_alloc | apply Kd.R_drewN | apply Kd.R_drew)); exact HO_13.out) (Kd.R_base ho0) hb); have n3_ := Aside0.mk (Kd.R_lower (Kd.R_newB (Kd.R_new' (Kd.R_new' (Kd.R_new' ho0 (Kd.R_lt (by (with_reducible repeat (first | apply Kd.R_alloc | apply Kd.R_drewN | apply Kd.R_drew)); exact HO_0.out))) (Kd.R_lt (by (with_reducible repeat (first | apply Kd.R_alloc | apply Kd.R_drewN | apply Kd.R_drew)); exact HO_11.out))) (Kd.R_lt (by (with_reducible repeat (first | apply Kd.R_alloc | apply Kd.R_drewN | apply Kd.R_drew)); exact HO_13.out))) (g := gb291) (o := .cells #[.string t295, .string t296] 32 (0, 0)) (by (with_reducible repeat (first | refine blk_drewN ?_ _ | refine blk_drew ?_ | refine blk_alloc ?_ _)); exact BK291.out)) (below_size (by repeat (first | (with_reducible first | exact HB.out | apply below_alloc | apply pw_below_drewN | apply below_drew1 | refine below_set ?_ GE291.out) | exact HB.out)))); have n4_ := Aside0.mk (blk_below (g := gb291) (o := .cells #[.string t295, .string t296] 32 (0, 0)) (by (with_reducible repeat (first | refine blk_drewN ?_ _ | refine blk_drew ?_ | refine blk_alloc ?_ _)); exact BK291.out) hb); have n5_ := Aside0.mk (below_step (by repeat (first | (with_reducible first | exact HB.out | apply below_alloc | apply pw_below_drewN | apply below_drew1 | refine below_set ?_ GE291.out) | exact HB.out)) hb); clear HO_0; clear HO_11; clear HO_13; clear BK291; clear HB; have HO_0 := n0_; have HO_11 := n1_; have HO_13 := n2_; have HO325 := n3_; have BK291 := n4_; have HB := n5_; clear n0_ n1_ n2_ n3_ n4_ n5_; (try clear hb); (try clear hb2); (try clear hk); (try clear hi); (try clear ho0); obtain ⟨Ao105, co105, eo105⟩ := Kd.R_slice HO_11.out; subst eo105; obtain ⟨Ao106, co106, eo106⟩ := Kd.R_slice HO325.out; subst eo106) | (go_at_call 9; (with_reducible refine (graftwoodref05_Same.calls kj57 _ _ t311 _ _ t323 true _ ?side1 ?side2 ?side3 ?side4 A93.out).mono ?_); (case side1 => repeat (first | exact (Kd.R_reads' HO_11.out).2.2 | (with_reducible refine Kd.C_alloc ?_ _) | (with_reducible refine Kd.C_drewN ?_ _) | (with_reducible refine Kd.C_drew ?_))); (case side2 => exact (Kd.R_reads' HO_11.out).2.1); (case side3 => repeat (first | exact (Kd.R_reads' HO325.out).2.2 | (with_reducible refine Kd.C_alloc ?_ _) | (with_reducible refine Kd.C_drewN ?_ _) | (with_reducible refine Kd.C_drew ?_))); (case side4 => exact (Kd.R_reads' HO325.out).2.1); rintro e w' ⟨rfl, ⟨nd, rfl⟩⟩; have hcz107_0 : w104.cell? ⟨gb291, 0, none⟩ = some (.string t295) := (blk_cell BK291.out 0).trans rfl; have hcz107_1 : w104.cell? ⟨gb291, 1, none⟩ = some (.string t296) := (blk_cell BK291.out 1).trans rfl; have hfz107_0 := blk_frozen BK291.out 0; have hfz107_1 := blk_frozen BK291.out 1) | ((with_reducible refine gate_dst (N := 148) rfl ?_); (try (refine gate_guard (by rfl) ?_; dsimp only)); refine Kd.R_lit k32 _ 32 ?hg (N := 148) ?hd (xs := ([(⟨t295, t296⟩ : S32)] : List (S32))) (inner := [.string t295, .string t296]) (ok := fun _ => True) (okp := fun _ => True) ?hr ?hp (fun _ hk => hk) trivial (Below.refl _ _) (Nat.le_refl _) (by simp) ?_; (case hd => rfl); (case hg => rfl); (case hr => first | (go_simp; done) | (go_simp; rfl)); (case hp => exact (Reps.c2 (show Kd.M k32 _ _ _ (⟨t295, t296⟩ : S32) [.string t295, .string t296] from (k32_mkM _ _ _ (⟨t295, t296⟩ : S32) )) (Reps.none _ _))); intro v328 w108 ho109 hb hg_ hnew_; clear hg_ hnew_; (first | rw [← Ny327.out] at ho109 | (simp only [Int.reduceToNat] at ho109; rw [← Ny327.out] at ho109)); have n0_ := Aside0.mk (Kd.R_elder' (by (with_reducible repeat (first | apply Kd.R_alloc | apply Kd.R_drewN | apply Kd.R_drew)); exact HO_0.out) (Kd.R_base ho109) hb); have n1_ := Aside0.mk (Kd.R_elder' (by (with_reducible repeat (first | apply Kd.R_alloc | apply Kd.R_drewN | apply Kd.R_drew)); exact HO_11.out) (Kd.R_base ho109) hb); have n2_ := Aside0.mk (Kd.R_elder' (by (with_reducible repeat (first | apply Kd.R_alloc | apply Kd.R_drewN | apply Kd.R_drew)); exact HO_13.out) (Kd.R_base ho109) hb); have n3_ := Aside0.mk (Kd.R_elder' (by (with_reducible repeat (first | apply Kd.R_alloc | apply Kd.R_drewN | apply Kd.R_drew)); exact HO325.out) (Kd.R_base ho109) hb); have n4_ := Aside0.mk (Kd.R_lower (Kd.R_newB (Kd.R_new' (Kd.R_new' (Kd.R_new' (Kd.R_new' ho109 (Kd.R_lt (by (with_reducible repeat (first | apply Kd.R_alloc | apply Kd.R_drewN | apply Kd.R_drew)); exact HO_0.out))) (Kd.R_lt (by (with_reducible repeat (first | apply Kd.R_alloc | apply Kd.R_drewN | apply Kd.R_drew)); exact HO_11.out))) (Kd.R_lt (by (with_reducible repeat (first | apply Kd.R_alloc | apply Kd.R_drewN | apply Kd.R_drew)); exact HO_13.out))) (Kd.R_lt (by (with_reducible repeat (first | apply Kd.R_alloc | apply Kd.R_drewN | apply Kd.R_drew)); exact HO325.out))) (g := gb291) (o := .cells #[.string t295, .string t296] 32 (0, 0)) (by (with_reducible repeat (first | refine blk_drewN ?_ _ | refine blk_drew ?_ | refine blk_alloc ?_ _)); exact BK291.out)) (below_size (by repeat (first | (with_reducible first | exact HB.out | apply below_alloc | apply pw_below_drewN | apply below_drew1 | refine below_set ?_ GE291.out) | exact HB.out)))); have n5_ := Aside0.mk (blk_below (g := gb291) (o := .cells #[.string t295, .string t296] 32 (0, 0)) (by (with_reducible repeat (first | refine blk_drewN ?_ _ | refine blk_drew ?_ | refine blk_alloc ?_ _)); exact BK291.out) hb); have n6_ := Aside0.mk (below_step (by repeat (first | (with_reducible first | exact HB.out | apply below_alloc | apply pw_below_drewN | apply below_drew1 | refine below_set ?_ GE291.out) | exact HB.out)) hb); clear HO_0; clear HO_11; clear HO_13; clear HO325; clear BK291; clear HB; have HO_0 := n0_; have HO_11 := n1_; have HO_13 := n2_; have HO325 := n3_; have HO329 := n4_; have BK291 := n5_; have HB := n6_; clear n0_ n1_ n2_ n3_ n4_ n5_ n6_; clear hb ho109; obtain ⟨Ao110, co110, eo110⟩ := Kd.R_slice HO329.out; subst eo110) | (go_at_call 10; (with_reducible refine (graftwoodref05_Minus.calls kj57 _ _ t292 _ _ y327 t330 _ ?side1 ?side2 ?side3 ?side4 A96.out).mono ?_); (case side1 => repeat (first | exact (Kd.R_reads' HO_0.out).2.2 | (with_reducible refine Kd.C_alloc ?_ _) | (with_reducible refine Kd.C_drewN ?_ _) | (with_reducible refine Kd.C_drew ?_))); (case side2 => exact (Kd.R_reads' HO_0.out).2.1); (case side3 => repeat (first | exact (Kd.R_reads' HO329.out).2.2 | (with_reducible refine Kd.C_alloc ?_ _) | (with_reducible refine Kd.C_drewN ?_ _) | (with_reducible refine Kd.C_drew ?_))); (case side4 => exact (Kd.R_reads' HO329.out).2.1); rintro e w111 ⟨v331, rfl, ho0, hb⟩; have n0_ := Aside0.mk (Kd.R_elder' (by (with_reducible repeat (first | apply Kd.R_alloc | apply Kd.R_drewN | apply Kd.R_drew)); exact HO_0.out) (Kd.R_base ho0) hb); have n1_ := Aside0.mk (Kd.R_elder' (by (with_reducible repeat (first | apply Kd.R_alloc | apply Kd.R_drewN | apply Kd.R_drew)); exact HO_11.out) (Kd.R_base ho0) hb); have n2_ := Aside0.mk (Kd.R_elder' (by (with_reducible repeat (first | apply Kd.R_alloc | apply Kd.R_drewN | apply Kd.R_drew)); exact HO_13.out) (Kd.R_base ho0) hb); have n3_ := Aside0.mk (Kd.R_elder' (by (with_reducible repeat (first | apply Kd.R_alloc | apply Kd.R_drewN | apply Kd.R_drew)); exact HO325.out) (Kd.R_base ho0) hb); have n4_ := Aside0.mk (Kd.R_elder' (by (with_reducible repeat (first | apply Kd.R_alloc | apply Kd.R_drewN | apply Kd.R_drew)); exact HO329.out) (Kd.R_base ho0) hb); have n5_ := Aside0.mk (Kd.R_lower (Kd.R_newB (Kd.R_new' (Kd.R_new' (Kd.R_new' (Kd.R_new' (Kd.R_new' ho0 (Kd.R_lt (by (with_reducible repeat (first | apply Kd.R_alloc | apply Kd.R_drewN | apply Kd.R_drew)); exact HO_0.out))) (Kd.R_lt (by (with_reducible repeat (first | apply Kd.R_alloc | apply Kd.R_drewN | apply Kd.R_drew)); exact HO_11.out))) (Kd.R_lt (by (with_reducible repeat (first | apply Kd.R_alloc | apply Kd.R_drewN | apply Kd.R_drew)); exact HO_13.out))) (Kd.R_lt (by (with_reducible repeat (first | apply Kd.R_alloc | apply Kd.R_drewN | apply Kd.R_drew)); exact HO325.out))) (Kd.R_lt (by (with_reducible repeat (first | apply Kd.R_alloc | apply Kd.R_drewN | apply Kd.R_drew)); exact HO329.out))) (g := gb291) (o := .cells #[.string t295, .string t296] 32 (0, 0)) (by (with_reducible repeat (first | refine blk_drewN ?_ _ | refine blk_drew ?_ | refine blk_alloc ?_ _)); exact BK291.out)) (below_size (by repeat (first | (with_reducible first | exact HB.out | apply below_alloc | apply pw_below_drewN | apply below_drew1 | refine below_set ?_ GE291.out) | exact HB.out)))); have n6_ := Aside0.mk (blk_below (g := gb291) (o := .cells #[.string t295, .string t296] 32 (0, 0)) (by (with_reducible repeat (first | refine blk_drewN ?_ _ | refine blk_drew ?_ | refine blk_alloc ?_ _)); exact BK291.out) hb); have n7_ := Aside0.mk (below_step (by repeat (first | (with_reducible first | exact HB.out | apply below_alloc | apply pw_below_drewN | apply below_drew1 | refine below_set ?_ GE291.out) | exact HB.out)) hb); clear HO_0; clear HO_11; clear HO_13; clear HO325; clear HO329; clear BK291; clear HB; have HO_0 := n0_; have HO_11 := n1_; have HO_13 := n2_; have HO325 := n3_; have HO329 := n4_; have HO332 := n5_; have BK291 := n6_; have HB := n7_; clear n0_ n1_ n2_ n3_ n4_ n5_ n6_ n7_; (try clear hb); (try clear hb2); (try clear hk); (try clear hi); (try clear ho0); obtain ⟨Ao112, co112, eo112⟩ := Kd.R_slice HO_13.out; subst eo112; obtain ⟨Ao113, co113, eo113⟩ := Kd.R_slice HO332.out; subst eo113) | (go_at_call 9; (with_reducible refine (graftwoodref05_Same.calls kj57 _ _ t315 _ _ t330 true _ ?side1 ?side2 ?side3 ?side4 A97.out).mono ?_); (case side1 => repeat (first | exact (Kd.R_reads' HO_13.out).2.2 | (with_reducible refine Kd.C_alloc ?_ _) | (with_reducible refine Kd.C_drewN ?_ _) | (with_reducible refine Kd.C_drew ?_))); (case side2 => exact (Kd.R_reads' HO_13.out).2.1); (case side3 => repeat (first | exact (Kd.R_reads' HO332.out).2.2 | (with_reducible refine Kd.C_alloc ?_ _) | (with_reducible refine Kd.C_drewN ?_ _) | (with_reducible refine Kd.C_drew ?_))); (case side4 => exact (Kd.R_reads' HO332.out).2.1); rintro e w' ⟨rfl, ⟨nd, rfl⟩⟩) | (go_at_call 8; (with_reducible refine (graftwoodlaw05_awake.calls kj57  t334 _ A100.out).mono ?_); rintro e w114 ⟨rfl, hb⟩; have n0_ := Aside0.mk (Kd.R_below (by (with_reducible repeat (first | apply Kd.R_alloc | apply Kd.R_drewN | apply Kd.R_drew)); exact HO_0.out) hb); have n1_ := Aside0.mk (Kd.R_below (by (with_reducible repeat (first | apply Kd.R_alloc | apply Kd.R_drewN | apply Kd.R_drew)); exact HO_11.out) hb); have n2_ := Aside0.mk (Kd.R_below (by (with_reducible repeat (first | apply Kd.R_alloc | apply Kd.R_drewN | apply Kd.R_drew)); exact HO_13.out) hb); have n3_ := Aside0.mk (Kd.R_below (by (with_reducible repeat (first | apply Kd.R_alloc | apply Kd.R_drewN | apply Kd.R_drew)); exact HO325.out) hb); have n4_ := Aside0.mk (Kd.R_below (by (with_reducible repeat (first | apply Kd.R_alloc | apply Kd.R_drewN | apply Kd.R_drew)); exact HO329.out) hb); have n5_ := Aside0.mk (Kd.R_below (by (with_reducible repeat (first | apply Kd.R_alloc | apply Kd.R_drewN | apply Kd.R_drew)); exact HO332.out) hb); have n6_ := Aside0.mk (blk_below (g := gb291) (o := .cells #[.string t295, .string t296] 32 (0, 0)) (by (with_reducible repeat (first | refine blk_drewN ?_ _ | refine blk_drew ?_ | refine blk_alloc ?_ _)); exact BK291.out) hb); have n7_ := Aside0.mk (below_step (by repeat (first | (with_reducible first | exact HB.out | apply below_alloc | apply pw_below_drewN | apply below_drew1 | refine below_set ?_ GE291.out) | exact HB.out)) hb); clear HO_0; clear HO_11; clear HO_13; clear HO325; clear HO329; clear HO332; clear BK291; clear HB; have HO_0 := n0_; have HO_11 := n1_; have HO_13 := n2_; have HO325 := n3_; have HO329 := n4_; have HO332 := n5_; have BK291 := n6_; have HB := n7_; clear n0_ n1_ n2_ n3_ n4_ n5_ n6_ n7_; (try clear hb); (try clear hb2); (try clear hk); (try clear hi)))
                                go_ret
                                exact ⟨by first | rfl | (simp [errW_none, errW_some] <;> rfl) | (simp [*, errW_none, errW_some] <;> rfl), by repeat (first | (with_reducible first | exact HB.out | apply below_alloc | apply pw_below_drewN | apply below_drew1 | refine below_set ?_ GE291.out) | exact HB.out)⟩
                              · rw [if_neg c99] at H
                                have c99b0 : (t318 == 0) = false := beq_eq_false_iff_ne.mpr c99
                                have c99b1 : (t318 != 0) = true := bne_iff_ne.mpr c99
                                obtain rfl := Option.some.inj H
                                have hcz115_0 : wc.cell? ⟨gb291, 0, none⟩ = some (.string t295) := (blk_cell BK291.out 0).trans rfl
                                have hcz115_1 : wc.cell? ⟨gb291, 1, none⟩ = some (.string t296) := (blk_cell BK291.out 1).trans rfl
                                have hfz115_0 := blk_frozen BK291.out 0
                                have hfz115_1 := blk_frozen BK291.out 1
                                go_wp2_with (first | ((with_reducible refine gate_callee (f := 19) rfl ?_); refine goesL_ (some 127) rfl rfl Tryz.func19 (by kernel_rfl) rfl #[.slice Ao20 t292.length co20, .agg #[.string t295, .string t296]] rfl (by (try simp only [List.map_toArray, List.map_cons, List.map_nil]); first | done | rfl | (simp only [List.length_drop, List.length_take]; rfl)) ?_; (with_reducible refine (graftwoodref05_Has.calls kj57 _ _ t292 t295 t296 t322 _ ?side1 ?side2 A89.out).mono ?_); (case side1 => repeat (first | exact (Kd.R_reads' HO_0.out).2.2 | (with_reducible refine Kd.C_alloc ?_ _) | (with_reducible refine Kd.C_drewN ?_ _) | (with_reducible refine Kd.C_drew ?_))); (case side2 => exact (Kd.R_reads' HO_0.out).2.1); rintro e w116 ⟨rfl, hb⟩; refine ⟨_, rfl, ?_⟩; have n0_ := Aside0.mk (Kd.R_below (by (with_reducible repeat (first | apply Kd.R_alloc | apply Kd.R_drewN | apply Kd.R_drew)); exact HO_0.out) hb); have n1_ := Aside0.mk (Kd.R_below (by (with_reducible repeat (first | apply Kd.R_alloc | apply Kd.R_drewN | apply Kd.R_drew)); exact HO_11.out) hb); have n2_ := Aside0.mk (Kd.R_below (by (with_reducible repeat (first | apply Kd.R_alloc | apply Kd.R_drewN | apply Kd.R_drew)); exact HO_13.out) hb); have n3_ := Aside0.mk (blk_below (g := gb291) (o := .cells #[.string t295, .string t296] 32 (0, 0)) (by (with_reducible repeat (first | refine blk_drewN ?_ _ | refine blk_drew ?_ | refine blk_alloc ?_ _)); exact BK291.out) hb); have n4_ := Aside0.mk (below_step (by repeat (first | (with_reducible first | exact HB.out | apply below_alloc | apply pw_below_drewN | apply below_drew1 | refine below_set ?_ GE291.out) | exact HB.out)) hb); clear HO_0; clear HO_11; clear HO_13; clear BK291; clear HB; have HO_0 := n0_; have HO_11 := n1_; have HO_13 := n2_; have BK291 := n3_; have HB := n4_; clear n0_ n1_ n2_ n3_ n4_; (try clear hb); (try clear hb2); (try clear hk); (try clear hi); have hcz117_0 : w116.cell? ⟨gb291, 0, none⟩ = some (.string t295) := (blk_cell BK291.out 0).trans rfl; have hcz117_1 : w116.cell? ⟨gb291, 1, none⟩ = some (.string t296) := (blk_cell BK291.out 1).trans rfl; have hfz117_0 := blk_frozen BK291.out 0; have hfz117_1 := blk_frozen BK291.out 1) | (go_at_call 20; (with_reducible refine (graftwoodref05_With.calls kj57 _ _ t292 t295 t296 t323 _ ?side1 ?side2 A92.out).mono ?_); (case side1 => repeat (first | exact (Kd.R_reads' HO_0.out).2.2 | (with_reducible refine Kd.C_alloc ?_ _) | (with_reducible refine Kd.C_drewN ?_ _) | (with_reducible refine Kd.C_drew ?_))); (case side2 => exact (Kd.R_reads' HO_0.out).2.1); rintro e w118 ⟨v324, rfl, ho0, hb⟩; have n0_ := Aside0.mk (Kd.R_elder' (by (with_reducible repeat (first | apply Kd.R_alloc | apply Kd.R_drewN | apply Kd.R_drew)); exact HO_0.out) (Kd.R_base ho0) hb); have n1_ := Aside0.mk (Kd.R_elder' (by (with_reducible repeat (first | apply Kd.R_alloc | apply Kd.R_drewN | apply Kd.R_drew)); exact HO_11.out) (Kd.R_base ho0) hb); have n2_ := Aside0.mk (Kd.R_elder' (by (with_reducible repeat (first | apply Kd.R_alloc | apply Kd.R_drewN | apply Kd.R_drew)); exact HO_13.out) (Kd.R_base ho0) hb); have n3_ := Aside0.mk (Kd.R_lower (Kd.R_newB (Kd.R_new' (Kd.R_new' (Kd.R_new' ho0 (Kd.R_lt (by (with_reducible repeat (first | apply Kd.R_alloc | apply Kd.R_drewN | apply Kd.R_drew)); exact HO_0.out))) (Kd.R_lt (by (with_reducible repeat (first | apply Kd.R_alloc | apply Kd.R_drewN | apply Kd.R_drew)); exact HO_11.out))) (Kd.R_lt (by (with_reducible repeat (first | apply Kd.R_alloc | apply Kd.R_drewN | apply Kd.R_drew)); exact HO_13.out))) (g := gb291) (o := .cells #[.string t295, .string t296] 32 (0, 0)) (by (with_reducible repeat (first | refine blk_drewN ?_ _ | refine blk_drew ?_ | refine blk_alloc ?_ _)); exact BK291.out)) (below_size (by repeat (first | (with_reducible first | exact HB.out | apply below_alloc | apply pw_below_drewN | apply below_drew1 | refine below_set ?_ GE291.out) | exact HB.out)))); have n4_ := Aside0.mk (blk_below (g := gb291) (o := .cells #[.string t295, .string t296] 32 (0, 0)) (by (with_reducible repeat (first | refine blk_drewN ?_ _ | refine blk_drew ?_ | refine blk_alloc ?_ _)); exact BK291.out) hb); have n5_ := Aside0.mk (below_step (by repeat (first | (with_reducible first | exact HB.out | apply below_alloc | apply pw_below_drewN | apply below_drew1 | refine below_set ?_ GE291.out) | exact HB.out)) hb); clear HO_0; clear HO_11; clear HO_13; clear BK291; clear HB; have HO_0 := n0_; have HO_11 := n1_; have HO_13 := n2_; have HO325 := n3_; have BK291 := n4_; have HB := n5_; clear n0_ n1_ n2_ n3_ n4_ n5_; (try clear hb); (try clear hb2); (try clear hk); (try clear hi); (try clear ho0); obtain ⟨Ao119, co119, eo119⟩ := Kd.R_slice HO_11.out; subst eo119; obtain ⟨Ao120, co120, eo120⟩ := Kd.R_slice HO325.out; subst eo120) | (go_at_call 9; (with_reducible refine (graftwoodref05_Same.calls kj57 _ _ t311 _ _ t323 true _ ?side1 ?side2 ?side3 ?side4 A93.out).mono ?_); (case side1 => repeat (first | exact (Kd.R_reads' HO_11.out).2.2 | (with_reducible refine Kd.C_alloc ?_ _) | (with_reducible refine Kd.C_drewN ?_ _) | (with_reducible refine Kd.C_drew ?_))); (case side2 => exact (Kd.R_reads' HO_11.out).2.1); (case side3 => repeat (first | exact (Kd.R_reads' HO325.out).2.2 | (with_reducible refine Kd.C_alloc ?_ _) | (with_reducible refine Kd.C_drewN ?_ _) | (with_reducible refine Kd.C_drew ?_))); (case side4 => exact (Kd.R_reads' HO325.out).2.1); rintro e w' ⟨rfl, ⟨nd, rfl⟩⟩; have hcz121_0 : w118.cell? ⟨gb291, 0, none⟩ = some (.string t295) := (blk_cell BK291.out 0).trans rfl; have hcz121_1 : w118.cell? ⟨gb291, 1, none⟩ = some (.string t296) := (blk_cell BK291.out 1).trans rfl; have hfz121_0 := blk_frozen BK291.out 0; have hfz121_1 := blk_frozen BK291.out 1) | ((with_reducible refine gate_dst (N := 148) rfl ?_); (try (refine gate_guard (by rfl) ?_; dsimp only)); refine Kd.R_lit k32 _ 32 ?hg (N := 148) ?hd (xs := ([(⟨t295, t296⟩ : S32)] : List (S32))) (inner := [.string t295, .string t296]) (ok := fun _ => True) (okp := fun _ => True) ?hr ?hp (fun _ hk => hk) trivial (Below.refl _ _) (Nat.le_refl _) (by simp) ?_; (case hd => rfl); (case hg => rfl); (case hr => first | (go_simp; done) | (go_simp; rfl)); (case hp => exact (Reps.c2 (show Kd.M k32 _ _ _ (⟨t295, t296⟩ : S32) [.string t295, .string t296] from (k32_mkM _ _ _ (⟨t295, t296⟩ : S32) )) (Reps.none _ _))); intro v328 w122 ho123 hb hg_ hnew_; clear hg_ hnew_; (first | rw [← Ny327.out] at ho123 | (simp only [Int.reduceToNat] at ho123; rw [← Ny327.out] at ho123)); have n0_ := Aside0.mk (Kd.R_elder' (by (with_reducible repeat (first | apply Kd.R_alloc | apply Kd.R_drewN | apply Kd.R_drew)); exact HO_0.out) (Kd.R_base ho123) hb); have n1_ := Aside0.mk (Kd.R_elder' (by (with_reducible repeat (first | apply Kd.R_alloc | apply Kd.R_drewN | apply Kd.R_drew)); exact HO_11.out) (Kd.R_base ho123) hb); have n2_ := Aside0.mk (Kd.R_elder' (by (with_reducible repeat (first | apply Kd.R_alloc | apply Kd.R_drewN | apply Kd.R_drew)); exact HO_13.out) (Kd.R_base ho123) hb); have n3_ := Aside0.mk (Kd.R_elder' (by (with_reducible repeat (first | apply Kd.R_alloc | apply Kd.R_drewN | apply Kd.R_drew)); exact HO325.out) (Kd.R_base ho123) hb); have n4_ := Aside0.mk (Kd.R_lower (Kd.R_newB (Kd.R_new' (Kd.R_new' (Kd.R_new' (Kd.R_new' ho123 (Kd.R_lt (by (with_reducible repeat (first | apply Kd.R_alloc | apply Kd.R_drewN | apply Kd.R_drew)); exact HO_0.out))) (Kd.R_lt (by (with_reducible repeat (first | apply Kd.R_alloc | apply Kd.R_drewN | apply Kd.R_drew)); exact HO_11.out))) (Kd.R_lt (by (with_reducible repeat (first | apply Kd.R_alloc | apply Kd.R_drewN | apply Kd.R_drew)); exact HO_13.out))) (Kd.R_lt (by (with_reducible repeat (first | apply Kd.R_alloc | apply Kd.R_drewN | apply Kd.R_drew)); exact HO325.out))) (g := gb291) (o := .cells #[.string t295, .string t296] 32 (0, 0)) (by (with_reducible repeat (first | refine blk_drewN ?_ _ | refine blk_drew ?_ | refine blk_alloc ?_ _)); exact BK291.out)) (below_size (by repeat (first | (with_reducible first | exact HB.out | apply below_alloc | apply pw_below_drewN | apply below_drew1 | refine below_set ?_ GE291.out) | exact HB.out)))); have n5_ := Aside0.mk (blk_below (g := gb291) (o := .cells #[.string t295, .string t296] 32 (0, 0)) (by (with_reducible repeat (first | refine blk_drewN ?_ _ | refine blk_drew ?_ | refine blk_alloc ?_ _)); exact BK291.out) hb); have n6_ := Aside0.mk (below_step (by repeat (first | (with_reducible first | exact HB.out | apply below_alloc | apply pw_below_drewN | apply below_drew1 | refine below_set ?_ GE291.out) | exact HB.out)) hb); clear HO_0; clear HO_11; clear HO_13; clear HO325; clear BK291; clear HB; have HO_0 := n0_; have HO_11 := n1_; have HO_13 := n2_; have HO325 := n3_; have HO329 := n4_; have BK291 := n5_; have HB := n6_; clear n0_ n1_ n2_ n3_ n4_ n5_ n6_; clear hb ho123; obtain ⟨Ao124, co124, eo124⟩ := Kd.R_slice HO329.out; subst eo124) | (go_at_call 10; (with_reducible refine (graftwoodref05_Minus.calls kj57 _ _ t292 _ _ y327 t330 _ ?side1 ?side2 ?side3 ?side4 A96.out).mono ?_); (case side1 => repeat (first | exact (Kd.R_reads' HO_0.out).2.2 | (with_reducible refine Kd.C_alloc ?_ _) | (with_reducible refine Kd.C_drewN ?_ _) | (with_reducible refine Kd.C_drew ?_))); (case side2 => exact (Kd.R_reads' HO_0.out).2.1); (case side3 => repeat (first | exact (Kd.R_reads' HO329.out).2.2 | (with_reducible refine Kd.C_alloc ?_ _) | (with_reducible refine Kd.C_drewN ?_ _) | (with_reducible refine Kd.C_drew ?_))); (case side4 => exact (Kd.R_reads' HO329.out).2.1); rintro e w125 ⟨v331, rfl, ho0, hb⟩; have n0_ := Aside0.mk (Kd.R_elder' (by (with_reducible repeat (first | apply Kd.R_alloc | apply Kd.R_drewN | apply Kd.R_drew)); exact HO_0.out) (Kd.R_base ho0) hb); have n1_ := Aside0.mk (Kd.R_elder' (by (with_reducible repeat (first | apply Kd.R_alloc | apply Kd.R_drewN | apply Kd.R_drew)); exact HO_11.out) (Kd.R_base ho0) hb); have n2_ := Aside0.mk (Kd.R_elder' (by (with_reducible repeat (first | apply Kd.R_alloc | apply Kd.R_drewN | apply Kd.R_drew)); exact HO_13.out) (Kd.R_base ho0) hb); have n3_ := Aside0.mk (Kd.R_elder' (by (with_reducible repeat (first | apply Kd.R_alloc | apply Kd.R_drewN | apply Kd.R_drew)); exact HO325.out) (Kd.R_base ho0) hb); have n4_ := Aside0.mk (Kd.R_elder' (by (with_reducible repeat (first | apply Kd.R_alloc | apply Kd.R_drewN | apply Kd.R_drew)); exact HO329.out) (Kd.R_base ho0) hb); have n5_ := Aside0.mk (Kd.R_lower (Kd.R_newB (Kd.R_new' (Kd.R_new' (Kd.R_new' (Kd.R_new' (Kd.R_new' ho0 (Kd.R_lt (by (with_reducible repeat (first | apply Kd.R_alloc | apply Kd.R_drewN | apply Kd.R_drew)); exact HO_0.out))) (Kd.R_lt (by (with_reducible repeat (first | apply Kd.R_alloc | apply Kd.R_drewN | apply Kd.R_drew)); exact HO_11.out))) (Kd.R_lt (by (with_reducible repeat (first | apply Kd.R_alloc | apply Kd.R_drewN | apply Kd.R_drew)); exact HO_13.out))) (Kd.R_lt (by (with_reducible repeat (first | apply Kd.R_alloc | apply Kd.R_drewN | apply Kd.R_drew)); exact HO325.out))) (Kd.R_lt (by (with_reducible repeat (first | apply Kd.R_alloc | apply Kd.R_drewN | apply Kd.R_drew)); exact HO329.out))) (g := gb291) (o := .cells #[.string t295, .string t296] 32 (0, 0)) (by (with_reducible repeat (first | refine blk_drewN ?_ _ | refine blk_drew ?_ | refine blk_alloc ?_ _)); exact BK291.out)) (below_size (by repeat (first | (with_reducible first | exact HB.out | apply below_alloc | apply pw_below_drewN | apply below_drew1 | refine below_set ?_ GE291.out) | exact HB.out)))); have n6_ := Aside0.mk (blk_below (g := gb291) (o := .cells #[.string t295, .string t296] 32 (0, 0)) (by (with_reducible repeat (first | refine blk_drewN ?_ _ | refine blk_drew ?_ | refine blk_alloc ?_ _)); exact BK291.out) hb); have n7_ := Aside0.mk (below_step (by repeat (first | (with_reducible first | exact HB.out | apply below_alloc | apply pw_below_drewN | apply below_drew1 | refine below_set ?_ GE291.out) | exact HB.out)) hb); clear HO_0; clear HO_11; clear HO_13; clear HO325; clear HO329; clear BK291; clear HB; have HO_0 := n0_; have HO_11 := n1_; have HO_13 := n2_; have HO325 := n3_; have HO329 := n4_; have HO332 := n5_; have BK291 := n6_; have HB := n7_; clear n0_ n1_ n2_ n3_ n4_ n5_ n6_ n7_; (try clear hb); (try clear hb2); (try clear hk); (try clear hi); (try clear ho0); obtain ⟨Ao126, co126, eo126⟩ := Kd.R_slice HO_13.out; subst eo126; obtain ⟨Ao127, co127, eo127⟩ := Kd.R_slice HO332.out; subst eo127) | (go_at_call 9; (with_reducible refine (graftwoodref05_Same.calls kj57 _ _ t315 _ _ t330 true _ ?side1 ?side2 ?side3 ?side4 A97.out).mono ?_); (case side1 => repeat (first | exact (Kd.R_reads' HO_13.out).2.2 | (with_reducible refine Kd.C_alloc ?_ _) | (with_reducible refine Kd.C_drewN ?_ _) | (with_reducible refine Kd.C_drew ?_))); (case side2 => exact (Kd.R_reads' HO_13.out).2.1); (case side3 => repeat (first | exact (Kd.R_reads' HO332.out).2.2 | (with_reducible refine Kd.C_alloc ?_ _) | (with_reducible refine Kd.C_drewN ?_ _) | (with_reducible refine Kd.C_drew ?_))); (case side4 => exact (Kd.R_reads' HO332.out).2.1); rintro e w' ⟨rfl, ⟨nd, rfl⟩⟩))
                                go_ret
                                exact ⟨by first | rfl | (simp [errW_none, errW_some] <;> rfl) | (simp [*, errW_none, errW_some] <;> rfl), by repeat (first | (with_reducible first | exact HB.out | apply below_alloc | apply pw_below_drewN | apply below_drew1 | refine below_set ?_ GE291.out) | exact HB.out)⟩
                            · replace c98 := Bool.eq_false_iff.mpr c98
                              subst c98
                              have H1 : (some false) = some r := by rw [if_neg (show ¬ (false = true) by decide)] at H; exact H
                              clear H
                              have H := H1
                              clear H1
                              obtain rfl := Option.some.inj H
                              have hcz128_0 : wc.cell? ⟨gb291, 0, none⟩ = some (.string t295) := (blk_cell BK291.out 0).trans rfl
                              have hcz128_1 : wc.cell? ⟨gb291, 1, none⟩ = some (.string t296) := (blk_cell BK291.out 1).trans rfl
                              have hfz128_0 := blk_frozen BK291.out 0
                              have hfz128_1 := blk_frozen BK291.out 1
                              go_wp2_with (first | ((with_reducible refine gate_callee (f := 19) rfl ?_); refine goesL_ (some 127) rfl rfl Tryz.func19 (by kernel_rfl) rfl #[.slice Ao20 t292.length co20, .agg #[.string t295, .string t296]] rfl (by (try simp only [List.map_toArray, List.map_cons, List.map_nil]); first | done | rfl | (simp only [List.length_drop, List.length_take]; rfl)) ?_; (with_reducible refine (graftwoodref05_Has.calls kj57 _ _ t292 t295 t296 t322 _ ?side1 ?side2 A89.out).mono ?_); (case side1 => repeat (first | exact (Kd.R_reads' HO_0.out).2.2 | (with_reducible refine Kd.C_alloc ?_ _) | (with_reducible refine Kd.C_drewN ?_ _) | (with_reducible refine Kd.C_drew ?_))); (case side2 => exact (Kd.R_reads' HO_0.out).2.1); rintro e w129 ⟨rfl, hb⟩; refine ⟨_, rfl, ?_⟩; have n0_ := Aside0.mk (Kd.R_below (by (with_reducible repeat (first | apply Kd.R_alloc | apply Kd.R_drewN | apply Kd.R_drew)); exact HO_0.out) hb); have n1_ := Aside0.mk (Kd.R_below (by (with_reducible repeat (first | apply Kd.R_alloc | apply Kd.R_drewN | apply Kd.R_drew)); exact HO_11.out) hb); have n2_ := Aside0.mk (Kd.R_below (by (with_reducible repeat (first | apply Kd.R_alloc | apply Kd.R_drewN | apply Kd.R_drew)); exact HO_13.out) hb); have n3_ := Aside0.mk (blk_below (g := gb291) (o := .cells #[.string t295, .string t296] 32 (0, 0)) (by (with_reducible repeat (first | refine blk_drewN ?_ _ | refine blk_drew ?_ | refine blk_alloc ?_ _)); exact BK291.out) hb); have n4_ := Aside0.mk (below_step (by repeat (first | (with_reducible first | exact HB.out | apply below_alloc | apply pw_below_drewN | apply below_drew1 | refine below_set ?_ GE291.out) | exact HB.out)) hb); clear HO_0; clear HO_11; clear HO_13; clear BK291; clear HB; have HO_0 := n0_; have HO_11 := n1_; have HO_13 := n2_; have BK291 := n3_; have HB := n4_; clear n0_ n1_ n2_ n3_ n4_; (try clear hb); (try clear hb2); (try clear hk); (try clear hi); have hcz130_0 : w129.cell? ⟨gb291, 0, none⟩ = some (.string t295) := (blk_cell BK291.out 0).trans rfl; have hcz130_1 : w129.cell? ⟨gb291, 1, none⟩ = some (.string t296) := (blk_cell BK291.out 1).trans rfl; have hfz130_0 := blk_frozen BK291.out 0; have hfz130_1 := blk_frozen BK291.out 1) | (go_at_call 20; (with_reducible refine (graftwoodref05_With.calls kj57 _ _ t292 t295 t296 t323 _ ?side1 ?side2 A92.out).mono ?_); (case side1 => repeat (first | exact (Kd.R_reads' HO_0.out).2.2 | (with_reducible refine Kd.C_alloc ?_ _) | (with_reducible refine Kd.C_drewN ?_ _) | (with_reducible refine Kd.C_drew ?_))); (case side2 => exact (Kd.R_reads' HO_0.out).2.1); rintro e w131 ⟨v324, rfl, ho0, hb⟩; have n0_ := Aside0.mk (Kd.R_elder' (by (with_reducible repeat (first | apply Kd.R_alloc | apply Kd.R_drewN | apply Kd.R_drew)); exact HO_0.out) (Kd.R_base ho0) hb); have n1_ := Aside0.mk (Kd.R_elder' (by (with_reducible repeat (first | apply Kd.R_alloc | apply Kd.R_drewN | apply Kd.R_drew)); exact HO_11.out) (Kd.R_base ho0) hb); have n2_ := Aside0.mk (Kd.R_elder' (by (with_reducible repeat (first | apply Kd.R_alloc | apply Kd.R_drewN | apply Kd.R_drew)); exact HO_13.out) (Kd.R_base ho0) hb); have n3_ := Aside0.mk (Kd.R_lower (Kd.R_newB (Kd.R_new' (Kd.R_new' (Kd.R_new' ho0 (Kd.R_lt (by (with_reducible repeat (first | apply Kd.R_alloc | apply Kd.R_drewN | apply Kd.R_drew)); exact HO_0.out))) (Kd.R_lt (by (with_reducible repeat (first | apply Kd.R_alloc | apply Kd.R_drewN | apply Kd.R_drew)); exact HO_11.out))) (Kd.R_lt (by (with_reducible repeat (first | apply Kd.R_alloc | apply Kd.R_drewN | apply Kd.R_drew)); exact HO_13.out))) (g := gb291) (o := .cells #[.string t295, .string t296] 32 (0, 0)) (by (with_reducible repeat (first | refine blk_drewN ?_ _ | refine blk_drew ?_ | refine blk_alloc ?_ _)); exact BK291.out)) (below_size (by repeat (first | (with_reducible first | exact HB.out | apply below_alloc | apply pw_below_drewN | apply below_drew1 | refine below_set ?_ GE291.out) | exact HB.out)))); have n4_ := Aside0.mk (blk_below (g := gb291) (o := .cells #[.string t295, .string t296] 32 (0, 0)) (by (with_reducible repeat (first | refine blk_drewN ?_ _ | refine blk_drew ?_ | refine blk_alloc ?_ _)); exact BK291.out) hb); have n5_ := Aside0.mk (below_step (by repeat (first | (with_reducible first | exact HB.out | apply below_alloc | apply pw_below_drewN | apply below_drew1 | refine below_set ?_ GE291.out) | exact HB.out)) hb); clear HO_0; clear HO_11; clear HO_13; clear BK291; clear HB; have HO_0 := n0_; have HO_11 := n1_; have HO_13 := n2_; have HO325 := n3_; have BK291 := n4_; have HB := n5_; clear n0_ n1_ n2_ n3_ n4_ n5_; (try clear hb); (try clear hb2); (try clear hk); (try clear hi); (try clear ho0); obtain ⟨Ao132, co132, eo132⟩ := Kd.R_slice HO_11.out; subst eo132; obtain ⟨Ao133, co133, eo133⟩ := Kd.R_slice HO325.out; subst eo133) | (go_at_call 9; (with_reducible refine (graftwoodref05_Same.calls kj57 _ _ t311 _ _ t323 true _ ?side1 ?side2 ?side3 ?side4 A93.out).mono ?_); (case side1 => repeat (first | exact (Kd.R_reads' HO_11.out).2.2 | (with_reducible refine Kd.C_alloc ?_ _) | (with_reducible refine Kd.C_drewN ?_ _) | (with_reducible refine Kd.C_drew ?_))); (case side2 => exact (Kd.R_reads' HO_11.out).2.1); (case side3 => repeat (first | exact (Kd.R_reads' HO325.out).2.2 | (with_reducible refine Kd.C_alloc ?_ _) | (with_reducible refine Kd.C_drewN ?_ _) | (with_reducible refine Kd.C_drew ?_))); (case side4 => exact (Kd.R_reads' HO325.out).2.1); rintro e w' ⟨rfl, ⟨nd, rfl⟩⟩; have hcz134_0 : w131.cell? ⟨gb291, 0, none⟩ = some (.string t295) := (blk_cell BK291.out 0).trans rfl; have hcz134_1 : w131.cell? ⟨gb291, 1, none⟩ = some (.string t296) := (blk_cell BK291.out 1).trans rfl; have hfz134_0 := blk_frozen BK291.out 0; have hfz134_1 := blk_frozen BK291.out 1) | ((with_reducible refine gate_dst (N := 148) rfl ?_); (try (refine gate_guard (by rfl) ?_; dsimp only)); refine Kd.R_lit k32 _ 32 ?hg (N := 148) ?hd (xs := ([(⟨t295, t296⟩ : S32)] : List (S32))) (inner := [.string t295, .string t296]) (ok := fun _ => True) (okp := fun _ => True) ?hr ?hp (fun _ hk => hk) trivial (Below.refl _ _) (Nat.le_refl _) (by simp) ?_; (case hd => rfl); (case hg => rfl); (case hr => first | (go_simp; done) | (go_simp; rfl)); (case hp => exact (Reps.c2 (show Kd.M k32 _ _ _ (⟨t295, t296⟩ : S32) [.string t295, .string t296] from (k32_mkM _ _ _ (⟨t295, t296⟩ : S32) )) (Reps.none _ _))); intro v328 w135 ho136 hb hg_ hnew_; clear hg_ hnew_; (first | rw [← Ny327.out] at ho136 | (simp only [Int.reduceToNat] at ho136; rw [← Ny327.out] at ho136)); have n0_ := Aside0.mk (Kd.R_elder' (by (with_reducible repeat (first | apply Kd.R_alloc | apply Kd.R_drewN | apply Kd.R_drew)); exact HO_0.out) (Kd.R_base ho136) hb); have n1_ := Aside0.mk (Kd.R_elder' (by (with_reducible repeat (first | apply Kd.R_alloc | apply Kd.R_drewN | apply Kd.R_drew)); exact HO_11.out) (Kd.R_base ho136) hb); have n2_ := Aside0.mk (Kd.R_elder' (by (with_reducible repeat (first | apply Kd.R_alloc | apply Kd.R_drewN | apply Kd.R_drew)); exact HO_13.out) (Kd.R_base ho136) hb); have n3_ := Aside0.mk (Kd.R_elder' (by (with_reducible repeat (first | apply Kd.R_alloc | apply Kd.R_drewN | apply Kd.R_drew)); exact HO325.out) (Kd.R_base ho136) hb); have n4_ := Aside0.mk (Kd.R_lower (Kd.R_newB (Kd.R_new' (Kd.R_new' (Kd.R_new' (Kd.R_new' ho136 (Kd.R_lt (by (with_reducible repeat (first | apply Kd.R_alloc | apply Kd.R_drewN | apply Kd.R_drew)); exact HO_0.out))) (Kd.R_lt (by (with_reducible repeat (first | apply Kd.R_alloc | apply Kd.R_drewN | apply Kd.R_drew)); exact HO_11.out))) (Kd.R_lt (by (with_reducible repeat (first | apply Kd.R_alloc | apply Kd.R_drewN | apply Kd.R_drew)); exact HO_13.out))) (Kd.R_lt (by (with_reducible repeat (first | apply Kd.R_alloc | apply Kd.R_drewN | apply Kd.R_drew)); exact HO325.out))) (g := gb291) (o := .cells #[.string t295, .string t296] 32 (0, 0)) (by (with_reducible repeat (first | refine blk_drewN ?_ _ | refine blk_drew ?_ | refine blk_alloc ?_ _)); exact BK291.out)) (below_size (by repeat (first | (with_reducible first | exact HB.out | apply below_alloc | apply pw_below_drewN | apply below_drew1 | refine below_set ?_ GE291.out) | exact HB.out)))); have n5_ := Aside0.mk (blk_below (g := gb291) (o := .cells #[.string t295, .string t296] 32 (0, 0)) (by (with_reducible repeat (first | refine blk_drewN ?_ _ | refine blk_drew ?_ | refine blk_alloc ?_ _)); exact BK291.out) hb); have n6_ := Aside0.mk (below_step (by repeat (first | (with_reducible first | exact HB.out | apply below_alloc | apply pw_below_drewN | apply below_drew1 | refine below_set ?_ GE291.out) | exact HB.out)) hb); clear HO_0; clear HO_11; clear HO_13; clear HO325; clear BK291; clear HB; have HO_0 := n0_; have HO_11 := n1_; have HO_13 := n2_; have HO325 := n3_; have HO329 := n4_; have BK291 := n5_; have HB := n6_; clear n0_ n1_ n2_ n3_ n4_ n5_ n6_; clear hb ho136; obtain ⟨Ao137, co137, eo137⟩ := Kd.R_slice HO329.out; subst eo137) | (go_at_call 10; (with_reducible refine (graftwoodref05_Minus.calls kj57 _ _ t292 _ _ y327 t330 _ ?side1 ?side2 ?side3 ?side4 A96.out).mono ?_); (case side1 => repeat (first | exact (Kd.R_reads' HO_0.out).2.2 | (with_reducible refine Kd.C_alloc ?_ _) | (with_reducible refine Kd.C_drewN ?_ _) | (with_reducible refine Kd.C_drew ?_))); (case side2 => exact (Kd.R_reads' HO_0.out).2.1); (case side3 => repeat (first | exact (Kd.R_reads' HO329.out).2.2 | (with_reducible refine Kd.C_alloc ?_ _) | (with_reducible refine Kd.C_drewN ?_ _) | (with_reducible refine Kd.C_drew ?_))); (case side4 => exact (Kd.R_reads' HO329.out).2.1); rintro e w138 ⟨v331, rfl, ho0, hb⟩; have n0_ := Aside0.mk (Kd.R_elder' (by (with_reducible repeat (first | apply Kd.R_alloc | apply Kd.R_drewN | apply Kd.R_drew)); exact HO_0.out) (Kd.R_base ho0) hb); have n1_ := Aside0.mk (Kd.R_elder' (by (with_reducible repeat (first | apply Kd.R_alloc | apply Kd.R_drewN | apply Kd.R_drew)); exact HO_11.out) (Kd.R_base ho0) hb); have n2_ := Aside0.mk (Kd.R_elder' (by (with_reducible repeat (first | apply Kd.R_alloc | apply Kd.R_drewN | apply Kd.R_drew)); exact HO_13.out) (Kd.R_base ho0) hb); have n3_ := Aside0.mk (Kd.R_elder' (by (with_reducible repeat (first | apply Kd.R_alloc | apply Kd.R_drewN | apply Kd.R_drew)); exact HO325.out) (Kd.R_base ho0) hb); have n4_ := Aside0.mk (Kd.R_elder' (by (with_reducible repeat (first | apply Kd.R_alloc | apply Kd.R_drewN | apply Kd.R_drew)); exact HO329.out) (Kd.R_base ho0) hb); have n5_ := Aside0.mk (Kd.R_lower (Kd.R_newB (Kd.R_new' (Kd.R_new' (Kd.R_new' (Kd.R_new' (Kd.R_new' ho0 (Kd.R_lt (by (with_reducible repeat (first | apply Kd.R_alloc | apply Kd.R_drewN | apply Kd.R_drew)); exact HO_0.out))) (Kd.R_lt (by (with_reducible repeat (first | apply Kd.R_alloc | apply Kd.R_drewN | apply Kd.R_drew)); exact HO_11.out))) (Kd.R_lt (by (with_reducible repeat (first | apply Kd.R_alloc | apply Kd.R_drewN | apply Kd.R_drew)); exact HO_13.out))) (Kd.R_lt (by (with_reducible repeat (first | apply Kd.R_alloc | apply Kd.R_drewN | apply Kd.R_drew)); exact HO325.out))) (Kd.R_lt (by (with_reducible repeat (first | apply Kd.R_alloc | apply Kd.R_drewN | apply Kd.R_drew)); exact HO329.out))) (g := gb291) (o := .cells #[.string t295, .string t296] 32 (0, 0)) (by (with_reducible repeat (first | refine blk_drewN ?_ _ | refine blk_drew ?_ | refine blk_alloc ?_ _)); exact BK291.out)) (below_size (by repeat (first | (with_reducible first | exact HB.out | apply below_alloc | apply pw_below_drewN | apply below_drew1 | refine below_set ?_ GE291.out) | exact HB.out)))); have n6_ := Aside0.mk (blk_below (g := gb291) (o := .cells #[.string t295, .string t296] 32 (0, 0)) (by (with_reducible repeat (first | refine blk_drewN ?_ _ | refine blk_drew ?_ | refine blk_alloc ?_ _)); exact BK291.out) hb); have n7_ := Aside0.mk (below_step (by repeat (first | (with_reducible first | exact HB.out | apply below_alloc | apply pw_below_drewN | apply below_drew1 | refine below_set ?_ GE291.out) | exact HB.out)) hb); clear HO_0; clear HO_11; clear HO_13; clear HO325; clear HO329; clear BK291; clear HB; have HO_0 := n0_; have HO_11 := n1_; have HO_13 := n2_; have HO325 := n3_; have HO329 := n4_; have HO332 := n5_; have BK291 := n6_; have HB := n7_; clear n0_ n1_ n2_ n3_ n4_ n5_ n6_ n7_; (try clear hb); (try clear hb2); (try clear hk); (try clear hi); (try clear ho0); obtain ⟨Ao139, co139, eo139⟩ := Kd.R_slice HO_13.out; subst eo139; obtain ⟨Ao140, co140, eo140⟩ := Kd.R_slice HO332.out; subst eo140) | (go_at_call 9; (with_reducible refine (graftwoodref05_Same.calls kj57 _ _ t315 _ _ t330 false _ ?side1 ?side2 ?side3 ?side4 A97.out).mono ?_); (case side1 => repeat (first | exact (Kd.R_reads' HO_13.out).2.2 | (with_reducible refine Kd.C_alloc ?_ _) | (with_reducible refine Kd.C_drewN ?_ _) | (with_reducible refine Kd.C_drew ?_))); (case side2 => exact (Kd.R_reads' HO_13.out).2.1); (case side3 => repeat (first | exact (Kd.R_reads' HO332.out).2.2 | (with_reducible refine Kd.C_alloc ?_ _) | (with_reducible refine Kd.C_drewN ?_ _) | (with_reducible refine Kd.C_drew ?_))); (case side4 => exact (Kd.R_reads' HO332.out).2.1); rintro e w' ⟨rfl, ⟨nd, rfl⟩⟩))
                              go_ret
                              exact ⟨by first | rfl | (simp [errW_none, errW_some] <;> rfl) | (simp [*, errW_none, errW_some] <;> rfl), by repeat (first | (with_reducible first | exact HB.out | apply below_alloc | apply pw_below_drewN | apply below_drew1 | refine below_set ?_ GE291.out) | exact HB.out)⟩
                          · rw [if_neg c95] at H
                            have c95b0 : (t314 == 0) = false := beq_eq_false_iff_ne.mpr c95
                            have c95b1 : (t314 != 0) = true := bne_iff_ne.mpr c95
                            obtain rfl := Option.some.inj H
                            have hcz141_0 : wc.cell? ⟨gb291, 0, none⟩ = some (.string t295) := (blk_cell BK291.out 0).trans rfl
                            have hcz141_1 : wc.cell? ⟨gb291, 1, none⟩ = some (.string t296) := (blk_cell BK291.out 1).trans rfl
                            have hfz141_0 := blk_frozen BK291.out 0
                            have hfz141_1 := blk_frozen BK291.out 1
                            go_wp2_with (first | ((with_reducible refine gate_callee (f := 19) rfl ?_); refine goesL_ (some 127) rfl rfl Tryz.func19 (by kernel_rfl) rfl #[.slice Ao20 t292.length co20, .agg #[.string t295, .string t296]] rfl (by (try simp only [List.map_toArray, List.map_cons, List.map_nil]); first | done | rfl | (simp only [List.length_drop, List.length_take]; rfl)) ?_; (with_reducible refine (graftwoodref05_Has.calls kj57 _ _ t292 t295 t296 t322 _ ?side1 ?side2 A89.out).mono ?_); (case side1 => repeat (first | exact (Kd.R_reads' HO_0.out).2.2 | (with_reducible refine Kd.C_alloc ?_ _) | (with_reducible refine Kd.C_drewN ?_ _) | (with_reducible refine Kd.C_drew ?_))); (case side2 => exact (Kd.R_reads' HO_0.out).2.1); rintro e w142 ⟨rfl, hb⟩; refine ⟨_, rfl, ?_⟩; have n0_ := Aside0.mk (Kd.R_below (by (with_reducible repeat (first | apply Kd.R_alloc | apply Kd.R_drewN | apply Kd.R_drew)); exact HO_0.out) hb); have n1_ := Aside0.mk (Kd.R_below (by (with_reducible repeat (first | apply Kd.R_alloc | apply Kd.R_drewN | apply Kd.R_drew)); exact HO_11.out) hb); have n2_ := Aside0.mk (Kd.R_below (by (with_reducible repeat (first | apply Kd.R_alloc | apply Kd.R_drewN | apply Kd.R_drew)); exact HO_13.out) hb); have n3_ := Aside0.mk (blk_below (g := gb291) (o := .cells #[.string t295, .string t296] 32 (0, 0)) (by (with_reducible repeat (first | refine blk_drewN ?_ _ | refine blk_drew ?_ | refine blk_alloc ?_ _)); exact BK291.out) hb); have n4_ := Aside0.mk (below_step (by repeat (first | (with_reducible first | exact HB.out | apply below_alloc | apply pw_below_drewN | apply below_drew1 | refine below_set ?_ GE291.out) | exact HB.out)) hb); clear HO_0; clear HO_11; clear HO_13; clear BK291; clear HB; have HO_0 := n0_; have HO_11 := n1_; have HO_13 := n2_; have BK291 := n3_; have HB := n4_; clear n0_ n1_ n2_ n3_ n4_; (try clear hb); (try clear hb2); (try clear hk); (try clear hi); have hcz143_0 : w142.cell? ⟨gb291, 0, none⟩ = some (.string t295) := (blk_cell BK291.out 0).trans rfl; have hcz143_1 : w142.cell? ⟨gb291, 1, none⟩ = some (.string t296) := (blk_cell BK291.out 1).trans rfl; have hfz143_0 := blk_frozen BK291.out 0; have hfz143_1 := blk_frozen BK291.out 1) | (go_at_call 20; (with_reducible refine (graftwoodref05_With.calls kj57 _ _ t292 t295 t296 t323 _ ?side1 ?side2 A92.out).mono ?_); (case side1 => repeat (first | exact (Kd.R_reads' HO_0.out).2.2 | (with_reducible refine Kd.C_alloc ?_ _) | (with_reducible refine Kd.C_drewN ?_ _) | (with_reducible refine Kd.C_drew ?_))); (case side2 => exact (Kd.R_reads' HO_0.out).2.1); rintro e w144 ⟨v324, rfl, ho0, hb⟩; have n0_ := Aside0.mk (Kd.R_elder' (by (with_reducible repeat (first | apply Kd.R_alloc | apply Kd.R_drewN | apply Kd.R_drew)); exact HO_0.out) (Kd.R_base ho0) hb); have n1_ := Aside0.mk (Kd.R_elder' (by (with_reducible repeat (first | apply Kd.R_alloc | apply Kd.R_drewN | apply Kd.R_drew)); exact HO_11.out) (Kd.R_base ho0) hb); have n2_ := Aside0.mk (Kd.R_elder' (by (with_reducible repeat (first | apply Kd.R_alloc | apply Kd.R_drewN | apply Kd.R_drew)); exact HO_13.out) (Kd.R_base ho0) hb); have n3_ := Aside0.mk (Kd.R_lower (Kd.R_newB (Kd.R_new' (Kd.R_new' (Kd.R_new' ho0 (Kd.R_lt (by (with_reducible repeat (first | apply Kd.R_alloc | apply Kd.R_drewN | apply Kd.R_drew)); exact HO_0.out))) (Kd.R_lt (by (with_reducible repeat (first | apply Kd.R_alloc | apply Kd.R_drewN | apply Kd.R_drew)); exact HO_11.out))) (Kd.R_lt (by (with_reducible repeat (first | apply Kd.R_alloc | apply Kd.R_drewN | apply Kd.R_drew)); exact HO_13.out))) (g := gb291) (o := .cells #[.string t295, .string t296] 32 (0, 0)) (by (with_reducible repeat (first | refine blk_drewN ?_ _ | refine blk_drew ?_ | refine blk_alloc ?_ _)); exact BK291.out)) (below_size (by repeat (first | (with_reducible first | exact HB.out | apply below_alloc | apply pw_below_drewN | apply below_drew1 | refine below_set ?_ GE291.out) | exact HB.out)))); have n4_ := Aside0.mk (blk_below (g := gb291) (o := .cells #[.string t295, .string t296] 32 (0, 0)) (by (with_reducible repeat (first | refine blk_drewN ?_ _ | refine blk_drew ?_ | refine blk_alloc ?_ _)); exact BK291.out) hb); have n5_ := Aside0.mk (below_step (by repeat (first | (with_reducible first | exact HB.out | apply below_alloc | apply pw_below_drewN | apply below_drew1 | refine below_set ?_ GE291.out) | exact HB.out)) hb); clear HO_0; clear HO_11; clear HO_13; clear BK291; clear HB; have HO_0 := n0_; have HO_11 := n1_; have HO_13 := n2_; have HO325 := n3_; have BK291 := n4_; have HB := n5_; clear n0_ n1_ n2_ n3_ n4_ n5_; (try clear hb); (try clear hb2); (try clear hk); (try clear hi); (try clear ho0); obtain ⟨Ao145, co145, eo145⟩ := Kd.R_slice HO_11.out; subst eo145; obtain ⟨Ao146, co146, eo146⟩ := Kd.R_slice HO325.out; subst eo146) | (go_at_call 9; (with_reducible refine (graftwoodref05_Same.calls kj57 _ _ t311 _ _ t323 true _ ?side1 ?side2 ?side3 ?side4 A93.out).mono ?_); (case side1 => repeat (first | exact (Kd.R_reads' HO_11.out).2.2 | (with_reducible refine Kd.C_alloc ?_ _) | (with_reducible refine Kd.C_drewN ?_ _) | (with_reducible refine Kd.C_drew ?_))); (case side2 => exact (Kd.R_reads' HO_11.out).2.1); (case side3 => repeat (first | exact (Kd.R_reads' HO325.out).2.2 | (with_reducible refine Kd.C_alloc ?_ _) | (with_reducible refine Kd.C_drewN ?_ _) | (with_reducible refine Kd.C_drew ?_))); (case side4 => exact (Kd.R_reads' HO325.out).2.1); rintro e w' ⟨rfl, ⟨nd, rfl⟩⟩))
                            go_ret
                            exact ⟨by first | rfl | (simp [errW_none, errW_some] <;> rfl) | (simp [*, errW_none, errW_some] <;> rfl), by repeat (first | (with_reducible first | exact HB.out | apply below_alloc | apply pw_below_drewN | apply below_drew1 | refine below_set ?_ GE291.out) | exact HB.out)⟩
                        · replace c94 := Bool.eq_false_iff.mpr c94
                          subst c94
                          have H1 : (some false) = some r := by rw [if_neg (show ¬ (false = true) by decide)] at H; exact H
                          clear H
                          have H := H1
                          clear H1
                          obtain rfl := Option.some.inj H
                          have hcz147_0 : wc.cell? ⟨gb291, 0, none⟩ = some (.string t295) := (blk_cell BK291.out 0).trans rfl
                          have hcz147_1 : wc.cell? ⟨gb291, 1, none⟩ = some (.string t296) := (blk_cell BK291.out 1).trans rfl
                          have hfz147_0 := blk_frozen BK291.out 0
                          have hfz147_1 := blk_frozen BK291.out 1
                          go_wp2_with (first | ((with_reducible refine gate_callee (f := 19) rfl ?_); refine goesL_ (some 127) rfl rfl Tryz.func19 (by kernel_rfl) rfl #[.slice Ao20 t292.length co20, .agg #[.string t295, .string t296]] rfl (by (try simp only [List.map_toArray, List.map_cons, List.map_nil]); first | done | rfl | (simp only [List.length_drop, List.length_take]; rfl)) ?_; (with_reducible refine (graftwoodref05_Has.calls kj57 _ _ t292 t295 t296 t322 _ ?side1 ?side2 A89.out).mono ?_); (case side1 => repeat (first | exact (Kd.R_reads' HO_0.out).2.2 | (with_reducible refine Kd.C_alloc ?_ _) | (with_reducible refine Kd.C_drewN ?_ _) | (with_reducible refine Kd.C_drew ?_))); (case side2 => exact (Kd.R_reads' HO_0.out).2.1); rintro e w148 ⟨rfl, hb⟩; refine ⟨_, rfl, ?_⟩; have n0_ := Aside0.mk (Kd.R_below (by (with_reducible repeat (first | apply Kd.R_alloc | apply Kd.R_drewN | apply Kd.R_drew)); exact HO_0.out) hb); have n1_ := Aside0.mk (Kd.R_below (by (with_reducible repeat (first | apply Kd.R_alloc | apply Kd.R_drewN | apply Kd.R_drew)); exact HO_11.out) hb); have n2_ := Aside0.mk (Kd.R_below (by (with_reducible repeat (first | apply Kd.R_alloc | apply Kd.R_drewN | apply Kd.R_drew)); exact HO_13.out) hb); have n3_ := Aside0.mk (blk_below (g := gb291) (o := .cells #[.string t295, .string t296] 32 (0, 0)) (by (with_reducible repeat (first | refine blk_drewN ?_ _ | refine blk_drew ?_ | refine blk_alloc ?_ _)); exact BK291.out) hb); have n4_ := Aside0.mk (below_step (by repeat (first | (with_reducible first | exact HB.out | apply below_alloc | apply pw_below_drewN | apply below_drew1 | refine below_set ?_ GE291.out) | exact HB.out)) hb); clear HO_0; clear HO_11; clear HO_13; clear BK291; clear HB; have HO_0 := n0_; have HO_11 := n1_; have HO_13 := n2_; have BK291 := n3_; have HB := n4_; clear n0_ n1_ n2_ n3_ n4_; (try clear hb); (try clear hb2); (try clear hk); (try clear hi); have hcz149_0 : w148.cell? ⟨gb291, 0, none⟩ = some (.string t295) := (blk_cell BK291.out 0).trans rfl; have hcz149_1 : w148.cell? ⟨gb291, 1, none⟩ = some (.string t296) := (blk_cell BK291.out 1).trans rfl; have hfz149_0 := blk_frozen BK291.out 0; have hfz149_1 := blk_frozen BK291.out 1) | (go_at_call 20; (with_reducible refine (graftwoodref05_With.calls kj57 _ _ t292 t295 t296 t323 _ ?side1 ?side2 A92.out).mono ?_); (case side1 => repeat (first | exact (Kd.R_reads' HO_0.out).2.2 | (with_reducible refine Kd.C_alloc ?_ _) | (with_reducible refine Kd.C_drewN ?_ _) | (with_reducible refine Kd.C_drew ?_))); (case side2 => exact (Kd.R_reads' HO_0.out).2.1); rintro e w150 ⟨v324, rfl, ho0, hb⟩; have n0_ := Aside0.mk (Kd.R_elder' (by (with_reducible repeat (first | apply Kd.R_alloc | apply Kd.R_drewN | apply Kd.R_drew)); exact HO_0.out) (Kd.R_base ho0) hb); have n1_ := Aside0.mk (Kd.R_elder' (by (with_reducible repeat (first | apply Kd.R_alloc | apply Kd.R_drewN | apply Kd.R_drew)); exact HO_11.out) (Kd.R_base ho0) hb); have n2_ := Aside0.mk (Kd.R_elder' (by (with_reducible repeat (first | apply Kd.R_alloc | apply Kd.R_drewN | apply Kd.R_drew)); exact HO_13.out) (Kd.R_base ho0) hb); have n3_ := Aside0.mk (Kd.R_lower (Kd.R_newB (Kd.R_new' (Kd.R_new' (Kd.R_new' ho0 (Kd.R_lt (by (with_reducible repeat (first | apply Kd.R_alloc | apply Kd.R_drewN | apply Kd.R_drew)); exact HO_0.out))) (Kd.R_lt (by (with_reducible repeat (first | apply Kd.R_alloc | apply Kd.R_drewN | apply Kd.R_drew)); exact HO_11.out))) (Kd.R_lt (by (with_reducible repeat (first | apply Kd.R_alloc | apply Kd.R_drewN | apply Kd.R_drew)); exact HO_13.out))) (g := gb291) (o := .cells #[.string t295, .string t296] 32 (0, 0)) (by (with_reducible repeat (first | refine blk_drewN ?_ _ | refine blk_drew ?_ | refine blk_alloc ?_ _)); exact BK291.out)) (below_size (by repeat (first | (with_reducible first | exact HB.out | apply below_alloc | apply pw_below_drewN | apply below_drew1 | refine below_set ?_ GE291.out) | exact HB.out)))); have n4_ := Aside0.mk (blk_below (g := gb291) (o := .cells #[.string t295, .string t296] 32 (0, 0)) (by (with_reducible repeat (first | refine blk_drewN ?_ _ | refine blk_drew ?_ | refine blk_alloc ?_ _)); exact BK291.out) hb); have n5_ := Aside0.mk (below_step (by repeat (first | (with_reducible first | exact HB.out | apply below_alloc | apply pw_below_drewN | apply below_drew1 | refine below_set ?_ GE291.out) | exact HB.out)) hb); clear HO_0; clear HO_11; clear HO_13; clear BK291; clear HB; have HO_0 := n0_; have HO_11 := n1_; have HO_13 := n2_; have HO325 := n3_; have BK291 := n4_; have HB := n5_; clear n0_ n1_ n2_ n3_ n4_ n5_; (try clear hb); (try clear hb2); (try clear hk); (try clear hi); (try clear ho0); obtain ⟨Ao151, co151, eo151⟩ := Kd.R_slice HO_11.out; subst eo151; obtain ⟨Ao152, co152, eo152⟩ := Kd.R_slice HO325.out; subst eo152) | (go_at_call 9; (with_reducible refine (graftwoodref05_Same.calls kj57 _ _ t311 _ _ t323 false _ ?side1 ?side2 ?side3 ?side4 A93.out).mono ?_); (case side1 => repeat (first | exact (Kd.R_reads' HO_11.out).2.2 | (with_reducible refine Kd.C_alloc ?_ _) | (with_reducible refine Kd.C_drewN ?_ _) | (with_reducible refine Kd.C_drew ?_))); (case side2 => exact (Kd.R_reads' HO_11.out).2.1); (case side3 => repeat (first | exact (Kd.R_reads' HO325.out).2.2 | (with_reducible refine Kd.C_alloc ?_ _) | (with_reducible refine Kd.C_drewN ?_ _) | (with_reducible refine Kd.C_drew ?_))); (case side4 => exact (Kd.R_reads' HO325.out).2.1); rintro e w' ⟨rfl, ⟨nd, rfl⟩⟩))
                          go_ret
                          exact ⟨by first | rfl | (simp [errW_none, errW_some] <;> rfl) | (simp [*, errW_none, errW_some] <;> rfl), by repeat (first | (with_reducible first | exact HB.out | apply below_alloc | apply pw_below_drewN | apply below_drew1 | refine below_set ?_ GE291.out) | exact HB.out)⟩
                      · rw [if_neg c91] at H
                        have c91b0 : (t310 == 0) = false := beq_eq_false_iff_ne.mpr c91
                        have c91b1 : (t310 != 0) = true := bne_iff_ne.mpr c91
                        obtain rfl := Option.some.inj H
                        have hcz153_0 : wc.cell? ⟨gb291, 0, none⟩ = some (.string t295) := (blk_cell BK291.out 0).trans rfl
                        have hcz153_1 : wc.cell? ⟨gb291, 1, none⟩ = some (.string t296) := (blk_cell BK291.out 1).trans rfl
                        have hfz153_0 := blk_frozen BK291.out 0
                        have hfz153_1 := blk_frozen BK291.out 1
                        go_wp2_with (first | ((with_reducible refine gate_callee (f := 19) rfl ?_); refine goesL_ (some 127) rfl rfl Tryz.func19 (by kernel_rfl) rfl #[.slice Ao20 t292.length co20, .agg #[.string t295, .string t296]] rfl (by (try simp only [List.map_toArray, List.map_cons, List.map_nil]); first | done | rfl | (simp only [List.length_drop, List.length_take]; rfl)) ?_; (with_reducible refine (graftwoodref05_Has.calls kj57 _ _ t292 t295 t296 t322 _ ?side1 ?side2 A89.out).mono ?_); (case side1 => repeat (first | exact (Kd.R_reads' HO_0.out).2.2 | (with_reducible refine Kd.C_alloc ?_ _) | (with_reducible refine Kd.C_drewN ?_ _) | (with_reducible refine Kd.C_drew ?_))); (case side2 => exact (Kd.R_reads' HO_0.out).2.1); rintro e w154 ⟨rfl, hb⟩; refine ⟨_, rfl, ?_⟩; have n0_ := Aside0.mk (Kd.R_below (by (with_reducible repeat (first | apply Kd.R_alloc | apply Kd.R_drewN | apply Kd.R_drew)); exact HO_0.out) hb); have n1_ := Aside0.mk (Kd.R_below (by (with_reducible repeat (first | apply Kd.R_alloc | apply Kd.R_drewN | apply Kd.R_drew)); exact HO_11.out) hb); have n2_ := Aside0.mk (Kd.R_below (by (with_reducible repeat (first | apply Kd.R_alloc | apply Kd.R_drewN | apply Kd.R_drew)); exact HO_13.out) hb); have n3_ := Aside0.mk (blk_below (g := gb291) (o := .cells #[.string t295, .string t296] 32 (0, 0)) (by (with_reducible repeat (first | refine blk_drewN ?_ _ | refine blk_drew ?_ | refine blk_alloc ?_ _)); exact BK291.out) hb); have n4_ := Aside0.mk (below_step (by repeat (first | (with_reducible first | exact HB.out | apply below_alloc | apply pw_below_drewN | apply below_drew1 | refine below_set ?_ GE291.out) | exact HB.out)) hb); clear HO_0; clear HO_11; clear HO_13; clear BK291; clear HB; have HO_0 := n0_; have HO_11 := n1_; have HO_13 := n2_; have BK291 := n3_; have HB := n4_; clear n0_ n1_ n2_ n3_ n4_; (try clear hb); (try clear hb2); (try clear hk); (try clear hi)))
                        go_ret
                        exact ⟨by first | rfl | (simp [errW_none, errW_some] <;> rfl) | (simp [*, errW_none, errW_some] <;> rfl), by repeat (first | (with_reducible first | exact HB.out | apply below_alloc | apply pw_below_drewN | apply below_drew1 | refine below_set ?_ GE291.out) | exact HB.out)⟩
                    · rw [if_neg c90] at H
                      have c90b0 : (t309 == t322) = false := by simpa using c90
                      (try (have c90b1 : decide (t309 = t322) = false := by simpa using c90))
                      (try (have c90b2 : (t309 == t322) = false := by simpa using c90))
                      (try (have c90b3 : ¬ (t309 = t322) := by simpa using c90))
                      clear c90
                      obtain rfl := Option.some.inj H
                      have hcz155_0 : wc.cell? ⟨gb291, 0, none⟩ = some (.string t295) := (blk_cell BK291.out 0).trans rfl
                      have hcz155_1 : wc.cell? ⟨gb291, 1, none⟩ = some (.string t296) := (blk_cell BK291.out 1).trans rfl
                      have hfz155_0 := blk_frozen BK291.out 0
                      have hfz155_1 := blk_frozen BK291.out 1
                      go_wp2_with (first | ((with_reducible refine gate_callee (f := 19) rfl ?_); refine goesL_ (some 127) rfl rfl Tryz.func19 (by kernel_rfl) rfl #[.slice Ao20 t292.length co20, .agg #[.string t295, .string t296]] rfl (by (try simp only [List.map_toArray, List.map_cons, List.map_nil]); first | done | rfl | (simp only [List.length_drop, List.length_take]; rfl)) ?_; (with_reducible refine (graftwoodref05_Has.calls kj57 _ _ t292 t295 t296 t322 _ ?side1 ?side2 A89.out).mono ?_); (case side1 => repeat (first | exact (Kd.R_reads' HO_0.out).2.2 | (with_reducible refine Kd.C_alloc ?_ _) | (with_reducible refine Kd.C_drewN ?_ _) | (with_reducible refine Kd.C_drew ?_))); (case side2 => exact (Kd.R_reads' HO_0.out).2.1); rintro e w156 ⟨rfl, hb⟩; refine ⟨_, rfl, ?_⟩; have n0_ := Aside0.mk (Kd.R_below (by (with_reducible repeat (first | apply Kd.R_alloc | apply Kd.R_drewN | apply Kd.R_drew)); exact HO_0.out) hb); have n1_ := Aside0.mk (Kd.R_below (by (with_reducible repeat (first | apply Kd.R_alloc | apply Kd.R_drewN | apply Kd.R_drew)); exact HO_11.out) hb); have n2_ := Aside0.mk (Kd.R_below (by (with_reducible repeat (first | apply Kd.R_alloc | apply Kd.R_drewN | apply Kd.R_drew)); exact HO_13.out) hb); have n3_ := Aside0.mk (blk_below (g := gb291) (o := .cells #[.string t295, .string t296] 32 (0, 0)) (by (with_reducible repeat (first | refine blk_drewN ?_ _ | refine blk_drew ?_ | refine blk_alloc ?_ _)); exact BK291.out) hb); have n4_ := Aside0.mk (below_step (by repeat (first | (with_reducible first | exact HB.out | apply below_alloc | apply pw_below_drewN | apply below_drew1 | refine below_set ?_ GE291.out) | exact HB.out)) hb); clear HO_0; clear HO_11; clear HO_13; clear BK291; clear HB; have HO_0 := n0_; have HO_11 := n1_; have HO_13 := n2_; have BK291 := n3_; have HB := n4_; clear n0_ n1_ n2_ n3_ n4_; (try clear hb); (try clear hb2); (try clear hk); (try clear hi)))
                      go_ret
                      exact ⟨by first | rfl | (simp [errW_none, errW_some] <;> rfl) | (simp [*, errW_none, errW_some] <;> rfl), by repeat (first | (with_reducible first | exact HB.out | apply below_alloc | apply pw_below_drewN | apply below_drew1 | refine below_set ?_ GE291.out) | exact HB.out)⟩
end Go.Proofs.YtnknjhdpjjddeaaGreatDoor.Q
end
