/- Part 11 of this claim: several texts one behind the other: DFnodeorder, DFnodeCmp, DFwhyorder, Br, NDef, LOne, LFew18, LRd, LCon, NMayV, KChk, NOrd, NCmp, PSet, NAhead, NSets, YMin, NKey. What each shows stands in its theorems; conditions: sizes of texts and lists, as the functions' definitions say. -/
import Derived.Test.YtodkjmbmlobihaaGreatDoorMWhyDepths6
import Derived.Test.YtodkjmbmlobihaaGreatDoorMWhyDepths8
import Derived.Test.YtodkjmbmlobihaaGreatDoorMWhyDepths10
import Derived.Test.YtodkjmbmlobihaaGreatDoorMWhyDepths7
import Derived.Test.YtodkjmbmlobihaaGreatDoorMWhyDepths9
import Derived.Sort.WalkB12
import Derived.Lib.Walk
import Derived.WalkKit
import Derived.Deep.LoopGhost
import Derived.RegionTactic
import Derived.BigRegion
import Derived.Deep.QuietTactic
import Derived.BigQuiet
import Derived.Deep.RegionHeld3
import Derived.ChangeAlike
import Derived.Lib.SliceRun
import Derived.Maps.OwnSet
import Derived.Maps.AppendAt
import Derived.DeepKeys4
section
namespace Go.Proofs.YtodkjmbmlobihaaGreatDoor.QB.D
open Go.Proofs.YtodkjmbmlobihaaGreatDoor.Q
open Go.RowKit Go.Proofs.YtodkjmbmlobihaaGreatDoorW.PrintWords Go.Proofs.YtodkjmbmlobihaaGreatDoorW.PrintLast Go.Proofs.YtodkjmbmlobihaaGreatDoorW.PrintMore
attribute [local go_sem] max2_int min2_int max_two min_two max_three min_three max_four min_four   -- for this text's walks alone
set_option linter.unusedVariables false
set_option linter.unusedSimpArgs false
attribute [local go_sem high] eqA24
def node_order.f (k : Nat) (a0_0 : ByteArray) (a0_1 : ByteArray) (a1_0 : ByteArray) (a1_1 : ByteArray) : Option (Int) := if (a0_0.toList == a1_0.toList && (a0_1.toList == a1_1.toList)) = true then (some 0) else ((version_Cmp.f a0_1 a1_1).bind fun bt160 => ((octet_Cmp.f a0_0 a1_0).bind fun t162 => ((cmp_Or_int.f k (([t162, bt160.1] : List Int))).bind fun t166 => (some t166))))
set_option maxHeartbeats 8000000 in
set_option maxRecDepth 100000 in
theorem node_order.calls (k : Nat) (a0_0 : ByteArray) (a0_1 : ByteArray) (a1_0 : ByteArray) (a1_1 : ByteArray) (r : Int) (w : World) (h : node_order.f k a0_0 a0_1 a1_0 a1_1 = some r) :
 Calls Tryz.prog 60 #[.agg #[.string a0_0, .string a0_1], .agg #[.string a1_0, .string a1_1]] w fun e w' => e = .returned (.int .i64 r) ∧ Below w.heap.size w w' := by
 have hu24 := Tryz.underlying24
 have HB := Aside0.mk (Below.refl w.heap.size w)
 have H : (if (a0_0.toList == a1_0.toList && (a0_1.toList == a1_1.toList)) = true then (some 0) else ((version_Cmp.f a0_1 a1_1).bind fun bt160 => ((octet_Cmp.f a0_0 a1_0).bind fun t162 => ((cmp_Or_int.f k (([t162, bt160.1] : List Int))).bind fun t166 => (some t166))))) = some r := h
 clear h
 by_cases c3 : (a0_0.toList == a1_0.toList && (a0_1.toList == a1_1.toList)) = true
 ·rw [if_pos c3] at H
  have c3b0 : (a0_0.toList == a1_0.toList && (a0_1.toList == a1_1.toList)) = true := c3
  (try (have c3b1 : decide (a0_0.toList = a1_0.toList && (a0_1.toList == a1_1.toList)) = true := by simpa using c3))
  (try (have c3b2 : (a0_0.toList == a1_0.toList && (a0_1.toList == a1_1.toList)) = true := by simpa using c3))
  clear c3
  obtain rfl := Option.some.inj H
  go_enter Tryz.func60, Tryz.ntmps60
  go_wp2_with (first | ((with_reducible refine gate_dst (N := 2) rfl ?_); refine box_event ?hg (N := 2) ?hd (cs := #[.string a0_0, .string a0_1]) (t := 24) ?hr ?_; (case hd => rfl); (case hg => rfl); (case hr => first | (go_simp; done) | (go_simp; rfl)); intro gb158 hg w4 hbox hb; have n0_ := Aside0.mk (below_step (by repeat (first | (with_reducible first | exact HB.out | apply below_alloc | apply pw_below_drewN | apply below_drew1) | exact HB.out)) hb); have n1_ := Aside0.mk (hbox); have n2_ := Aside0.mk ((by rw [hg]; exact (below_size (by repeat (first | (with_reducible first | exact HB.out | apply below_alloc | apply pw_below_drewN | apply below_drew1) | exact HB.out))) : w.heap.size ≤ gb158)); have n3_ := Aside0.mk ((by rw [hg]; exact (below_size (by repeat (first | (with_reducible first | exact HB.out | apply below_alloc | apply pw_below_drewN | apply below_drew1) | exact HB.out))) : w.heap.size ≤ gb158)); clear HB; have HB := n0_; have BK158 := n1_; have GW158 := n2_; have GE158 := n3_; clear n0_ n1_ n2_ n3_; clear hb hbox hg) | ((with_reducible refine gate_dst (N := 3) rfl ?_); refine box_event ?hg (N := 3) ?hd (cs := #[.string a1_0, .string a1_1]) (t := 24) ?hr ?_; (case hd => rfl); (case hg => rfl); (case hr => first | (go_simp; done) | (go_simp; rfl)); intro gb159 hg w5 hbox hb; have n0_ := Aside0.mk (blk_below (g := gb158) (o := .cells #[.string a0_0, .string a0_1] 24 (0, 0)) (by (with_reducible repeat (first | refine blk_drewN ?_ _ | refine blk_drew ?_ | refine blk_alloc ?_ _)); exact BK158.out) hb); have n1_ := Aside0.mk (below_step (by repeat (first | (with_reducible first | exact HB.out | apply below_alloc | apply pw_below_drewN | apply below_drew1 | refine below_set ?_ GE158.out) | exact HB.out)) hb); have n2_ := Aside0.mk (hbox); have n3_ := Aside0.mk ((by rw [hg]; exact (below_size (by repeat (first | (with_reducible first | exact HB.out | apply below_alloc | apply pw_below_drewN | apply below_drew1 | refine below_set ?_ GE158.out) | exact HB.out))) : w.heap.size ≤ gb159)); have n4_ := Aside0.mk ((by rw [hg]; exact (below_size (by repeat (first | (with_reducible first | exact HB.out | apply below_alloc | apply pw_below_drewN | apply below_drew1 | refine below_set ?_ GE158.out) | exact HB.out))) : w.heap.size ≤ gb159)); have n5_ := Aside0.mk ((by rw [hg]; exact Nat.ne_of_lt (blk_lt (g := gb158) (o := .cells #[.string a0_0, .string a0_1] 24 (0, 0)) (by (with_reducible repeat (first | refine blk_drewN ?_ _ | refine blk_drew ?_ | refine blk_alloc ?_ _)); exact BK158.out)) : gb158 ≠ gb159)); have n6_ := Aside0.mk ((by rw [hg]; exact Nat.ne_of_gt (blk_lt (g := gb158) (o := .cells #[.string a0_0, .string a0_1] 24 (0, 0)) (by (with_reducible repeat (first | refine blk_drewN ?_ _ | refine blk_drew ?_ | refine blk_alloc ?_ _)); exact BK158.out)) : gb159 ≠ gb158)); clear BK158; clear HB; have BK158 := n0_; have HB := n1_; have BK159 := n2_; have GW159 := n3_; have GE159 := n4_; have NB158_159 := n5_; have NB159_158 := n6_; clear n0_ n1_ n2_ n3_ n4_ n5_ n6_; clear hb hbox hg; have hnb6 := NB158_159.out; have hnc6 := NB159_158.out; have hcz7_0 : w5.cell? ⟨gb158, 0, none⟩ = some (.string a0_0) := (blk_cell BK158.out 0).trans rfl; have hcz7_1 : w5.cell? ⟨gb158, 1, none⟩ = some (.string a0_1) := (blk_cell BK158.out 1).trans rfl; have hfz7_0 := blk_frozen BK158.out 0; have hfz7_1 := blk_frozen BK158.out 1; have hcz8_0 : w5.cell? ⟨gb159, 0, none⟩ = some (.string a1_0) := (blk_cell BK159.out 0).trans rfl; have hcz8_1 : w5.cell? ⟨gb159, 1, none⟩ = some (.string a1_1) := (blk_cell BK159.out 1).trans rfl; have hfz8_0 := blk_frozen BK159.out 0; have hfz8_1 := blk_frozen BK159.out 1))
  go_ret
  exact ⟨by first | rfl | (simp [errW_none, errW_some] <;> rfl) | (simp [*, errW_none, errW_some] <;> rfl), by repeat (first | (with_reducible first | exact HB.out | apply below_alloc | apply pw_below_drewN | apply below_drew1 | refine below_set ?_ GE158.out | refine below_set ?_ GE159.out) | exact HB.out)⟩
 ·rw [if_neg c3] at H
  have c3b0 : (a0_0.toList == a1_0.toList && (a0_1.toList == a1_1.toList)) = false := by simpa using c3
  (try (have c3b1 : decide (a0_0.toList = a1_0.toList && (a0_1.toList == a1_1.toList)) = false := by simpa using c3))
  (try (have c3b2 : (a0_0.toList == a1_0.toList && (a0_1.toList == a1_1.toList)) = false := by simpa using c3))
  (try (have c3b3 : ¬ (a0_0.toList = a1_0.toList && (a0_1.toList == a1_1.toList)) := by simpa using c3))
  clear c3
  replace H := Option.bind_eq_some_iff.mp H
  obtain ⟨⟨t160, t161⟩, A90, H⟩ := H
  replace H : ((octet_Cmp.f a0_0 a1_0).bind fun t162 => ((cmp_Or_int.f k (([t162, t160] : List Int))).bind fun t166 => (some t166))) = some r := H
  have A9 := Aside0.mk A90
  clear A90
  replace H := Option.bind_eq_some_iff.mp H
  obtain ⟨t162, A100, H⟩ := H
  replace H : ((cmp_Or_int.f k (([t162, t160] : List Int))).bind fun t166 => (some t166)) = some r := H
  have A10 := Aside0.mk A100
  clear A100
  obtain ⟨y163, hy163⟩ : ∃ y_ : List Int, y_ = (([t162, t160] : List Int)) := ⟨_, rfl⟩
  replace H : ((cmp_Or_int.f k y163).bind fun t166 => (some t166)) = some r := by first | (rw [hy163]; with_reducible exact H) | (have H2_ := (Option.bind_some _ _).symm.trans H; rw [hy163]; with_reducible exact H2_) | (have H2_ := (Option.bind_some _ _).symm.trans H; with_reducible exact H2_) | with_reducible exact H | (rw [hy163]; exact H) | exact H
  have Ny163 := Aside0.mk hy163
  clear hy163
  replace H := Option.bind_eq_some_iff.mp H
  obtain ⟨t166, A110, H⟩ := H
  replace H : (some t166) = some r := H
  have A11 := Aside0.mk A110
  clear A110
  obtain rfl := Option.some.inj H
  go_enter Tryz.func60, Tryz.ntmps60
  go_wp2_with (first | ((with_reducible refine gate_dst (N := 2) rfl ?_); refine box_event ?hg (N := 2) ?hd (cs := #[.string a0_0, .string a0_1]) (t := 24) ?hr ?_; (case hd => rfl); (case hg => rfl); (case hr => first | (go_simp; done) | (go_simp; rfl)); intro gb158 hg w12 hbox hb; have n0_ := Aside0.mk (below_step (by repeat (first | (with_reducible first | exact HB.out | apply below_alloc | apply pw_below_drewN | apply below_drew1) | exact HB.out)) hb); have n1_ := Aside0.mk (hbox); have n2_ := Aside0.mk ((by rw [hg]; exact (below_size (by repeat (first | (with_reducible first | exact HB.out | apply below_alloc | apply pw_below_drewN | apply below_drew1) | exact HB.out))) : w.heap.size ≤ gb158)); have n3_ := Aside0.mk ((by rw [hg]; exact (below_size (by repeat (first | (with_reducible first | exact HB.out | apply below_alloc | apply pw_below_drewN | apply below_drew1) | exact HB.out))) : w.heap.size ≤ gb158)); clear HB; have HB := n0_; have BK158 := n1_; have GW158 := n2_; have GE158 := n3_; clear n0_ n1_ n2_ n3_; clear hb hbox hg) | ((with_reducible refine gate_dst (N := 3) rfl ?_); refine box_event ?hg (N := 3) ?hd (cs := #[.string a1_0, .string a1_1]) (t := 24) ?hr ?_; (case hd => rfl); (case hg => rfl); (case hr => first | (go_simp; done) | (go_simp; rfl)); intro gb159 hg w13 hbox hb; have n0_ := Aside0.mk (blk_below (g := gb158) (o := .cells #[.string a0_0, .string a0_1] 24 (0, 0)) (by (with_reducible repeat (first | refine blk_drewN ?_ _ | refine blk_drew ?_ | refine blk_alloc ?_ _)); exact BK158.out) hb); have n1_ := Aside0.mk (below_step (by repeat (first | (with_reducible first | exact HB.out | apply below_alloc | apply pw_below_drewN | apply below_drew1 | refine below_set ?_ GE158.out) | exact HB.out)) hb); have n2_ := Aside0.mk (hbox); have n3_ := Aside0.mk ((by rw [hg]; exact (below_size (by repeat (first | (with_reducible first | exact HB.out | apply below_alloc | apply pw_below_drewN | apply below_drew1 | refine below_set ?_ GE158.out) | exact HB.out))) : w.heap.size ≤ gb159)); have n4_ := Aside0.mk ((by rw [hg]; exact (below_size (by repeat (first | (with_reducible first | exact HB.out | apply below_alloc | apply pw_below_drewN | apply below_drew1 | refine below_set ?_ GE158.out) | exact HB.out))) : w.heap.size ≤ gb159)); have n5_ := Aside0.mk ((by rw [hg]; exact Nat.ne_of_lt (blk_lt (g := gb158) (o := .cells #[.string a0_0, .string a0_1] 24 (0, 0)) (by (with_reducible repeat (first | refine blk_drewN ?_ _ | refine blk_drew ?_ | refine blk_alloc ?_ _)); exact BK158.out)) : gb158 ≠ gb159)); have n6_ := Aside0.mk ((by rw [hg]; exact Nat.ne_of_gt (blk_lt (g := gb158) (o := .cells #[.string a0_0, .string a0_1] 24 (0, 0)) (by (with_reducible repeat (first | refine blk_drewN ?_ _ | refine blk_drew ?_ | refine blk_alloc ?_ _)); exact BK158.out)) : gb159 ≠ gb158)); clear BK158; clear HB; have BK158 := n0_; have HB := n1_; have BK159 := n2_; have GW159 := n3_; have GE159 := n4_; have NB158_159 := n5_; have NB159_158 := n6_; clear n0_ n1_ n2_ n3_ n4_ n5_ n6_; clear hb hbox hg; have hnb14 := NB158_159.out; have hnc14 := NB159_158.out; have hcz15_0 : w13.cell? ⟨gb158, 0, none⟩ = some (.string a0_0) := (blk_cell BK158.out 0).trans rfl; have hcz15_1 : w13.cell? ⟨gb158, 1, none⟩ = some (.string a0_1) := (blk_cell BK158.out 1).trans rfl; have hfz15_0 := blk_frozen BK158.out 0; have hfz15_1 := blk_frozen BK158.out 1; have hcz16_0 : w13.cell? ⟨gb159, 0, none⟩ = some (.string a1_0) := (blk_cell BK159.out 0).trans rfl; have hcz16_1 : w13.cell? ⟨gb159, 1, none⟩ = some (.string a1_1) := (blk_cell BK159.out 1).trans rfl; have hfz16_0 := blk_frozen BK159.out 0; have hfz16_1 := blk_frozen BK159.out 1) | ((with_reducible refine gate_callee (f := 72) rfl ?_); refine goesL_ (some 15) rfl rfl Tryz.func72 (by kernel_rfl) rfl #[.string a0_1, .string a1_1] rfl (by (try simp only [List.map_toArray, List.map_cons, List.map_nil]); first | done | rfl | (simp only [List.length_drop, List.length_take]; rfl)) ?_; (with_reducible refine (version_Cmp.calls a0_1 a1_1 t160 t161 _ A9.out).mono ?_); rintro e w17 ⟨rfl, hb⟩; refine ⟨_, rfl, ?_⟩; have n0_ := Aside0.mk (blk_below (g := gb158) (o := .cells #[.string a0_0, .string a0_1] 24 (0, 0)) (by (with_reducible repeat (first | refine blk_drewN ?_ _ | refine blk_drew ?_ | refine blk_alloc ?_ _)); exact BK158.out) hb); have n1_ := Aside0.mk (blk_below (g := gb159) (o := .cells #[.string a1_0, .string a1_1] 24 (0, 0)) (by (with_reducible repeat (first | refine blk_drewN ?_ _ | refine blk_drew ?_ | refine blk_alloc ?_ _)); exact BK159.out) hb); have n2_ := Aside0.mk (below_step (by repeat (first | (with_reducible first | exact HB.out | apply below_alloc | apply pw_below_drewN | apply below_drew1 | refine below_set ?_ GE158.out | refine below_set ?_ GE159.out) | exact HB.out)) hb); clear BK158; clear BK159; clear HB; have BK158 := n0_; have BK159 := n1_; have HB := n2_; clear n0_ n1_ n2_; (try clear hb); (try clear hb2); (try clear hk); (try clear hi); have hcz18_0 : w17.cell? ⟨gb158, 0, none⟩ = some (.string a0_0) := (blk_cell BK158.out 0).trans rfl; have hcz18_1 : w17.cell? ⟨gb158, 1, none⟩ = some (.string a0_1) := (blk_cell BK158.out 1).trans rfl; have hfz18_0 := blk_frozen BK158.out 0; have hfz18_1 := blk_frozen BK158.out 1; have hcz19_0 : w17.cell? ⟨gb159, 0, none⟩ = some (.string a1_0) := (blk_cell BK159.out 0).trans rfl; have hcz19_1 : w17.cell? ⟨gb159, 1, none⟩ = some (.string a1_1) := (blk_cell BK159.out 1).trans rfl; have hfz19_0 := blk_frozen BK159.out 0; have hfz19_1 := blk_frozen BK159.out 1) | ((with_reducible refine gate_callee (f := 74) rfl ?_); refine goesL_ (some 22) rfl rfl Tryz.func74 (by kernel_rfl) rfl #[.string a0_0, .string a1_0] rfl (by (try simp only [List.map_toArray, List.map_cons, List.map_nil]); first | done | rfl | (simp only [List.length_drop, List.length_take]; rfl)) ?_; (with_reducible refine (octet_Cmp.calls a0_0 a1_0 t162 _ A10.out).mono ?_); rintro e w' ⟨rfl, ⟨nd, rfl⟩⟩; refine ⟨_, rfl, ?_⟩) | ((with_reducible refine gate_dst (N := 24) rfl ?_); refine Kd.R_lit (Kd.int .i64) _ 3 ?hg (N := 24) ?hd (xs := ([t162, t160] : List Int)) (inner := [.int .i64 t162, .int .i64 t160]) (ok := fun _ => True) (okp := fun _ => True) ?hr ?hp (fun _ hk => hk) trivial (Below.refl _ _) (Nat.le_refl _) (by simp) ?_; (case hd => rfl); (case hg => rfl); (case hr => first | (go_simp; done) | (go_simp; rfl)); (case hp => exact (Reps.one (show Kd.M (Kd.int .i64) _ _ _ t162 [.int .i64 t162] from rfl) (Reps.one (show Kd.M (Kd.int .i64) _ _ _ t160 [.int .i64 t160] from rfl) (Reps.none _ _)))); intro v164 w20 ho21 hb hg_ hnew_; clear hg_ hnew_; (first | rw [← Ny163.out] at ho21 | (simp only [Int.reduceToNat] at ho21; rw [← Ny163.out] at ho21)); have n0_ := Aside0.mk (Kd.R_lower ho21 (below_size (by repeat (first | (with_reducible first | exact HB.out | apply below_alloc | apply pw_below_drewN | apply below_drew1 | refine below_set ?_ GE158.out | refine below_set ?_ GE159.out) | exact HB.out)))); have n1_ := Aside0.mk (blk_below (g := gb158) (o := .cells #[.string a0_0, .string a0_1] 24 (0, 0)) (by (with_reducible repeat (first | refine blk_drewN ?_ _ | refine blk_drew ?_ | refine blk_alloc ?_ _)); exact BK158.out) hb); have n2_ := Aside0.mk (blk_below (g := gb159) (o := .cells #[.string a1_0, .string a1_1] 24 (0, 0)) (by (with_reducible repeat (first | refine blk_drewN ?_ _ | refine blk_drew ?_ | refine blk_alloc ?_ _)); exact BK159.out) hb); have n3_ := Aside0.mk (below_step (by repeat (first | (with_reducible first | exact HB.out | apply below_alloc | apply pw_below_drewN | apply below_drew1 | refine below_set ?_ GE158.out | refine below_set ?_ GE159.out) | exact HB.out)) hb); clear BK158; clear BK159; clear HB; have HO165 := n0_; have BK158 := n1_; have BK159 := n2_; have HB := n3_; clear n0_ n1_ n2_ n3_; clear hb ho21; obtain ⟨Ao22, co22, eo22⟩ := Kd.R_slice HO165.out; subst eo22) | ((with_reducible refine gate_callee (f := 73) rfl ?_); refine goesL_ (some 25) rfl rfl Tryz.func73 (by kernel_rfl) rfl #[.slice Ao22 y163.length co22] rfl (by (try simp only [List.map_toArray, List.map_cons, List.map_nil]); first | done | rfl | (simp only [List.length_drop, List.length_take]; rfl)) ?_; (with_reducible refine (cmp_Or_int.calls k _ _ y163 t166 _ ?side1 ?side2 A11.out).mono ?_); (case side1 => repeat (first | exact (Kd.R_reads' HO165.out).2.2 | (with_reducible refine Kd.C_alloc ?_ _) | (with_reducible refine Kd.C_drewN ?_ _) | (with_reducible refine Kd.C_drew ?_))); (case side2 => exact (Kd.R_reads' HO165.out).2.1); rintro e w' ⟨rfl, ⟨nd, rfl⟩⟩; refine ⟨_, rfl, ?_⟩))
  go_ret
  exact ⟨by first | rfl | (simp [errW_none, errW_some] <;> rfl) | (simp [*, errW_none, errW_some] <;> rfl), by repeat (first | (with_reducible first | exact HB.out | apply below_alloc | apply pw_below_drewN | apply below_drew1 | refine below_set ?_ GE158.out | refine below_set ?_ GE159.out) | exact HB.out)⟩
def node_Cmp.f (k : Nat) (a0_0 : ByteArray) (a0_1 : ByteArray) (a1_0 : ByteArray) (a1_1 : ByteArray) : Option (Int × Int) := (node_May.f k a0_0 a0_1).bind fun t169 => (if t169 = true then ((node_May.f k a1_0 a1_1).bind fun t170 => (if t170 = true then ((node_order.f k a0_0 a0_1 a1_0 a1_1).bind fun t171 => (some (t171, 0))) else (some (0, 1)))) else (some (0, 1)))
set_option maxHeartbeats 8000000 in
set_option maxRecDepth 100000 in
theorem node_Cmp.calls (k : Nat) (a0_0 : ByteArray) (a0_1 : ByteArray) (a1_0 : ByteArray) (a1_1 : ByteArray) (r1 : Int) (r2 : Int) (w : World) (h : node_Cmp.f k a0_0 a0_1 a1_0 a1_1 = some (r1, r2)) :
 Calls Tryz.prog 40 #[.agg #[.string a0_0, .string a0_1], .agg #[.string a1_0, .string a1_1]] w fun e w' => e = .returned (.tuple #[.int .i64 r1, .int .i64 r2]) ∧ Below w.heap.size w w' := by
 have hu24 := Tryz.underlying24
 have HB := Aside0.mk (Below.refl w.heap.size w)
 have H : ((node_May.f k a0_0 a0_1).bind fun t169 => (if t169 = true then ((node_May.f k a1_0 a1_1).bind fun t170 => (if t170 = true then ((node_order.f k a0_0 a0_1 a1_0 a1_1).bind fun t171 => (some (t171, 0))) else (some (0, 1)))) else (some (0, 1)))) = some (r1, r2) := h
 clear h
 replace H := Option.bind_eq_some_iff.mp H
 obtain ⟨t169, A30, H⟩ := H
 replace H : (if t169 = true then ((node_May.f k a1_0 a1_1).bind fun t170 => (if t170 = true then ((node_order.f k a0_0 a0_1 a1_0 a1_1).bind fun t171 => (some (t171, 0))) else (some (0, 1)))) else (some (0, 1))) = some (r1, r2) := H
 have A3 := Aside0.mk A30
 clear A30
 by_cases c4 : t169 = true
 ·subst c4
  have H1 : ((node_May.f k a1_0 a1_1).bind fun t170 => (if t170 = true then ((node_order.f k a0_0 a0_1 a1_0 a1_1).bind fun t171 => (some (t171, 0))) else (some (0, 1)))) = some (r1, r2) := by rw [if_pos rfl] at H; exact H
  clear H
  have H := H1
  clear H1
  replace H := Option.bind_eq_some_iff.mp H
  obtain ⟨t170, A50, H⟩ := H
  replace H : (if t170 = true then ((node_order.f k a0_0 a0_1 a1_0 a1_1).bind fun t171 => (some (t171, 0))) else (some (0, 1))) = some (r1, r2) := H
  have A5 := Aside0.mk A50
  clear A50
  by_cases c6 : t170 = true
  ·subst c6
   have H1 : ((node_order.f k a0_0 a0_1 a1_0 a1_1).bind fun t171 => (some (t171, 0))) = some (r1, r2) := by rw [if_pos rfl] at H; exact H
   clear H
   have H := H1
   clear H1
   replace H := Option.bind_eq_some_iff.mp H
   obtain ⟨t171, A70, H⟩ := H
   replace H : (some (t171, 0)) = some (r1, r2) := H
   have A7 := Aside0.mk A70
   clear A70
   simp only [Option.some.injEq, Prod.mk.injEq] at H
   obtain ⟨rfl, rfl⟩ := H
   go_enter Tryz.func40, Tryz.ntmps40
   go_wp2_with (first | ((with_reducible refine gate_dst (N := 2) rfl ?_); refine box_event ?hg (N := 2) ?hd (cs := #[.string a0_0, .string a0_1]) (t := 24) ?hr ?_; (case hd => rfl); (case hg => rfl); (case hr => first | (go_simp; done) | (go_simp; rfl)); intro gb167 hg w8 hbox hb; have n0_ := Aside0.mk (below_step (by repeat (first | (with_reducible first | exact HB.out | apply below_alloc | apply pw_below_drewN | apply below_drew1) | exact HB.out)) hb); have n1_ := Aside0.mk (hbox); have n2_ := Aside0.mk ((by rw [hg]; exact (below_size (by repeat (first | (with_reducible first | exact HB.out | apply below_alloc | apply pw_below_drewN | apply below_drew1) | exact HB.out))) : w.heap.size ≤ gb167)); have n3_ := Aside0.mk ((by rw [hg]; exact (below_size (by repeat (first | (with_reducible first | exact HB.out | apply below_alloc | apply pw_below_drewN | apply below_drew1) | exact HB.out))) : w.heap.size ≤ gb167)); clear HB; have HB := n0_; have BK167 := n1_; have GW167 := n2_; have GE167 := n3_; clear n0_ n1_ n2_ n3_; clear hb hbox hg) | ((with_reducible refine gate_dst (N := 3) rfl ?_); refine box_event ?hg (N := 3) ?hd (cs := #[.string a1_0, .string a1_1]) (t := 24) ?hr ?_; (case hd => rfl); (case hg => rfl); (case hr => first | (go_simp; done) | (go_simp; rfl)); intro gb168 hg w9 hbox hb; have n0_ := Aside0.mk (blk_below (g := gb167) (o := .cells #[.string a0_0, .string a0_1] 24 (0, 0)) (by (with_reducible repeat (first | refine blk_drewN ?_ _ | refine blk_drew ?_ | refine blk_alloc ?_ _)); exact BK167.out) hb); have n1_ := Aside0.mk (below_step (by repeat (first | (with_reducible first | exact HB.out | apply below_alloc | apply pw_below_drewN | apply below_drew1 | refine below_set ?_ GE167.out) | exact HB.out)) hb); have n2_ := Aside0.mk (hbox); have n3_ := Aside0.mk ((by rw [hg]; exact (below_size (by repeat (first | (with_reducible first | exact HB.out | apply below_alloc | apply pw_below_drewN | apply below_drew1 | refine below_set ?_ GE167.out) | exact HB.out))) : w.heap.size ≤ gb168)); have n4_ := Aside0.mk ((by rw [hg]; exact (below_size (by repeat (first | (with_reducible first | exact HB.out | apply below_alloc | apply pw_below_drewN | apply below_drew1 | refine below_set ?_ GE167.out) | exact HB.out))) : w.heap.size ≤ gb168)); have n5_ := Aside0.mk ((by rw [hg]; exact Nat.ne_of_lt (blk_lt (g := gb167) (o := .cells #[.string a0_0, .string a0_1] 24 (0, 0)) (by (with_reducible repeat (first | refine blk_drewN ?_ _ | refine blk_drew ?_ | refine blk_alloc ?_ _)); exact BK167.out)) : gb167 ≠ gb168)); have n6_ := Aside0.mk ((by rw [hg]; exact Nat.ne_of_gt (blk_lt (g := gb167) (o := .cells #[.string a0_0, .string a0_1] 24 (0, 0)) (by (with_reducible repeat (first | refine blk_drewN ?_ _ | refine blk_drew ?_ | refine blk_alloc ?_ _)); exact BK167.out)) : gb168 ≠ gb167)); clear BK167; clear HB; have BK167 := n0_; have HB := n1_; have BK168 := n2_; have GW168 := n3_; have GE168 := n4_; have NB167_168 := n5_; have NB168_167 := n6_; clear n0_ n1_ n2_ n3_ n4_ n5_ n6_; clear hb hbox hg; have hnb10 := NB167_168.out; have hnc10 := NB168_167.out; have hcz11_0 : w9.cell? ⟨gb167, 0, none⟩ = some (.string a0_0) := (blk_cell BK167.out 0).trans rfl; have hcz11_1 : w9.cell? ⟨gb167, 1, none⟩ = some (.string a0_1) := (blk_cell BK167.out 1).trans rfl; have hfz11_0 := blk_frozen BK167.out 0; have hfz11_1 := blk_frozen BK167.out 1) | ((with_reducible refine gate_callee (f := 25) rfl ?_); refine goesL_ (some 7) rfl rfl Tryz.func25 (by kernel_rfl) rfl #[.agg #[.string a0_0, .string a0_1]] rfl (by (try simp only [List.map_toArray, List.map_cons, List.map_nil]); first | done | rfl | (simp only [List.length_drop, List.length_take]; rfl)) ?_; (with_reducible refine (node_May.calls k a0_0 a0_1 true _ A3.out).mono ?_); rintro e w12 ⟨rfl, hb⟩; refine ⟨_, rfl, ?_⟩; have n0_ := Aside0.mk (blk_below (g := gb167) (o := .cells #[.string a0_0, .string a0_1] 24 (0, 0)) (by (with_reducible repeat (first | refine blk_drewN ?_ _ | refine blk_drew ?_ | refine blk_alloc ?_ _)); exact BK167.out) hb); have n1_ := Aside0.mk (blk_below (g := gb168) (o := .cells #[.string a1_0, .string a1_1] 24 (0, 0)) (by (with_reducible repeat (first | refine blk_drewN ?_ _ | refine blk_drew ?_ | refine blk_alloc ?_ _)); exact BK168.out) hb); have n2_ := Aside0.mk (below_step (by repeat (first | (with_reducible first | exact HB.out | apply below_alloc | apply pw_below_drewN | apply below_drew1 | refine below_set ?_ GE167.out | refine below_set ?_ GE168.out) | exact HB.out)) hb); clear BK167; clear BK168; clear HB; have BK167 := n0_; have BK168 := n1_; have HB := n2_; clear n0_ n1_ n2_; (try clear hb); (try clear hb2); (try clear hk); (try clear hi); have hcz13_0 : w12.cell? ⟨gb168, 0, none⟩ = some (.string a1_0) := (blk_cell BK168.out 0).trans rfl; have hcz13_1 : w12.cell? ⟨gb168, 1, none⟩ = some (.string a1_1) := (blk_cell BK168.out 1).trans rfl; have hfz13_0 := blk_frozen BK168.out 0; have hfz13_1 := blk_frozen BK168.out 1) | (go_at_call 25; (with_reducible refine (node_May.calls k a1_0 a1_1 true _ A5.out).mono ?_); rintro e w14 ⟨rfl, hb⟩; have n0_ := Aside0.mk (blk_below (g := gb167) (o := .cells #[.string a0_0, .string a0_1] 24 (0, 0)) (by (with_reducible repeat (first | refine blk_drewN ?_ _ | refine blk_drew ?_ | refine blk_alloc ?_ _)); exact BK167.out) hb); have n1_ := Aside0.mk (blk_below (g := gb168) (o := .cells #[.string a1_0, .string a1_1] 24 (0, 0)) (by (with_reducible repeat (first | refine blk_drewN ?_ _ | refine blk_drew ?_ | refine blk_alloc ?_ _)); exact BK168.out) hb); have n2_ := Aside0.mk (below_step (by repeat (first | (with_reducible first | exact HB.out | apply below_alloc | apply pw_below_drewN | apply below_drew1 | refine below_set ?_ GE167.out | refine below_set ?_ GE168.out) | exact HB.out)) hb); clear BK167; clear BK168; clear HB; have BK167 := n0_; have BK168 := n1_; have HB := n2_; clear n0_ n1_ n2_; (try clear hb); (try clear hb2); (try clear hk); (try clear hi); have hcz15_0 : w14.cell? ⟨gb167, 0, none⟩ = some (.string a0_0) := (blk_cell BK167.out 0).trans rfl; have hcz15_1 : w14.cell? ⟨gb167, 1, none⟩ = some (.string a0_1) := (blk_cell BK167.out 1).trans rfl; have hfz15_0 := blk_frozen BK167.out 0; have hfz15_1 := blk_frozen BK167.out 1; have hcz16_0 : w14.cell? ⟨gb168, 0, none⟩ = some (.string a1_0) := (blk_cell BK168.out 0).trans rfl; have hcz16_1 : w14.cell? ⟨gb168, 1, none⟩ = some (.string a1_1) := (blk_cell BK168.out 1).trans rfl; have hfz16_0 := blk_frozen BK168.out 0; have hfz16_1 := blk_frozen BK168.out 1) | ((with_reducible refine gate_callee (f := 60) rfl ?_); refine goesL_ (some 16) rfl rfl Tryz.func60 (by kernel_rfl) rfl #[.agg #[.string a0_0, .string a0_1], .agg #[.string a1_0, .string a1_1]] rfl (by (try simp only [List.map_toArray, List.map_cons, List.map_nil]); first | done | rfl | (simp only [List.length_drop, List.length_take]; rfl)) ?_; (with_reducible refine (node_order.calls k a0_0 a0_1 a1_0 a1_1 t171 _ A7.out).mono ?_); rintro e w17 ⟨rfl, hb⟩; refine ⟨_, rfl, ?_⟩; have n0_ := Aside0.mk (blk_below (g := gb167) (o := .cells #[.string a0_0, .string a0_1] 24 (0, 0)) (by (with_reducible repeat (first | refine blk_drewN ?_ _ | refine blk_drew ?_ | refine blk_alloc ?_ _)); exact BK167.out) hb); have n1_ := Aside0.mk (blk_below (g := gb168) (o := .cells #[.string a1_0, .string a1_1] 24 (0, 0)) (by (with_reducible repeat (first | refine blk_drewN ?_ _ | refine blk_drew ?_ | refine blk_alloc ?_ _)); exact BK168.out) hb); have n2_ := Aside0.mk (below_step (by repeat (first | (with_reducible first | exact HB.out | apply below_alloc | apply pw_below_drewN | apply below_drew1 | refine below_set ?_ GE167.out | refine below_set ?_ GE168.out) | exact HB.out)) hb); clear BK167; clear BK168; clear HB; have BK167 := n0_; have BK168 := n1_; have HB := n2_; clear n0_ n1_ n2_; (try clear hb); (try clear hb2); (try clear hk); (try clear hi)))
   go_ret2
   exact ⟨by first | rfl | (simp [errW_none, errW_some] <;> rfl) | (simp [*, errW_none, errW_some] <;> rfl), by repeat (first | (with_reducible first | exact HB.out | apply below_alloc | apply pw_below_drewN | apply below_drew1 | refine below_set ?_ GE167.out | refine below_set ?_ GE168.out) | exact HB.out)⟩
  ·replace c6 := Bool.eq_false_iff.mpr c6
   subst c6
   have H1 : (some (0, 1)) = some (r1, r2) := by rw [if_neg (show ¬ (false = true) by decide)] at H; exact H
   clear H
   have H := H1
   clear H1
   simp only [Option.some.injEq, Prod.mk.injEq] at H
   obtain ⟨rfl, rfl⟩ := H
   go_enter Tryz.func40, Tryz.ntmps40
   go_wp2_with (first | ((with_reducible refine gate_dst (N := 2) rfl ?_); refine box_event ?hg (N := 2) ?hd (cs := #[.string a0_0, .string a0_1]) (t := 24) ?hr ?_; (case hd => rfl); (case hg => rfl); (case hr => first | (go_simp; done) | (go_simp; rfl)); intro gb167 hg w18 hbox hb; have n0_ := Aside0.mk (below_step (by repeat (first | (with_reducible first | exact HB.out | apply below_alloc | apply pw_below_drewN | apply below_drew1) | exact HB.out)) hb); have n1_ := Aside0.mk (hbox); have n2_ := Aside0.mk ((by rw [hg]; exact (below_size (by repeat (first | (with_reducible first | exact HB.out | apply below_alloc | apply pw_below_drewN | apply below_drew1) | exact HB.out))) : w.heap.size ≤ gb167)); have n3_ := Aside0.mk ((by rw [hg]; exact (below_size (by repeat (first | (with_reducible first | exact HB.out | apply below_alloc | apply pw_below_drewN | apply below_drew1) | exact HB.out))) : w.heap.size ≤ gb167)); clear HB; have HB := n0_; have BK167 := n1_; have GW167 := n2_; have GE167 := n3_; clear n0_ n1_ n2_ n3_; clear hb hbox hg) | ((with_reducible refine gate_dst (N := 3) rfl ?_); refine box_event ?hg (N := 3) ?hd (cs := #[.string a1_0, .string a1_1]) (t := 24) ?hr ?_; (case hd => rfl); (case hg => rfl); (case hr => first | (go_simp; done) | (go_simp; rfl)); intro gb168 hg w19 hbox hb; have n0_ := Aside0.mk (blk_below (g := gb167) (o := .cells #[.string a0_0, .string a0_1] 24 (0, 0)) (by (with_reducible repeat (first | refine blk_drewN ?_ _ | refine blk_drew ?_ | refine blk_alloc ?_ _)); exact BK167.out) hb); have n1_ := Aside0.mk (below_step (by repeat (first | (with_reducible first | exact HB.out | apply below_alloc | apply pw_below_drewN | apply below_drew1 | refine below_set ?_ GE167.out) | exact HB.out)) hb); have n2_ := Aside0.mk (hbox); have n3_ := Aside0.mk ((by rw [hg]; exact (below_size (by repeat (first | (with_reducible first | exact HB.out | apply below_alloc | apply pw_below_drewN | apply below_drew1 | refine below_set ?_ GE167.out) | exact HB.out))) : w.heap.size ≤ gb168)); have n4_ := Aside0.mk ((by rw [hg]; exact (below_size (by repeat (first | (with_reducible first | exact HB.out | apply below_alloc | apply pw_below_drewN | apply below_drew1 | refine below_set ?_ GE167.out) | exact HB.out))) : w.heap.size ≤ gb168)); have n5_ := Aside0.mk ((by rw [hg]; exact Nat.ne_of_lt (blk_lt (g := gb167) (o := .cells #[.string a0_0, .string a0_1] 24 (0, 0)) (by (with_reducible repeat (first | refine blk_drewN ?_ _ | refine blk_drew ?_ | refine blk_alloc ?_ _)); exact BK167.out)) : gb167 ≠ gb168)); have n6_ := Aside0.mk ((by rw [hg]; exact Nat.ne_of_gt (blk_lt (g := gb167) (o := .cells #[.string a0_0, .string a0_1] 24 (0, 0)) (by (with_reducible repeat (first | refine blk_drewN ?_ _ | refine blk_drew ?_ | refine blk_alloc ?_ _)); exact BK167.out)) : gb168 ≠ gb167)); clear BK167; clear HB; have BK167 := n0_; have HB := n1_; have BK168 := n2_; have GW168 := n3_; have GE168 := n4_; have NB167_168 := n5_; have NB168_167 := n6_; clear n0_ n1_ n2_ n3_ n4_ n5_ n6_; clear hb hbox hg; have hnb20 := NB167_168.out; have hnc20 := NB168_167.out; have hcz21_0 : w19.cell? ⟨gb167, 0, none⟩ = some (.string a0_0) := (blk_cell BK167.out 0).trans rfl; have hcz21_1 : w19.cell? ⟨gb167, 1, none⟩ = some (.string a0_1) := (blk_cell BK167.out 1).trans rfl; have hfz21_0 := blk_frozen BK167.out 0; have hfz21_1 := blk_frozen BK167.out 1) | ((with_reducible refine gate_callee (f := 25) rfl ?_); refine goesL_ (some 7) rfl rfl Tryz.func25 (by kernel_rfl) rfl #[.agg #[.string a0_0, .string a0_1]] rfl (by (try simp only [List.map_toArray, List.map_cons, List.map_nil]); first | done | rfl | (simp only [List.length_drop, List.length_take]; rfl)) ?_; (with_reducible refine (node_May.calls k a0_0 a0_1 true _ A3.out).mono ?_); rintro e w22 ⟨rfl, hb⟩; refine ⟨_, rfl, ?_⟩; have n0_ := Aside0.mk (blk_below (g := gb167) (o := .cells #[.string a0_0, .string a0_1] 24 (0, 0)) (by (with_reducible repeat (first | refine blk_drewN ?_ _ | refine blk_drew ?_ | refine blk_alloc ?_ _)); exact BK167.out) hb); have n1_ := Aside0.mk (blk_below (g := gb168) (o := .cells #[.string a1_0, .string a1_1] 24 (0, 0)) (by (with_reducible repeat (first | refine blk_drewN ?_ _ | refine blk_drew ?_ | refine blk_alloc ?_ _)); exact BK168.out) hb); have n2_ := Aside0.mk (below_step (by repeat (first | (with_reducible first | exact HB.out | apply below_alloc | apply pw_below_drewN | apply below_drew1 | refine below_set ?_ GE167.out | refine below_set ?_ GE168.out) | exact HB.out)) hb); clear BK167; clear BK168; clear HB; have BK167 := n0_; have BK168 := n1_; have HB := n2_; clear n0_ n1_ n2_; (try clear hb); (try clear hb2); (try clear hk); (try clear hi); have hcz23_0 : w22.cell? ⟨gb168, 0, none⟩ = some (.string a1_0) := (blk_cell BK168.out 0).trans rfl; have hcz23_1 : w22.cell? ⟨gb168, 1, none⟩ = some (.string a1_1) := (blk_cell BK168.out 1).trans rfl; have hfz23_0 := blk_frozen BK168.out 0; have hfz23_1 := blk_frozen BK168.out 1) | (go_at_call 25; (with_reducible refine (node_May.calls k a1_0 a1_1 false _ A5.out).mono ?_); rintro e w24 ⟨rfl, hb⟩; have n0_ := Aside0.mk (blk_below (g := gb167) (o := .cells #[.string a0_0, .string a0_1] 24 (0, 0)) (by (with_reducible repeat (first | refine blk_drewN ?_ _ | refine blk_drew ?_ | refine blk_alloc ?_ _)); exact BK167.out) hb); have n1_ := Aside0.mk (blk_below (g := gb168) (o := .cells #[.string a1_0, .string a1_1] 24 (0, 0)) (by (with_reducible repeat (first | refine blk_drewN ?_ _ | refine blk_drew ?_ | refine blk_alloc ?_ _)); exact BK168.out) hb); have n2_ := Aside0.mk (below_step (by repeat (first | (with_reducible first | exact HB.out | apply below_alloc | apply pw_below_drewN | apply below_drew1 | refine below_set ?_ GE167.out | refine below_set ?_ GE168.out) | exact HB.out)) hb); clear BK167; clear BK168; clear HB; have BK167 := n0_; have BK168 := n1_; have HB := n2_; clear n0_ n1_ n2_; (try clear hb); (try clear hb2); (try clear hk); (try clear hi)))
   go_ret2
   exact ⟨by first | rfl | (simp [errW_none, errW_some] <;> rfl) | (simp [*, errW_none, errW_some] <;> rfl), by repeat (first | (with_reducible first | exact HB.out | apply below_alloc | apply pw_below_drewN | apply below_drew1 | refine below_set ?_ GE167.out | refine below_set ?_ GE168.out) | exact HB.out)⟩
 ·replace c4 := Bool.eq_false_iff.mpr c4
  subst c4
  have H1 : (some (0, 1)) = some (r1, r2) := by rw [if_neg (show ¬ (false = true) by decide)] at H; exact H
  clear H
  have H := H1
  clear H1
  simp only [Option.some.injEq, Prod.mk.injEq] at H
  obtain ⟨rfl, rfl⟩ := H
  go_enter Tryz.func40, Tryz.ntmps40
  go_wp2_with (first | ((with_reducible refine gate_dst (N := 2) rfl ?_); refine box_event ?hg (N := 2) ?hd (cs := #[.string a0_0, .string a0_1]) (t := 24) ?hr ?_; (case hd => rfl); (case hg => rfl); (case hr => first | (go_simp; done) | (go_simp; rfl)); intro gb167 hg w25 hbox hb; have n0_ := Aside0.mk (below_step (by repeat (first | (with_reducible first | exact HB.out | apply below_alloc | apply pw_below_drewN | apply below_drew1) | exact HB.out)) hb); have n1_ := Aside0.mk (hbox); have n2_ := Aside0.mk ((by rw [hg]; exact (below_size (by repeat (first | (with_reducible first | exact HB.out | apply below_alloc | apply pw_below_drewN | apply below_drew1) | exact HB.out))) : w.heap.size ≤ gb167)); have n3_ := Aside0.mk ((by rw [hg]; exact (below_size (by repeat (first | (with_reducible first | exact HB.out | apply below_alloc | apply pw_below_drewN | apply below_drew1) | exact HB.out))) : w.heap.size ≤ gb167)); clear HB; have HB := n0_; have BK167 := n1_; have GW167 := n2_; have GE167 := n3_; clear n0_ n1_ n2_ n3_; clear hb hbox hg) | ((with_reducible refine gate_dst (N := 3) rfl ?_); refine box_event ?hg (N := 3) ?hd (cs := #[.string a1_0, .string a1_1]) (t := 24) ?hr ?_; (case hd => rfl); (case hg => rfl); (case hr => first | (go_simp; done) | (go_simp; rfl)); intro gb168 hg w26 hbox hb; have n0_ := Aside0.mk (blk_below (g := gb167) (o := .cells #[.string a0_0, .string a0_1] 24 (0, 0)) (by (with_reducible repeat (first | refine blk_drewN ?_ _ | refine blk_drew ?_ | refine blk_alloc ?_ _)); exact BK167.out) hb); have n1_ := Aside0.mk (below_step (by repeat (first | (with_reducible first | exact HB.out | apply below_alloc | apply pw_below_drewN | apply below_drew1 | refine below_set ?_ GE167.out) | exact HB.out)) hb); have n2_ := Aside0.mk (hbox); have n3_ := Aside0.mk ((by rw [hg]; exact (below_size (by repeat (first | (with_reducible first | exact HB.out | apply below_alloc | apply pw_below_drewN | apply below_drew1 | refine below_set ?_ GE167.out) | exact HB.out))) : w.heap.size ≤ gb168)); have n4_ := Aside0.mk ((by rw [hg]; exact (below_size (by repeat (first | (with_reducible first | exact HB.out | apply below_alloc | apply pw_below_drewN | apply below_drew1 | refine below_set ?_ GE167.out) | exact HB.out))) : w.heap.size ≤ gb168)); have n5_ := Aside0.mk ((by rw [hg]; exact Nat.ne_of_lt (blk_lt (g := gb167) (o := .cells #[.string a0_0, .string a0_1] 24 (0, 0)) (by (with_reducible repeat (first | refine blk_drewN ?_ _ | refine blk_drew ?_ | refine blk_alloc ?_ _)); exact BK167.out)) : gb167 ≠ gb168)); have n6_ := Aside0.mk ((by rw [hg]; exact Nat.ne_of_gt (blk_lt (g := gb167) (o := .cells #[.string a0_0, .string a0_1] 24 (0, 0)) (by (with_reducible repeat (first | refine blk_drewN ?_ _ | refine blk_drew ?_ | refine blk_alloc ?_ _)); exact BK167.out)) : gb168 ≠ gb167)); clear BK167; clear HB; have BK167 := n0_; have HB := n1_; have BK168 := n2_; have GW168 := n3_; have GE168 := n4_; have NB167_168 := n5_; have NB168_167 := n6_; clear n0_ n1_ n2_ n3_ n4_ n5_ n6_; clear hb hbox hg; have hnb27 := NB167_168.out; have hnc27 := NB168_167.out; have hcz28_0 : w26.cell? ⟨gb167, 0, none⟩ = some (.string a0_0) := (blk_cell BK167.out 0).trans rfl; have hcz28_1 : w26.cell? ⟨gb167, 1, none⟩ = some (.string a0_1) := (blk_cell BK167.out 1).trans rfl; have hfz28_0 := blk_frozen BK167.out 0; have hfz28_1 := blk_frozen BK167.out 1) | ((with_reducible refine gate_callee (f := 25) rfl ?_); refine goesL_ (some 7) rfl rfl Tryz.func25 (by kernel_rfl) rfl #[.agg #[.string a0_0, .string a0_1]] rfl (by (try simp only [List.map_toArray, List.map_cons, List.map_nil]); first | done | rfl | (simp only [List.length_drop, List.length_take]; rfl)) ?_; (with_reducible refine (node_May.calls k a0_0 a0_1 false _ A3.out).mono ?_); rintro e w29 ⟨rfl, hb⟩; refine ⟨_, rfl, ?_⟩; have n0_ := Aside0.mk (blk_below (g := gb167) (o := .cells #[.string a0_0, .string a0_1] 24 (0, 0)) (by (with_reducible repeat (first | refine blk_drewN ?_ _ | refine blk_drew ?_ | refine blk_alloc ?_ _)); exact BK167.out) hb); have n1_ := Aside0.mk (blk_below (g := gb168) (o := .cells #[.string a1_0, .string a1_1] 24 (0, 0)) (by (with_reducible repeat (first | refine blk_drewN ?_ _ | refine blk_drew ?_ | refine blk_alloc ?_ _)); exact BK168.out) hb); have n2_ := Aside0.mk (below_step (by repeat (first | (with_reducible first | exact HB.out | apply below_alloc | apply pw_below_drewN | apply below_drew1 | refine below_set ?_ GE167.out | refine below_set ?_ GE168.out) | exact HB.out)) hb); clear BK167; clear BK168; clear HB; have BK167 := n0_; have BK168 := n1_; have HB := n2_; clear n0_ n1_ n2_; (try clear hb); (try clear hb2); (try clear hk); (try clear hi)))
  go_ret2
  exact ⟨by first | rfl | (simp [errW_none, errW_some] <;> rfl) | (simp [*, errW_none, errW_some] <;> rfl), by repeat (first | (with_reducible first | exact HB.out | apply below_alloc | apply pw_below_drewN | apply below_drew1 | refine below_set ?_ GE167.out | refine below_set ?_ GE168.out) | exact HB.out)⟩
def why_order.f (k : Nat) (a0_0 : ByteArray) (a0_1 : ByteArray) (a1_0 : ByteArray) (a1_1 : ByteArray) : Option (Int) := (node_Cmp.f k a0_0 a0_1 a1_0 a1_1).bind fun bt174 => (some bt174.1)
set_option maxHeartbeats 8000000 in
set_option maxRecDepth 100000 in
theorem why_order.calls (k : Nat) (a0_0 : ByteArray) (a0_1 : ByteArray) (a1_0 : ByteArray) (a1_1 : ByteArray) (r : Int) (w : World) (h : why_order.f k a0_0 a0_1 a1_0 a1_1 = some r) :
 Calls Tryz.prog 24 #[.agg #[.string a0_0, .string a0_1], .agg #[.string a1_0, .string a1_1]] w fun e w' => e = .returned (.int .i64 r) ∧ Below w.heap.size w w' := by
 have hu24 := Tryz.underlying24
 have HB := Aside0.mk (Below.refl w.heap.size w)
 have H : ((node_Cmp.f k a0_0 a0_1 a1_0 a1_1).bind fun bt174 => (some bt174.1)) = some r := h
 clear h
 replace H := Option.bind_eq_some_iff.mp H
 obtain ⟨⟨t174, t175⟩, A30, H⟩ := H
 replace H : (some t174) = some r := H
 have A3 := Aside0.mk A30
 clear A30
 obtain rfl := Option.some.inj H
 go_enter Tryz.func24, Tryz.ntmps24
 go_wp2_with (first | ((with_reducible refine gate_dst (N := 2) rfl ?_); refine box_event ?hg (N := 2) ?hd (cs := #[.string a0_0, .string a0_1]) (t := 24) ?hr ?_; (case hd => rfl); (case hg => rfl); (case hr => first | (go_simp; done) | (go_simp; rfl)); intro gb172 hg w4 hbox hb; have n0_ := Aside0.mk (below_step (by repeat (first | (with_reducible first | exact HB.out | apply below_alloc | apply pw_below_drewN | apply below_drew1) | exact HB.out)) hb); have n1_ := Aside0.mk (hbox); have n2_ := Aside0.mk ((by rw [hg]; exact (below_size (by repeat (first | (with_reducible first | exact HB.out | apply below_alloc | apply pw_below_drewN | apply below_drew1) | exact HB.out))) : w.heap.size ≤ gb172)); have n3_ := Aside0.mk ((by rw [hg]; exact (below_size (by repeat (first | (with_reducible first | exact HB.out | apply below_alloc | apply pw_below_drewN | apply below_drew1) | exact HB.out))) : w.heap.size ≤ gb172)); clear HB; have HB := n0_; have BK172 := n1_; have GW172 := n2_; have GE172 := n3_; clear n0_ n1_ n2_ n3_; clear hb hbox hg) | ((with_reducible refine gate_dst (N := 3) rfl ?_); refine box_event ?hg (N := 3) ?hd (cs := #[.string a1_0, .string a1_1]) (t := 24) ?hr ?_; (case hd => rfl); (case hg => rfl); (case hr => first | (go_simp; done) | (go_simp; rfl)); intro gb173 hg w5 hbox hb; have n0_ := Aside0.mk (blk_below (g := gb172) (o := .cells #[.string a0_0, .string a0_1] 24 (0, 0)) (by (with_reducible repeat (first | refine blk_drewN ?_ _ | refine blk_drew ?_ | refine blk_alloc ?_ _)); exact BK172.out) hb); have n1_ := Aside0.mk (below_step (by repeat (first | (with_reducible first | exact HB.out | apply below_alloc | apply pw_below_drewN | apply below_drew1 | refine below_set ?_ GE172.out) | exact HB.out)) hb); have n2_ := Aside0.mk (hbox); have n3_ := Aside0.mk ((by rw [hg]; exact (below_size (by repeat (first | (with_reducible first | exact HB.out | apply below_alloc | apply pw_below_drewN | apply below_drew1 | refine below_set ?_ GE172.out) | exact HB.out))) : w.heap.size ≤ gb173)); have n4_ := Aside0.mk ((by rw [hg]; exact (below_size (by repeat (first | (with_reducible first | exact HB.out | apply below_alloc | apply pw_below_drewN | apply below_drew1 | refine below_set ?_ GE172.out) | exact HB.out))) : w.heap.size ≤ gb173)); have n5_ := Aside0.mk ((by rw [hg]; exact Nat.ne_of_lt (blk_lt (g := gb172) (o := .cells #[.string a0_0, .string a0_1] 24 (0, 0)) (by (with_reducible repeat (first | refine blk_drewN ?_ _ | refine blk_drew ?_ | refine blk_alloc ?_ _)); exact BK172.out)) : gb172 ≠ gb173)); have n6_ := Aside0.mk ((by rw [hg]; exact Nat.ne_of_gt (blk_lt (g := gb172) (o := .cells #[.string a0_0, .string a0_1] 24 (0, 0)) (by (with_reducible repeat (first | refine blk_drewN ?_ _ | refine blk_drew ?_ | refine blk_alloc ?_ _)); exact BK172.out)) : gb173 ≠ gb172)); clear BK172; clear HB; have BK172 := n0_; have HB := n1_; have BK173 := n2_; have GW173 := n3_; have GE173 := n4_; have NB172_173 := n5_; have NB173_172 := n6_; clear n0_ n1_ n2_ n3_ n4_ n5_ n6_; clear hb hbox hg; have hnb6 := NB172_173.out; have hnc6 := NB173_172.out; have hcz7_0 : w5.cell? ⟨gb172, 0, none⟩ = some (.string a0_0) := (blk_cell BK172.out 0).trans rfl; have hcz7_1 : w5.cell? ⟨gb172, 1, none⟩ = some (.string a0_1) := (blk_cell BK172.out 1).trans rfl; have hfz7_0 := blk_frozen BK172.out 0; have hfz7_1 := blk_frozen BK172.out 1; have hcz8_0 : w5.cell? ⟨gb173, 0, none⟩ = some (.string a1_0) := (blk_cell BK173.out 0).trans rfl; have hcz8_1 : w5.cell? ⟨gb173, 1, none⟩ = some (.string a1_1) := (blk_cell BK173.out 1).trans rfl; have hfz8_0 := blk_frozen BK173.out 0; have hfz8_1 := blk_frozen BK173.out 1) | ((with_reducible refine gate_callee (f := 40) rfl ?_); refine goesL_ (some 10) rfl rfl Tryz.func40 (by kernel_rfl) rfl #[.agg #[.string a0_0, .string a0_1], .agg #[.string a1_0, .string a1_1]] rfl (by (try simp only [List.map_toArray, List.map_cons, List.map_nil]); first | done | rfl | (simp only [List.length_drop, List.length_take]; rfl)) ?_; (with_reducible refine (node_Cmp.calls k a0_0 a0_1 a1_0 a1_1 t174 t175 _ A3.out).mono ?_); rintro e w9 ⟨rfl, hb⟩; refine ⟨_, rfl, ?_⟩; have n0_ := Aside0.mk (blk_below (g := gb172) (o := .cells #[.string a0_0, .string a0_1] 24 (0, 0)) (by (with_reducible repeat (first | refine blk_drewN ?_ _ | refine blk_drew ?_ | refine blk_alloc ?_ _)); exact BK172.out) hb); have n1_ := Aside0.mk (blk_below (g := gb173) (o := .cells #[.string a1_0, .string a1_1] 24 (0, 0)) (by (with_reducible repeat (first | refine blk_drewN ?_ _ | refine blk_drew ?_ | refine blk_alloc ?_ _)); exact BK173.out) hb); have n2_ := Aside0.mk (below_step (by repeat (first | (with_reducible first | exact HB.out | apply below_alloc | apply pw_below_drewN | apply below_drew1 | refine below_set ?_ GE172.out | refine below_set ?_ GE173.out) | exact HB.out)) hb); clear BK172; clear BK173; clear HB; have BK172 := n0_; have BK173 := n1_; have HB := n2_; clear n0_ n1_ n2_; (try clear hb); (try clear hb2); (try clear hk); (try clear hi)))
 go_ret
 exact ⟨by first | rfl | (simp [errW_none, errW_some] <;> rfl) | (simp [*, errW_none, errW_some] <;> rfl), by repeat (first | (with_reducible first | exact HB.out | apply below_alloc | apply pw_below_drewN | apply below_drew1 | refine below_set ?_ GE172.out | refine below_set ?_ GE173.out) | exact HB.out)⟩
end Go.Proofs.YtodkjmbmlobihaaGreatDoor.QB.D
end
section
namespace Go.Proofs.YtodkjmbmlobihaaGreatDoor.Q
open Go.RowKit Go.Proofs.YtodkjmbmlobihaaGreatDoorW.PrintWords Go.Proofs.YtodkjmbmlobihaaGreatDoorW.PrintLast Go.Proofs.YtodkjmbmlobihaaGreatDoorW.PrintMore Go.Proofs.YtodkjmbmlobihaaGreatDoor.QB.D
theorem octet_Parts.calls (a0 : ByteArray) (a1 : Int) (r : List ByteArray) (w : World) (h : octet_Parts.f a0 a1 = some r) : Calls Tryz.prog 75 #[.string a0, .int .u8 a1] w fun e w' => ∃ v, e = .returned v ∧ Kd.R Kd.string 9 w' w.heap.size (fun _ => True) v r ∧ Below w.heap.size w w' :=
 (QB.D.octet_Parts.calls a0 a1 r w h).mono fun _ _ ⟨v, h1, h2, h3⟩ => ⟨v, h1, h2, h3.toBelow⟩
theorem octet_All.calls (a0 : ByteArray) (A0 : Option Addr) (c0 : Nat) (l0 : List Int) (r : Bool) (w : World) (hr0 : Kd.C (Kd.int .i64) w A0 l0.length l0) (hc0 : l0.length ≤ c0) (h : octet_All.f a0 l0 = some r) :
 Calls Tryz.prog 91 #[.string a0, .slice A0 l0.length c0] w fun e w' => e = .returned (.bool r) ∧ Below w.heap.size w w' :=
 (QB.D.octet_All.calls a0 A0 c0 l0 r w hr0 hc0 h).mono fun _ _ h => ⟨h.1, h.2.toBelow⟩
theorem path_element.calls (a0 : ByteArray) (r : Bool) (w : World) (h : path_element.f a0 = some r) : Calls Tryz.prog 76 #[.string a0] w fun e w' => e = .returned (.bool r) ∧ Below w.heap.size w w' :=
 (QB.D.path_element.calls a0 r w h).mono fun _ _ h => ⟨h.1, h.2.toBelow⟩
theorem path_Elements.calls (k : Nat) (a0 : ByteArray) (r1 : List ByteArray) (r2 : Int) (w : World) (h : path_Elements.f k a0 = some (r1, r2)) :
 Calls Tryz.prog 61 #[.string a0] w fun e w' => ∃ v0_ : Value, e = .returned (.tuple #[v0_, .int .i64 r2]) ∧ Kd.R Kd.string 9 w' w.heap.size (fun _ => True) v0_ r1 ∧ Below w.heap.size w w' :=
 (QB.D.path_Elements.calls k a0 r1 r2 w h).mono fun _ _ ⟨v, h1, h2, h3⟩ => ⟨v, h1, h2, h3.toBelow⟩
theorem path_May.calls (k : Nat) (a0 : ByteArray) (r : Bool) (w : World) (h : path_May.f k a0 = some r) :
 Calls Tryz.prog 41 #[.string a0] w fun e w' => e = .returned (.bool r) ∧ Below w.heap.size w w' :=
 (QB.D.path_May.calls k a0 r w h).mono fun _ _ h => ⟨h.1, h.2.toBelow⟩
theorem number_May.calls (a0 : ByteArray) (r : Bool) (w : World) (h : number_May.f a0 = some r) :
 Calls Tryz.prog 79 #[.string a0] w fun e w' => e = .returned (.bool r) ∧ Below w.heap.size w w' :=
 (QB.D.number_May.calls a0 r w h).mono fun _ _ h => ⟨h.1, h.2.toBelow⟩
theorem version_Split.calls (a0 : ByteArray) (r1 : ByteArray) (r2 : ByteArray) (r3 : ByteArray) (r4 : List ByteArray) (r5 : Int) (w : World) (h : version_Split.f a0 = some (r1, r2, r3, r4, r5)) :
 Calls Tryz.prog 62 #[.string a0] w fun e w' => ∃ v3_ : Value, e = .returned (.tuple #[.agg #[.string r1, .string r2, .string r3, v3_], .int .i64 r5]) ∧ Kd.R Kd.string 9 w' w.heap.size (fun _ => True) v3_ r4 ∧ Below w.heap.size w w' :=
 (QB.D.version_Split.calls a0 r1 r2 r3 r4 r5 w h).mono fun _ _ ⟨v, h1, h2, h3⟩ => ⟨v, h1, h2, h3.toBelow⟩
theorem version_May.calls (a0 : ByteArray) (r : Bool) (w : World) (h : version_May.f a0 = some r) :
 Calls Tryz.prog 42 #[.string a0] w fun e w' => e = .returned (.bool r) ∧ Below w.heap.size w w' :=
 (QB.D.version_May.calls a0 r w h).mono fun _ _ h => ⟨h.1, h.2.toBelow⟩
theorem node_May.calls (k : Nat) (a0_0 : ByteArray) (a0_1 : ByteArray) (r : Bool) (w : World) (h : node_May.f k a0_0 a0_1 = some r) :
 Calls Tryz.prog 25 #[.agg #[.string a0_0, .string a0_1]] w fun e w' => e = .returned (.bool r) ∧ Below w.heap.size w w' :=
 (QB.D.node_May.calls k a0_0 a0_1 r w h).mono fun _ _ h => ⟨h.1, h.2.toBelow⟩
theorem number_Cmp.calls (k : Nat) (a0 : ByteArray) (a1 : ByteArray) (r1 : Int) (r2 : Int) (w : World) (h : number_Cmp.f k a0 a1 = some (r1, r2)) :
 Calls Tryz.prog 93 #[.string a0, .string a1] w fun e w' => e = .returned (.tuple #[.int .i64 r1, .int .i64 r2]) ∧ Below w.heap.size w w' :=
 (QB.D.number_Cmp.calls k a0 a1 r1 r2 w h).mono fun _ _ h => ⟨h.1, h.2.toBelow⟩
theorem version_numbers.calls (k : Nat) (a0 : ByteArray) (a1 : ByteArray) (r : Int) (w : World) (h : version_numbers.f k a0 a1 = some r) :
 Calls Tryz.prog 83 #[.string a0, .string a1] w fun e w' => e = .returned (.int .i64 r) ∧ Below w.heap.size w w' :=
 (QB.D.version_numbers.calls k a0 a1 r w h).mono fun _ _ h => ⟨h.1, h.2.toBelow⟩
theorem version_words.calls (k : Nat) (a0 : ByteArray) (a1 : ByteArray) (r : Int) (w : World) (h : version_words.f k a0 a1 = some r) :
 Calls Tryz.prog 85 #[.string a0, .string a1] w fun e w' => e = .returned (.int .i64 r) ∧ Below w.heap.size w w' :=
 (QB.D.version_words.calls k a0 a1 r w h).mono fun _ _ h => ⟨h.1, h.2.toBelow⟩
theorem version_Cmp.calls (a0 a1 : ByteArray) (r1 r2 : Int) (w : World) (h : version_Cmp.f a0 a1 = some (r1, r2)) :
 Calls Tryz.prog 72 #[.string a0, .string a1] w fun e w' => e = .returned (.tuple #[.int .i64 r1, .int .i64 r2]) ∧ Below w.heap.size w w' :=
 (QB.D.version_Cmp.calls a0 a1 r1 r2 w h).mono fun _ _ h => ⟨h.1, h.2.toBelow⟩
theorem node_order.calls (k : Nat) (a0_0 : ByteArray) (a0_1 : ByteArray) (a1_0 : ByteArray) (a1_1 : ByteArray) (r : Int) (w : World) (h : node_order.f k a0_0 a0_1 a1_0 a1_1 = some r) :
 Calls Tryz.prog 60 #[.agg #[.string a0_0, .string a0_1], .agg #[.string a1_0, .string a1_1]] w fun e w' => e = .returned (.int .i64 r) ∧ Below w.heap.size w w' :=
 (QB.D.node_order.calls k a0_0 a0_1 a1_0 a1_1 r w h).mono fun _ _ h => ⟨h.1, h.2.toBelow⟩
theorem node_Cmp.calls (k : Nat) (a0_0 : ByteArray) (a0_1 : ByteArray) (a1_0 : ByteArray) (a1_1 : ByteArray) (r1 : Int) (r2 : Int) (w : World) (h : node_Cmp.f k a0_0 a0_1 a1_0 a1_1 = some (r1, r2)) :
 Calls Tryz.prog 40 #[.agg #[.string a0_0, .string a0_1], .agg #[.string a1_0, .string a1_1]] w fun e w' => e = .returned (.tuple #[.int .i64 r1, .int .i64 r2]) ∧ Below w.heap.size w w' :=
 (QB.D.node_Cmp.calls k a0_0 a0_1 a1_0 a1_1 r1 r2 w h).mono fun _ _ h => ⟨h.1, h.2.toBelow⟩
theorem why_order.calls (k : Nat) (a0_0 : ByteArray) (a0_1 : ByteArray) (a1_0 : ByteArray) (a1_1 : ByteArray) (r : Int) (w : World) (h : why_order.f k a0_0 a0_1 a1_0 a1_1 = some r) :
 Calls Tryz.prog 24 #[.agg #[.string a0_0, .string a0_1], .agg #[.string a1_0, .string a1_1]] w fun e w' => e = .returned (.int .i64 r) ∧ Below w.heap.size w w' :=
 (QB.D.why_order.calls k a0_0 a0_1 a1_0 a1_1 r w h).mono fun _ _ h => ⟨h.1, h.2.toBelow⟩
end Go.Proofs.YtodkjmbmlobihaaGreatDoor.Q
end
section
namespace Go.Proofs.YtodkjmbmlobihaaGreatDoor.Q
open Go.Proofs.YtodkjmbmlobihaaGreatDoor.QB.D
open Go Go.RowKit Go.Lib Go.Proofs.YtodkjmbmlobihaaGreatDoorW.PrintWords Go.Proofs.YtodkjmbmlobihaaGreatDoorW.PrintLast Go.Proofs.YtodkjmbmlobihaaGreatDoorW.PrintMore Gw
set_option linter.unusedVariables false
set_option linter.unusedSimpArgs false
abbrev GoodN (x : S24) : Prop := Tiny x.f0 ∧ Tiny x.f1 ∧ isVersion (bs x.f1) = true
def np (x : S24) : NP := (bs x.f0, bs x.f1)
theorem np_inj {x y : S24} (h : np x = np y) : x = y := by
 cases x; cases y
 simp only [np, Prod.mk.injEq] at h
 rw [bs_inj h.1, bs_inj h.2]
def ordN (x y : S24) : Int := nodC (np x) (np y)
theorem ordN_to : TO GoodN ordN := by
 have h := nodC_to
 refine ⟨fun a b => h.tri _ _, fun a b ha hb => h.sym _ _ ha.2.2 hb.2.2, fun a b ha hb => ?_, fun a b d ha hb hd => h.tr _ _ _ ha.2.2 hb.2.2 hd.2.2⟩
 show nodC _ _ = 0 ↔ _
 rw [h.eq _ _ ha.2.2 hb.2.2]
 exact ⟨np_inj, fun e => by rw [e]⟩
theorem vparts_of {s : ByteArray} (h : isVersion (bs s) = true) : vparts (bs s) = some (vOf (bs s)) := by
 rw [← vparts_some] at h
 obtain ⟨v, hv⟩ := Option.isSome_iff_exists.1 h
 unfold vOf
 rw [hv]
 rfl
instance : DecidableEq S24 := fun a b => if h : a.f0 = b.f0 ∧ a.f1 = b.f1 then isTrue (by cases a; cases b; simp at h; rw [h.1, h.2]) else isFalse (fun e => h (by subst e; exact ⟨rfl, rfl⟩))
abbrev TinyN (x : S24) : Prop := Tiny x.f0 ∧ Tiny x.f1
def mayN (x : S24) : Bool := isNode (np x)
theorem mayN_good {x : S24} (hx : TinyN x) (hm : mayN x = true) : GoodN x := by
 unfold mayN isNode np at hm
 rw [Bool.and_eq_true] at hm
 exact ⟨hx.1, hx.2, hm.2⟩
def few (s : ByteArray) : ByteArray := if (s.size : Int) > 400 then s.extract 0 400 else s
theorem few_size (s : ByteArray) : (few s).size ≤ 400 := by
 unfold few
 split
 ·rw [ByteArray.size_extract]; omega
 ·omega
abbrev Brief (x : S24) : Prop := x.f0.size ≤ 400 ∧ x.f1.size ≤ 400
theorem Brief.tiny {x : S24} (h : Brief x) : TinyN x := by unfold TinyN Tiny; omega
def oneN (x : S24) : S24 := ⟨few x.f0, few x.f1⟩
theorem oneN_brief (x : S24) : Brief (oneN x) := ⟨few_size _, few_size _⟩
def oneE (x : S49) : S49 := ⟨oneN x.f0, oneN x.f1⟩
def fewE (l : List S49) : List S49 := (l.take 30).map oneE
theorem fewE_len (l : List S49) : (fewE l).length ≤ 30 := by unfold fewE; rw [List.length_map, List.length_take]; omega
theorem fewE_brief (l : List S49) : ∀ x ∈ fewE l, Brief x.f0 ∧ Brief x.f1 := fun x hx => by
 obtain ⟨y, _, rfl⟩ := List.mem_map.1 hx
 exact ⟨oneN_brief _, oneN_brief _⟩
theorem rd_nat {l : List S24} {i : Nat} (hi : i < l.length) : rd_T24 l (i : Int) = l[i] := by simp [rd_T24, List.getD_eq_getElem?_getD, List.getElem?_eq_getElem hi]
theorem node_eqb (x y : S24) : (x.f0.toList == y.f0.toList && x.f1.toList == y.f1.toList) = decide (x = y) := by
 rw [str_eq, str_eq]
 by_cases h : x = y
 ·subst h; simp
 ·rw [decide_eq_false h]
  by_cases h0 : x.f0 = y.f0
  ·have h1 : x.f1 ≠ y.f1 := fun h1 => h (by cases x; cases y; simp only at h0 h1; rw [h0, h1])
   simp [h0, h1]
  ·simp [h0]
theorem indexN_l0 (l : List S24) (t : S24) (hl : l.length ≤ 4294967296) : ∀ (n i k : Nat), l.length ≤ i + n → i ≤ l.length → n + 1 ≤ k → ∃ r : Int, api_Node_49.l0 k l (l.length : Int) (i : Int) t.f0 t.f1 = some r ∧ decide (r ≥ 0) = decide (t ∈ l.drop i) := by
 intro n
 induction n with
 | zero =>
  intro i k h1 h2 hk
  obtain ⟨j, rfl⟩ : ∃ j, k = j + 1 := ⟨k - 1, by omega⟩
  have e : i = l.length := by omega
  subst e
  refine ⟨-1, ?_, by rw [List.drop_length]; simp⟩
  simp only [api_Node_49.l0]
  rw [if_neg (by omega)]
 | succ n ih =>
  intro i k h1 h2 hk
  obtain ⟨j, rfl⟩ : ∃ j, k = j + 1 := ⟨k - 1, by omega⟩
  by_cases h : i < l.length
  ·simp only [api_Node_49.l0]
   rw [if_pos (by omega), if_pos (by omega), if_pos (by omega), rd_nat h, node_eqb, List.drop_eq_getElem_cons h]
   by_cases e : t = l[i]
   ·rw [decide_eq_true e, if_pos rfl]
    refine ⟨(i : Int), rfl, ?_⟩
    rw [decide_eq_true (by omega), decide_eq_true (by rw [e]; exact List.mem_cons_self)]
   ·rw [decide_eq_false e, if_neg (by decide), show wrap64 ((i : Int) + 1) = ((i + 1 : Nat) : Int) by unfold wrap64; omega]
    obtain ⟨r, h3, h4⟩ := ih (i + 1) j (by omega) (by omega) (by omega)
    refine ⟨r, h3, h4.trans (decide_eq_decide.2 ⟨fun h => List.mem_cons_of_mem _ h, fun h => (List.mem_cons.1 h).resolve_left e⟩)⟩
  ·exact ih i (j + 1) (by omega) h2 (by omega)
theorem conN_val (l : List S24) (t : S24) (hl : l.length ≤ 4294967296) (k : Nat) (hk : l.length + 1 ≤ k) : api_Node_37.f k l t.f0 t.f1 = some (decide (t ∈ l)) := by
 obtain ⟨r, h1, h2⟩ := indexN_l0 l t hl l.length 0 k (by omega) (Nat.zero_le _) hk
 rw [List.drop_zero] at h2
 unfold api_Node_37.f api_Node_49.f
 rw [show ((0 : Nat) : Int) = 0 from rfl] at h1
 rw [h1, Option.bind_some, h2]
theorem elements_from (s : ByteArray) (hs : Tiny s) : ∀ (k i : Nat), ((parts 47 (bs s)).map ofB).length ≤ i + k → i ≤ ((parts 47 (bs s)).map ofB).length →
 path_Elements.l0 (k + 1) ((parts 47 (bs s)).map ofB) ((parts 47 (bs s)).map ofB) (((parts 47 (bs s)).map ofB).length : Int) (i : Int) = some (if ((parts 47 (bs s)).drop i).all isElem then ((parts 47 (bs s)).map ofB, 0) else ([], 1)) := by
 have hsm : Small s := by unfold Tiny at hs; unfold Small; omega
 obtain ⟨hl, hx⟩ := parts_small hsm 47
 have hlen : ((parts 47 (bs s)).map ofB).length = (parts 47 (bs s)).length := List.length_map _
 have hall : ∀ (i : Nat) (hi : i < (parts 47 (bs s)).length), path_element.f (((parts 47 (bs s)).map ofB)[i]'(by rw [hlen]; exact hi)) = some (isElem (parts 47 (bs s))[i]) := by
  intro i hi
  have h2 := hx (((parts 47 (bs s)).map ofB)[i]'(by rw [hlen]; exact hi)) (List.getElem_mem _)
  unfold path_element.f
  rw [if_pos (by unfold Tiny at *; omega), List.getElem_map, bs_ofB (parts_oct (bs_oct s) _ (List.getElem_mem hi))]
 intro k
 induction k with
 | zero =>
  intro i h1 h2
  have e : i = (parts 47 (bs s)).length := by omega
  subst e
  unfold path_Elements.l0
  rw [if_neg (by omega), List.drop_length]
  rfl
 | succ k ih =>
  intro i h1 h2
  unfold path_Elements.l0
  by_cases hi : i < (parts 47 (bs s)).length
  ·rw [if_pos (by omega), if_pos (by omega), if_pos (by omega)]
   have hr : rdOf ByteArray.empty ((parts 47 (bs s)).map ofB) (i : Int) = ((parts 47 (bs s)).map ofB)[i]'(by rw [hlen]; exact hi) := by
    simp [rdOf, List.getD_eq_getElem?_getD, List.getElem?_eq_getElem hi]
   rw [hr, hall i hi, List.drop_eq_getElem_cons hi, List.all_cons, Option.bind_some]
   cases he : isElem (parts 47 (bs s))[i]
   ·rfl
   ·rw [if_pos rfl, Bool.true_and, show wrap64 ((i : Int) + 1) = ((i + 1 : Nat) : Int) by unfold wrap64; unfold Tiny at hs; omega]
    exact ih (i + 1) (by omega) (by omega)
  ·have e : i = (parts 47 (bs s)).length := by omega
   rw [if_neg (by omega), List.drop_eq_nil_of_le (by omega)]
   rfl
theorem path_May_val (k : Nat) (s : ByteArray) (hs : Tiny s) (hk : s.size + 2 ≤ k) : path_May.f k s = some (isPath (bs s)) := by
 obtain ⟨j, rfl⟩ : ∃ j, k = j + 1 := ⟨k - 1, by omega⟩
 have hl := parts_len s 47
 unfold path_May.f path_Elements.f octet_Parts.f
 rw [if_pos ⟨hs, by decide, by decide⟩, Option.bind_some]
 have h := elements_from s hs j 0 (by omega) (Nat.zero_le _)
 rw [show (47 : Int).toNat = 47 from rfl, show ((0 : Nat) : Int) = 0 from rfl] at *
 rw [h, Option.bind_some, List.drop_zero]
 unfold isPath
 cases (parts 47 (bs s)).all isElem <;> rfl
theorem version_May_val (s : ByteArray) (hs : Tiny s) : version_May.f s = some (isVersion (bs s)) := by
 unfold version_May.f version_Split.f
 rw [if_pos hs, Option.bind_some, ← vparts_some]
 cases vparts (bs s) <;> rfl
theorem node_May_val (k : Nat) (x : S24) (hx : TinyN x) (hk : x.f0.size + 2 ≤ k) : node_May.f k x.f0 x.f1 = some (mayN x) := by
 unfold node_May.f
 rw [path_May_val k _ hx.1 hk, version_May_val _ hx.2]
 show _ = some (isPath (bs x.f0) && isVersion (bs x.f1))
 cases isPath (bs x.f0) <;> rfl
def badE (x : S49) : Bool := !mayN x.f1 || (!decide (x.f0 = z24) && !mayN x.f0)
abbrev TinyE (x : S49) : Prop := TinyN x.f0 ∧ TinyN x.f1
set_option maxHeartbeats 4000000 in
set_option maxRecDepth 100000 in
theorem chk1_calls (x : S49) (hx : TinyE x) (B : Nat) (w : World) (h0 : w.cell? ⟨B, 0, none⟩ = some (.string ⟨#[]⟩)) (h1 : w.cell? ⟨B, 1, none⟩ = some (.string ⟨#[]⟩)) (hB : B < w.heap.size) :
 Calls Tryz.prog 36 #[.agg #[.string x.f0.f0, .string x.f0.f1, .string x.f1.f0, .string x.f1.f1], .pointer (some ⟨B, 0, none⟩)] w fun e w' => e = .returned (.bool (badE x)) ∧ Below w.heap.size w w' := by
 have hu24 := Tryz.underlying24
 have hu34 := Tryz.underlying49
 have q1 := hx.2.1
 have q0 := hx.1.1
 unfold Tiny at q1 q0
 have m1 := node_May_val 4294967300 x.f1 hx.2 (by omega)
 have m0 := node_May_val 4294967300 x.f0 hx.1 (by omega)
 cases b1 : mayN x.f1 with
 | false =>
  rw [b1] at m1
  have C1 := fun w => node_May.calls 4294967300 x.f1.f0 x.f1.f1 false w m1
  have hr : badE x = true := by unfold badE; rw [b1]; rfl
  rw [hr]
  clear m1 m0 q0 q1 hr hx
  go_enter Tryz.func36, Tryz.ntmps36
  go_wp2_with fail
  refine (C1 _).mono ?_
  rintro e w1 ⟨rfl, hb1⟩
  have HB1 : Aside0 (Below w.heap.size w w1) := ⟨(below_alloc (Below.refl _ _) _).trans (hb1.mono (by simp))⟩
  clear hb1 C1
  go_wp2
  go_ret
  exact ⟨rfl, HB1.out⟩
 | true =>
  rw [b1] at m1
  have C1 := fun w => node_May.calls 4294967300 x.f1.f0 x.f1.f1 true w m1
  by_cases hq : x.f0 = z24
  ·have he0 : x.f0.f0.toList = [] := by rw [hq, ByteArray.toList_eq]; rfl
   have he1 : x.f0.f1.toList = [] := by rw [hq, ByteArray.toList_eq]; rfl
   have hr : badE x = false := by unfold badE; rw [b1, decide_eq_true hq]; rfl
   rw [hr]
   clear m1 m0 q0 q1 hr hx hq
   go_enter Tryz.func36, Tryz.ntmps36
   go_wp2_with fail
   refine (C1 _).mono ?_
   rintro e w1 ⟨rfl, hb1⟩
   have HB1 : Aside0 (Below w.heap.size w w1) := ⟨(below_alloc (Below.refl _ _) _).trans (hb1.mono (by simp))⟩
   have n0 : w1.cell? ⟨w.heap.size, 0, none⟩ = some (.string x.f0.f0) := (hb1.cell (p := ⟨w.heap.size, 0, none⟩) (by simp)).trans (by simp [go_sem])
   have n1 : w1.cell? ⟨w.heap.size, 1, none⟩ = some (.string x.f0.f1) := (hb1.cell (p := ⟨w.heap.size, 1, none⟩) (by simp)).trans (by simp [go_sem])
   have r0 : w1.cell? ⟨B, 0, none⟩ = some (.string ⟨#[]⟩) := (HB1.out.cell (p := ⟨B, 0, none⟩) hB).trans h0
   have r1 : w1.cell? ⟨B, 1, none⟩ = some (.string ⟨#[]⟩) := (HB1.out.cell (p := ⟨B, 1, none⟩) hB).trans h1
   clear hb1 C1
   go_wp2
   go_ret
   exact ⟨rfl, HB1.out⟩
  ·have hs : (x.f0.f0.toList = []) = False ∨ (x.f0.f0.toList = [] ∧ (x.f0.f1.toList = []) = False) := by
    by_cases h2 : x.f0.f0.toList = []
    ·refine Or.inr ⟨h2, eq_false (fun h3 => hq ?_)⟩
     have e0 := (toList_nil _).1 h2
     have e1 := (toList_nil _).1 h3
     have f0 : x.f0.f0 = ⟨#[]⟩ := bs_inj (by rw [e0]; rfl)
     have f1 : x.f0.f1 = ⟨#[]⟩ := bs_inj (by rw [e1]; rfl)
     rcases hx9 : x.f0 with ⟨u0, u1⟩
     rw [hx9] at f0 f1
     simp only at f0 f1
     rw [f0, f1]
     rfl
    ·exact Or.inl (eq_false h2)
   have hr : badE x = !mayN x.f0 := by unfold badE; rw [b1, decide_eq_false hq]; simp
   rw [hr]
   obtain ⟨b0, hb0⟩ : ∃ b, b = mayN x.f0 := ⟨_, rfl⟩
   rw [← hb0] at m0 ⊢
   have C0 := fun w => node_May.calls 4294967300 x.f0.f0 x.f0.f1 b0 w m0
   clear m1 m0 q0 q1 hr hx hq hb0
   rcases hs with h2 | ⟨h2, h3⟩
   all_goals
    go_enter Tryz.func36, Tryz.ntmps36
    go_wp2_with fail
    refine (C1 _).mono ?_
    rintro e w1 ⟨rfl, hb1⟩
    have HB1 : Aside0 (Below w.heap.size w w1) := ⟨(below_alloc (Below.refl _ _) _).trans (hb1.mono (by simp))⟩
    have n0 : w1.cell? ⟨w.heap.size, 0, none⟩ = some (.string x.f0.f0) := (hb1.cell (p := ⟨w.heap.size, 0, none⟩) (by simp)).trans (by simp [go_sem])
    have n1 : w1.cell? ⟨w.heap.size, 1, none⟩ = some (.string x.f0.f1) := (hb1.cell (p := ⟨w.heap.size, 1, none⟩) (by simp)).trans (by simp [go_sem])
    have r0 : w1.cell? ⟨B, 0, none⟩ = some (.string ⟨#[]⟩) := (HB1.out.cell (p := ⟨B, 0, none⟩) hB).trans h0
    have r1 : w1.cell? ⟨B, 1, none⟩ = some (.string ⟨#[]⟩) := (HB1.out.cell (p := ⟨B, 1, none⟩) hB).trans h1
    clear hb1 C1
    go_wp2_with fail
    refine (C0 _).mono ?_
    rintro e w2 ⟨rfl, hb2⟩
    have HB2 : Aside0 (Below w.heap.size w w2) := ⟨HB1.out.trans (hb2.mono HB1.out.size)⟩
    clear hb2 C0
    go_wp2
    go_ret
    exact ⟨rfl, HB2.out⟩
set_option maxHeartbeats 4000000 in
set_option maxRecDepth 100000 in
theorem indexE_calls (A0 : Option Addr) (c0 : Nat) (l0 : List S49) (w : World) (hr0 : Kd.C k49 w A0 l0.length l0) (hl0 : l0.length ≤ 4294967296) (p : S49 → Bool) (B : Nat)
 (hp : ∀ x ∈ l0, ∀ (W : World), Below w.heap.size w W → Calls Tryz.prog 36 #[.agg #[.string x.f0.f0, .string x.f0.f1, .string x.f1.f0, .string x.f1.f1], .pointer (some ⟨B, 0, none⟩)] W fun e w' => e = .returned (.bool (p x)) ∧ Below W.heap.size W w') :
 Calls Tryz.prog 48 #[.slice A0 l0.length c0, .func (.func 36) #[] #[.pointer (some ⟨B, 0, none⟩)]] w fun e w' => ∃ r : Int, e = .returned (.int .i64 r) ∧ decide (0 ≤ r) = l0.any p ∧ Below w.heap.size w w' := by
 have hu24 := Tryz.underlying24
 have hu34 := Tryz.underlying49
 have HR0 := Aside0.mk hr0
 have HP := Aside0.mk hp
 have hl1 : (l0.length : Int) ≤ 4294967296 := by omega
 clear hr0 hp
 go_enter Tryz.func48, Tryz.ntmps48
 go_wp2_with fail
 go_loopw [5, 8] (fun _ v8 wr => ∃ i : Nat, i ≤ l0.length ∧ v8 = .int .i64 (i : Int) ∧ Aside0 (Below w.heap.size w wr) ∧ Aside0 ((l0.take i).any p = false)) (fun _ v8 _ => l0.length - (RowKit.intOf v8).toNat)
 case atStart => exact ⟨0, Nat.zero_le _, rfl, ⟨Below.refl _ _⟩, ⟨rfl⟩⟩
 case round =>
  obtain ⟨i, hi, rfl, HB, HA⟩ := hrel
  by_cases hil : i < l0.length
  ·have j1 : (i : Int) < (l0.length : Int) := by omega
   have hdi : decide ((i : Int) < (l0.length : Int)) = true := decide_eq_true j1
   obtain ⟨x, hx⟩ : ∃ x, x = l0[i] := ⟨_, rfl⟩
   have hmem : x ∈ l0 := by rw [hx]; exact List.getElem_mem hil
   obtain ⟨ad, e0, hx0, hx1, hx2, hx3⟩ := at_T49 HR0.out (i : Int) (by omega) (by omega)
   have hrd : rd_T49 l0 (i : Int) = x := by rw [hx]; simp [rd_T49, List.getD_eq_getElem?_getD, List.getElem?_eq_getElem hil]
   rw [hrd, Int.toNat_natCast] at hx0 hx1 hx2 hx3
   cases e0
   replace hx0 := (HB.out.cell (World.block_lt_of_cell? w _ hx0)).trans hx0
   replace hx1 := (HB.out.cell (World.block_lt_of_cell? w _ hx1)).trans hx1
   replace hx2 := (HB.out.cell (World.block_lt_of_cell? w _ hx2)).trans hx2
   replace hx3 := (HB.out.cell (World.block_lt_of_cell? w _ hx3)).trans hx3
   have hcall := HP.out x hmem wr HB.out
   have htk : l0.take (i + 1) = l0.take i ++ [x] := by rw [hx]; exact List.take_succ_eq_append_getElem hil
   have HTK := Aside0.mk htk
   have HMEM := Aside0.mk hmem
   clear hx hrd htk hmem
   cases hq : p x with
   | true =>
    rw [hq] at hcall
    have HQ := Aside0.mk hq
    clear hq
    go_wp2_with (go_at_call 36; with_reducible refine hcall.mono ?_; rintro e w' ⟨rfl, hb'⟩)
    have hbel := HB.out.trans (hb'.mono HB.out.size)
    go_ret
    refine ⟨_, rfl, ?_, hbel⟩
    rw [decide_eq_true (by omega)]
    exact (List.any_eq_true.2 ⟨x, HMEM.out, HQ.out⟩).symm
   | false =>
    rw [hq] at hcall
    have HQ := Aside0.mk hq
    clear hq
    go_wp2_with (go_at_call 36; with_reducible refine hcall.mono ?_; rintro e w' ⟨rfl, hb'⟩)
    have hbel : Aside0 (Below w.heap.size w w') := ⟨HB.out.trans (hb'.mono HB.out.size)⟩
    clear hb'
    go_roundw
    case rel => exact ⟨i + 1, by omega, by go_num, hbel, ⟨by rw [HTK.out, List.any_append, HA.out]; simp [HQ.out]⟩⟩
    case measure => simp [RowKit.intOf]; omega
  ·obtain rfl : i = l0.length := by omega
   have hdi : decide ((l0.length : Int) < (l0.length : Int)) = false := decide_eq_false (by omega)
   have ha := HA.out
   rw [List.take_length] at ha
   have HA2 := Aside0.mk ha
   clear ha
   go_wp2
   go_ret
   exact ⟨_, rfl, by rw [HA2.out]; rfl, HB.out⟩
def okE (l : List S49) : Bool := !l.any badE
def kI : Bool → Int
 | true => 0
 | false => 1
def lack_Check.f (l : List S49) : Option Int := if l.length ≤ 4294967296 ∧ (∀ x ∈ l, TinyE x) then some (kI (okE l)) else none
set_option maxHeartbeats 4000000 in
set_option maxRecDepth 100000 in
theorem lack_Check.calls (A0 : Option Addr) (c0 : Nat) (l0 : List S49) (r : Int) (w : World) (hr0 : Kd.C k49 w A0 l0.length l0) (hc0 : l0.length ≤ c0) (h : lack_Check.f l0 = some r) :
 Calls Tryz.prog 20 #[.slice A0 l0.length c0] w fun e w' => e = .returned (.int .i64 r) ∧ Below w.heap.size w w' := by
 unfold lack_Check.f at h
 split at h
 case isFalse => cases h
 case isTrue hc =>
  injection h with h
  subst h
  obtain ⟨hl, ht⟩ := hc
  have HR0 := Aside0.mk hr0
  have hu24 := Tryz.underlying24
  have CF : ∀ (W : World) (B : Nat), Kd.C k49 W A0 l0.length l0 → W.cell? ⟨B, 0, none⟩ = some (.string ⟨#[]⟩) → W.cell? ⟨B, 1, none⟩ = some (.string ⟨#[]⟩) → B < W.heap.size →
   Calls Tryz.prog 35 #[.slice A0 l0.length c0, .func (.func 36) #[] #[.pointer (some ⟨B, 0, none⟩)]] W fun e w' => e = .returned (.bool (l0.any badE)) ∧ Below W.heap.size W w' := by
   intro W B hR h0 h1 hB
   have CI := indexE_calls A0 c0 l0 W hR hl badE B (fun x hx W' hW => chk1_calls x (ht x hx) B W' ((hW.cell (p := ⟨B, 0, none⟩) hB).trans h0) ((hW.cell (p := ⟨B, 1, none⟩) hB).trans h1) (Nat.lt_of_lt_of_le hB hW.size))
   clear hR h0 h1 ht HR0 hr0
   go_enter Tryz.func35, Tryz.ntmps35
   go_wp2_with fail
   refine CI.mono ?_
   rintro e w1 ⟨q, rfl, hq, hb1⟩
   have HB1 := Aside0.mk hb1
   clear hb1 CI
   go_wp2
   go_ret
   exact ⟨rfl, HB1.out⟩
  obtain ⟨b, hb⟩ : ∃ b, b = l0.any badE := ⟨_, rfl⟩
  rw [← hb] at CF
  have hk : kI (okE l0) = kI (!b) := by unfold okE; rw [← hb]
  rw [hk]
  clear hb hk hr0 ht
  go_enter Tryz.func20, Tryz.ntmps20
  go_wp2_with fail
  refine (CF _ w.heap.size (Kd.C_alloc HR0.out _) (by simp [go_sem]) (by simp [go_sem]) (by simp)).mono ?_
  rintro e w1 ⟨rfl, hb1⟩
  have HB1 : Aside0 (Below w.heap.size w w1) := ⟨(below_alloc (Below.refl _ _) _).trans (hb1.mono (by simp))⟩
  clear hb1 CF
  cases b
  ·go_wp2
   go_ret
   exact ⟨rfl, HB1.out⟩
  ·go_wp2
   go_ret
   exact ⟨rfl, HB1.out⟩
theorem order_val (k : Nat) (x y : S24) (hx : GoodN x) (hy : GoodN y) : node_order.f (k + 3) x.f0 x.f1 y.f0 y.f1 = some (ordN x y) := by
 unfold node_order.f
 by_cases h : (x.f0.toList == y.f0.toList && x.f1.toList == y.f1.toList) = true
 ·rw [if_pos h]
  rw [str_eq, str_eq, Bool.and_eq_true, decide_eq_true_eq, decide_eq_true_eq] at h
  have e : x = y := by cases x; cases y; simp only at h; rw [h.1, h.2]
  subst e
  exact congrArg some ((ordN_to.eq x x hx hx).2 rfl).symm
 ·rw [if_neg h]
  have hv : version_Cmp.f x.f1 y.f1 = some (verC (vOf (bs x.f1)) (vOf (bs y.f1)), 0) := by
   unfold version_Cmp.f
   rw [if_pos ⟨hx.2.1, hy.2.1⟩, vparts_of hx.2.2, vparts_of hy.2.2]
   rfl
  rw [hv, octcmp_val]
  simp only [Option.bind_some]
  rw [or2_val]
  rfl
def cmpM (x y : S24) : Int × Int := if mayN x && mayN y then (ordN x y, 0) else (0, 1)
theorem node_Cmp_val (k : Nat) (x y : S24) (hx : Brief x) (hy : Brief y) (hk : 500 ≤ k) : node_Cmp.f k x.f0 x.f1 y.f0 y.f1 = some (cmpM x y) := by
 obtain ⟨j, rfl⟩ : ∃ j, k = j + 3 := ⟨k - 3, by omega⟩
 unfold node_Cmp.f cmpM
 rw [node_May_val _ x hx.tiny (by have := hx.1; omega), node_May_val _ y hy.tiny (by have := hy.1; omega)]
 cases hmx : mayN x
 ·rfl
 ·cases hmy : mayN y
  ·rfl
  ·simp only [Option.bind_some, if_true, Bool.and_self]
   rw [order_val j x y (mayN_good hx.tiny hmx) (mayN_good hy.tiny hmy)]
   rfl
def ahead (l : List S24) (t : S24) : Nat := (l.filter (fun x => decide (ordN x t < 0))).length
structure IsSet (l : List S24) : Prop where
 good : ∀ x ∈ l, GoodN x
 may : ∀ x ∈ l, mayN x = true
 lt : l.Pairwise (fun x y => ordN x y < 0)
theorem ordN_self {x : S24} (h : GoodN x) : ordN x x = 0 := (ordN_to.eq x x h h).2 rfl
theorem ordN_ne {x y : S24} (hx : GoodN x) (h : ordN x y < 0) : x ≠ y := fun e => by
 subst e
 rw [ordN_self hx] at h
 omega
theorem IsSet.nodup {l : List S24} (h : IsSet l) : l.Nodup := List.Pairwise.imp_of_mem (fun hx _ hxy => ordN_ne (h.good _ hx) hxy) h.lt
theorem IsSet.nil : IsSet [] := ⟨fun x h => by (cases h), fun x h => by (cases h), List.Pairwise.nil⟩
theorem IsSet.tail {x : S24} {l : List S24} (h : IsSet (x :: l)) : IsSet l := ⟨fun y hy => h.good y (List.mem_cons_of_mem _ hy), fun y hy => h.may y (List.mem_cons_of_mem _ hy), (List.pairwise_cons.1 h.lt).2⟩
theorem IsSet.ext : ∀ {l m : List S24}, IsSet l → IsSet m → (∀ x, x ∈ l ↔ x ∈ m) → l = m
 | [], [], _, _, _ => rfl
 | [], y :: m, _, _, h => absurd ((h y).2 List.mem_cons_self) (by simp)
 | x :: l, [], _, _, h => absurd ((h x).1 List.mem_cons_self) (by simp)
 | x :: l, y :: m, hl, hm, h => by
  have gx := hl.good x List.mem_cons_self
  have gy := hm.good y List.mem_cons_self
  have e : x = y := by
   rcases List.mem_cons.1 ((h x).1 List.mem_cons_self) with e | e
   ·exact e
   ·rcases List.mem_cons.1 ((h y).2 List.mem_cons_self) with e2 | e2
    ·exact e2.symm
    ·have h1 := (List.pairwise_cons.1 hm.lt).1 x e
     have h2 := (List.pairwise_cons.1 hl.lt).1 y e2
     have := ordN_to.sym x y gx gy
     omega
  subst e
  have hx1 : x ∉ l := (List.nodup_cons.1 hl.nodup).1
  have hx2 : x ∉ m := (List.nodup_cons.1 hm.nodup).1
  rw [IsSet.ext hl.tail hm.tail (fun z => ⟨fun hz => by
   rcases List.mem_cons.1 ((h z).1 (List.mem_cons_of_mem _ hz)) with e | e
   ·subst e; exact absurd hz hx1
   ·exact e, fun hz => by
   rcases List.mem_cons.1 ((h z).2 (List.mem_cons_of_mem _ hz)) with e | e
   ·subst e; exact absurd hz hx2
   ·exact e⟩)]
theorem IsSet.filter {l : List S24} (h : IsSet l) (p : S24 → Bool) : IsSet (l.filter p) :=
 ⟨fun x hx => h.good x (List.mem_filter.1 hx).1, fun x hx => h.may x (List.mem_filter.1 hx).1, h.lt.filter p⟩
def rwithN (l : List S24) (t : S24) : List S24 := l.filter (fun x => decide (ordN x t < 0)) ++ [t] ++ l.filter (fun x => decide (ordN t x < 0))
theorem mem_rwithN {l : List S24} {t : S24} (hg : ∀ x ∈ l, GoodN x) (gt : GoodN t) (x : S24) : x ∈ rwithN l t ↔ x ∈ l ∨ x = t := by
 unfold rwithN
 simp only [List.mem_append, List.mem_filter, List.mem_singleton, decide_eq_true_eq]
 constructor
 ·rintro ((h | h) | h)
  ·exact Or.inl h.1
  ·exact Or.inr h
  ·exact Or.inl h.1
 ·rintro (h | h)
  ·have h1 := ordN_to.sym x t (hg x h) gt
   have h2 := ordN_to.eq x t (hg x h) gt
   rcases ordN_to.tri x t with e | e | e
   ·exact Or.inl (Or.inl ⟨h, by omega⟩)
   ·exact Or.inl (Or.inr (h2.1 e))
   ·exact Or.inr ⟨h, by omega⟩
  ·exact Or.inl (Or.inr h)
theorem rwithN_set {l : List S24} {t : S24} (h : IsSet l) (gt : GoodN t) (mt : mayN t = true) : IsSet (rwithN l t) := by
 refine ⟨fun x hx => ?_, fun x hx => ?_, ?_⟩
 ·rcases (mem_rwithN h.good gt x).1 hx with e | e
  ·exact h.good x e
  ·subst e; exact gt
 ·rcases (mem_rwithN h.good gt x).1 hx with e | e
  ·exact h.may x e
  ·subst e; exact mt
 ·unfold rwithN
  rw [List.pairwise_append, List.pairwise_append]
  refine ⟨⟨h.lt.filter _, List.pairwise_singleton _ _, fun a ha b hb => ?_⟩, h.lt.filter _, fun a ha b hb => ?_⟩
  ·simp only [List.mem_singleton] at hb
   subst hb
   exact of_decide_eq_true (List.mem_filter.1 ha).2
  ·have hb1 := List.mem_filter.1 hb
   have hb2 : ordN t b < 0 := of_decide_eq_true hb1.2
   rcases List.mem_append.1 ha with ha | ha
   ·have ha1 := List.mem_filter.1 ha
    exact ordN_to.tr a t b (h.good a ha1.1) gt (h.good b hb1.1) (of_decide_eq_true ha1.2) hb2
   ·simp only [List.mem_singleton] at ha
    subst ha
    exact hb2
def rsetN (l : List S24) : List S24 := l.foldl rwithN []
theorem rsetN_facts (l : List S24) (ht : ∀ x ∈ l, TinyN x) (hm : ∀ x ∈ l, mayN x = true) : ∀ (acc : List S24), IsSet acc → IsSet (l.foldl rwithN acc) ∧ ∀ x, x ∈ l.foldl rwithN acc ↔ x ∈ acc ∨ x ∈ l := by
 induction l with
 | nil => intro acc h; exact ⟨h, fun x => by simp⟩
 | cons y r ih =>
  intro acc h
  have my := hm y List.mem_cons_self
  have gy := mayN_good (ht y List.mem_cons_self) my
  rw [List.foldl_cons]
  have h2 := ih (fun x hx => ht x (List.mem_cons_of_mem _ hx)) (fun x hx => hm x (List.mem_cons_of_mem _ hx)) _ (rwithN_set h gy my)
  refine ⟨h2.1, fun x => (h2.2 x).trans ?_⟩
  rw [mem_rwithN h.good gy, List.mem_cons, or_assoc]
def minL : List S24 → S24
 | [] => z24
 | x :: r => r.foldl (fun m y => if ordN y m < 0 then y else m) x
theorem minL_snoc (l : List S24) (h : l ≠ []) (y : S24) : minL (l ++ [y]) = if ordN y (minL l) < 0 then y else minL l := by
 cases l with
 | nil => exact absurd rfl h
 | cons x r => unfold minL; simp only [List.cons_append]; rw [List.foldl_append]; rfl
theorem minL_mem : ∀ (l : List S24), l ≠ [] → minL l ∈ l := by
 have h : ∀ (r : List S24) (x : S24), r.foldl (fun m y => if ordN y m < 0 then y else m) x ∈ x :: r := by
  intro r
  induction r with
  | nil => intro x; exact List.mem_cons_self
  | cons y r ih =>
   intro x
   rw [List.foldl_cons]
   split
   ·exact List.mem_cons_of_mem _ (ih y)
   ·rcases List.mem_cons.1 (ih x) with e | e
    ·rw [e]; exact List.mem_cons_self
    ·exact List.mem_cons_of_mem _ (List.mem_cons_of_mem _ e)
 intro l hl
 cases l with
 | nil => exact absurd rfl hl
 | cons x r => exact h r x
theorem whyorder_val (k : Nat) (x y : S24) (hx : Brief x) (hy : Brief y) (mx : mayN x = true) (my : mayN y = true) (hk : 500 ≤ k) : why_order.f k x.f0 x.f1 y.f0 y.f1 = some (ordN x y) := by
 unfold why_order.f
 rw [node_Cmp_val k x y hx hy hk]
 unfold cmpM
 rw [mx, my]
 rfl
theorem bel_on {W0 W W2 : World} {R : Prop} (h : Below W0.heap.size W0 W ∧ R) (hb : Below W.heap.size W W2) : Below W0.heap.size W0 W2 := h.1.trans (hb.mono h.1.size)
set_option maxHeartbeats 8000000 in
set_option maxRecDepth 100000 in
theorem minF_calls (A0 : Option Addr) (c0 : Nat) (l0 : List S24) (w : World) (hr0 : Kd.C k24 w A0 l0.length l0) (hl0 : l0.length ≤ 65536) (hb : ∀ x ∈ l0, Brief x ∧ mayN x = true) (hne : l0 ≠ []) :
 Calls Tryz.prog 26 #[.slice A0 l0.length c0, .func (.func 24) #[] #[]] w fun e w' => e = .returned (.agg #[.string (minL l0).f0, .string (minL l0).f1]) ∧ Below w.heap.size w w' := by
 have hu24 := Tryz.underlying24
 have HR0 := Aside0.mk hr0
 have HBB := Aside0.mk hb
 have hpos : 0 < l0.length := List.length_pos_iff.2 hne
 have hl1 : (l0.length : Int) ≤ 65536 := by omega
 have hp1 : decide (((l0.length : Nat) : Int) < 1) = false := decide_eq_false (by omega)
 have hp2 : (0 : Int) < ((l0.length : Nat) : Int) := by omega
 obtain ⟨ad, e0, hx0, hx1⟩ := at_T24 hr0 0 (by omega) (by omega)
 have hrd : rd_T24 l0 0 = l0[0] := by simp [rd_T24, List.getD_eq_getElem?_getD, List.getElem?_eq_getElem hpos]
 have ea : ad.add (Int.toNat 0 * 2) = ad := by show ad.add 0 = ad; unfold Addr.add; split <;> simp_all
 rw [hrd, ea] at hx0 hx1
 cases e0
 have y0 := fun o => Lib.cell?_alloc_some (W := w) o hx0
 have y1 := fun o => Lib.cell?_alloc_some (W := w) o hx1
 have hb0 := World.block_lt_of_cell? w _ hx0
 have hb1 := World.block_lt_of_cell? w _ hx1
 have hfirst : l0[0] = minL (l0.take 1) := by
  cases l0 with
  | nil => exact absurd rfl hne
  | cons x r => rfl
 have HF := Aside0.mk hfirst
 have HNE := Aside0.mk hne
 clear hr0 hb hrd hfirst hne hx0 hx1 ea
 go_enter Tryz.func26, Tryz.ntmps26
 go_wp2_with fail
 have HF2 := HF.out
 have HK4 : Aside0 (((w.alloc (.cells #[.string ⟨#[]⟩, .string ⟨#[]⟩] 24 (0, 0))).alloc (.cells #[.string l0[0].f0, .string l0[0].f1] 24 (0, 0))).heap[w.heap.size]? = some (.cells #[.string ⟨#[]⟩, .string ⟨#[]⟩] 24 (0, 0))) := ⟨blk_alloc (blk_new _ _) _⟩
 have HK5 : Aside0 (((w.alloc (.cells #[.string ⟨#[]⟩, .string ⟨#[]⟩] 24 (0, 0))).alloc (.cells #[.string l0[0].f0, .string l0[0].f1] 24 (0, 0))).heap[w.heap.size + 1]? = some (.cells #[.string (minL (l0.take 1)).f0, .string (minL (l0.take 1)).f1] 24 (0, 0))) := ⟨by rw [← HF2]; have h9 := blk_new (w.alloc (.cells #[.string ⟨#[]⟩, .string ⟨#[]⟩] 24 (0, 0))) (.cells #[.string l0[0].f0, .string l0[0].f1] 24 (0, 0)); simpa using h9⟩
 have HB0 : Aside0 (Below w.heap.size w ((w.alloc (.cells #[.string ⟨#[]⟩, .string ⟨#[]⟩] 24 (0, 0))).alloc (.cells #[.string l0[0].f0, .string l0[0].f1] 24 (0, 0)))) := ⟨below_alloc (below_alloc (Below.refl _ _) _) _⟩
 clear HF2 y0 y1 HF
 go_loopw [6] (fun v6 wr => ∃ i : Nat, 1 ≤ i ∧ i ≤ l0.length ∧ v6 = .int .i64 (i : Int) ∧ Aside0 (wr.heap[w.heap.size]? = some (.cells #[.string ⟨#[]⟩, .string ⟨#[]⟩] 24 (0, 0))) ∧ Aside0 (wr.heap[w.heap.size + 1]? = some (.cells #[.string (minL (l0.take i)).f0, .string (minL (l0.take i)).f1] 24 (0, 0))) ∧ Aside0 (Below w.heap.size w wr)) (fun v6 _ => l0.length - (RowKit.intOf v6).toNat)
 case atStart => exact ⟨1, by omega, by omega, rfl, HK4, HK5, HB0⟩
 case round =>
  clear HK4 HK5 HB0
  obtain ⟨i, hi1, hi, rfl, HK4, HK5, HB⟩ := hrel
  obtain ⟨m, hm⟩ : ∃ m, m = minL (l0.take i) := ⟨_, rfl⟩
  have hk5 := HK5.out
  rw [← hm] at hk5
  have HK6 := Aside0.mk hk5
  clear hk5 HK5
  have c0_ := (blk_cell HK6.out 0).trans rfl
  have c1_ := (blk_cell HK6.out 1).trans rfl
  have z0 : wr.cell? ⟨w.heap.size + 1, 0, none⟩ = some (.string m.f0) := c0_
  have z1 : wr.cell? ⟨w.heap.size + 1, 1, none⟩ = some (.string m.f1) := c1_
  have f0_ := blk_frozen HK6.out 0
  have f1_ := blk_frozen HK6.out 1
  have hlt5 := blk_lt HK6.out
  clear c0_ c1_
  by_cases hil : i < l0.length
  ·have j1 : (i : Int) < (l0.length : Int) := by omega
   have hdi : decide ((i : Int) < (l0.length : Int)) = true := decide_eq_true j1
   obtain ⟨x, hx⟩ : ∃ x, x = l0[i] := ⟨_, rfl⟩
   have hmem : x ∈ l0 := by rw [hx]; exact List.getElem_mem hil
   have htne : l0.take i ≠ [] := fun h => by have := congrArg List.length h; rw [List.length_take, List.length_nil] at this; omega
   have hmm : m ∈ l0 := by rw [hm]; exact List.mem_of_mem_take (minL_mem _ htne)
   obtain ⟨ad2, e0, hx0, hx1⟩ := at_T24 HR0.out (i : Int) (by omega) (by omega)
   have hrd : rd_T24 l0 (i : Int) = x := by rw [hx]; simp [rd_T24, List.getD_eq_getElem?_getD, List.getElem?_eq_getElem hil]
   rw [hrd, Int.toNat_natCast] at hx0 hx1
   injection e0 with e0
   subst e0
   replace hx0 := (HB.out.cell (World.block_lt_of_cell? w _ hx0)).trans hx0
   replace hx1 := (HB.out.cell (World.block_lt_of_cell? w _ hx1)).trans hx1
   have hq := whyorder_val 500 x m (HBB.out x hmem).1 (HBB.out m hmm).1 (HBB.out x hmem).2 (HBB.out m hmm).2 (Nat.le_refl _)
   have hnext : minL (l0.take (i + 1)) = if ordN x m < 0 then x else m := by
    rw [List.take_succ_eq_append_getElem hil, minL_snoc _ htne, ← hm, ← hx]
   obtain ⟨cv, hcv⟩ : ∃ cv, cv = ordN x m := ⟨_, rfl⟩
   rw [← hcv] at hq hnext
   have CO := fun w => why_order.calls 500 x.f0 x.f1 m.f0 m.f1 cv w hq
   have HNX := Aside0.mk hnext
   have hb2 := World.block_lt_of_cell? wr _ hx0
   have hb3 := World.block_lt_of_cell? wr _ hx1
   have KS : ∀ w', Below wr.heap.size wr w' → (fun w' => Below wr.heap.size wr w' ∧ w'.cell? (ad.add (i * 2)) = some (.string x.f0) ∧ w'.cell? ⟨(ad.add (i * 2)).block, (ad.add (i * 2)).off + 1, none⟩ = some (.string x.f1) ∧ w'.cell? ⟨w.heap.size + 1, 0, none⟩ = some (.string m.f0) ∧ w'.cell? ⟨w.heap.size + 1, 1, none⟩ = some (.string m.f1)) w' := fun w' h =>
    ⟨h, (h.cell hb2).trans hx0, (h.cell hb3).trans hx1, (h.cell (p := ⟨w.heap.size + 1, 0, none⟩) hlt5).trans z0, (h.cell (p := ⟨w.heap.size + 1, 1, none⟩) hlt5).trans z1⟩
   have HMM := Aside0.mk hm
   clear hx hrd hq hnext hcv hmem hmm htne hx0 hx1 z0 z1 f0_ f1_ hm
   go_wp2_with fail
   go_region_held3 (fun w' => Below wr.heap.size wr w' ∧ w'.cell? (ad.add (i * 2)) = some (.string x.f0) ∧ w'.cell? ⟨(ad.add (i * 2)).block, (ad.add (i * 2)).off + 1, none⟩ = some (.string x.f1) ∧ w'.cell? ⟨w.heap.size + 1, 0, none⟩ = some (.string m.f0) ∧ w'.cell? ⟨w.heap.size + 1, 1, none⟩ = some (.string m.f1))
    (first
     | exact KS _ (below_drew (Below.refl _ _))
     | exact KS _ (bel_on (by assumption) hb9)
     | exact KS _ (And.left ‹Below wr.heap.size wr _ ∧ _›))
    (first
     | (go_at_call 24; with_reducible refine (CO _).mono ?_; rintro e w'' ⟨rfl, hb9⟩))
   have HB9 := Aside0.mk (And.left ‹Below wr.heap.size wr w'' ∧ _›)
   have hx0 := (And.left (And.right ‹Below wr.heap.size wr w'' ∧ _›))
   have hx1 := (And.left (And.right (And.right ‹Below wr.heap.size wr w'' ∧ _›)))
   have z0 := (And.left (And.right (And.right (And.right ‹Below wr.heap.size wr w'' ∧ _›))))
   have z1 := (And.right (And.right (And.right (And.right ‹Below wr.heap.size wr w'' ∧ _›))))
   rename_i hHeldZ
   clear hHeldZ hb9 KS
   have HK8 := Aside0.mk (blk_below HK6.out HB9.out)
   have HK7 := Aside0.mk (blk_below HK4.out HB9.out)
   have f0_ := blk_frozen HK8.out 0
   have f1_ := blk_frozen HK8.out 1
   have HB10 : Aside0 (Below w.heap.size w w'') := ⟨HB.out.trans (HB9.out.mono HB.out.size)⟩
   by_cases hc : cv < 0
   ·have hcd : decide (cv < 0) = true := decide_eq_true hc
    have HN2 : Aside0 (minL (l0.take (i + 1)) = x) := ⟨by rw [HNX.out, if_pos hc]⟩
    go_wp2
    go_roundw
    case rel => exact ⟨i + 1, by omega, by omega, by go_num, ⟨blk_far (blk_far HK7.out (by show w.heap.size ≠ w.heap.size + 1; omega) _) (by show w.heap.size ≠ w.heap.size + 1; omega) _⟩, ⟨by rw [HN2.out]; exact blk_set (blk_set HK8.out 0 _) 1 _⟩, ⟨below_set (below_set HB10.out (by omega)) (by omega)⟩⟩
    case measure => simp [RowKit.intOf]; omega
   ·have hcd : decide (cv < 0) = false := decide_eq_false hc
    have HN2 : Aside0 (minL (l0.take (i + 1)) = m) := ⟨by rw [HNX.out, if_neg hc]⟩
    go_wp2
    go_roundw
    case rel => exact ⟨i + 1, by omega, by omega, by go_num, HK7, ⟨by rw [HN2.out]; exact HK8.out⟩, HB10⟩
    case measure => simp [RowKit.intOf]; omega
  ·obtain rfl : i = l0.length := by omega
   have hdi : decide ((l0.length : Int) < (l0.length : Int)) = false := decide_eq_false (by omega)
   rw [List.take_length] at hm
   subst hm
   have y0 : wr.cell? ⟨w.heap.size, 0, none⟩ = some (.string ⟨#[]⟩) := (blk_cell HK4.out 0).trans rfl
   have y1 : wr.cell? ⟨w.heap.size, 1, none⟩ = some (.string ⟨#[]⟩) := (blk_cell HK4.out 1).trans rfl
   have g0_ := blk_frozen HK4.out 0
   have g1_ := blk_frozen HK4.out 1
   go_wp2
   refine bodyPost_ret (results_cell_row rfl _ _ w.heap.size 24 #[.string (minL l0).f0, .string (minL l0).f1] (0, 0) _ rfl (blk_set (blk_set HK4.out 0 _) 1 _) Tryz.underlying24 rfl (by kernel_rfl)) rfl ?_
   exact ⟨rfl, below_set (below_set HB.out (Nat.le_refl _)) (Nat.le_refl _)⟩
end Go.Proofs.YtodkjmbmlobihaaGreatDoor.Q
end
section
namespace Go.Proofs.YtodkjmbmlobihaaGreatDoor.Q
open Go.Proofs.YtodkjmbmlobihaaGreatDoor.QB.D
open Go Go.RowKit Go.Maps Go.Lib Go.Proofs.YtodkjmbmlobihaaGreatDoorW.PrintWords Go.Proofs.YtodkjmbmlobihaaGreatDoorW.PrintLast Go.Proofs.YtodkjmbmlobihaaGreatDoorW.PrintMore Gw
set_option linter.unusedVariables false
set_option linter.unusedSimpArgs false
set_option maxRecDepth 100000
theorem laid_all : laidOutB Tryz.prog = true := by kernel_rfl
theorem keyt_node : Tryz.prog.keyTypeAt 3 24 = true := by kernel_rfl
theorem keyr_node : 24 < Tryz.prog.types.size := Nat.le_of_ble_eq_true (by kernel_rfl)
theorem wide_node : (match Tryz.prog.underlying 24 with | some (.array _ _) | some (.struct _) => true | _ => false) = true := by kernel_rfl
theorem law_node : Keyed Tryz.prog 24 := Keyed.of_law (deep_law_laid laid_all (m := 3) (by omega) keyr_node keyt_node wide_node)
def nkey (x : S24) : Lit := .string (keyBytes [.string x.f0.data.toList, .string x.f1.data.toList])
theorem keyOf_node (x : S24) (hs : x.f0.size ≤ maxLen) (ht : x.f1.size ≤ maxLen) : keyOf Tryz.prog 24 (.agg #[.string x.f0, .string x.f1]) = some (nkey x) := by
 unfold keyOf
 rw [Tryz.underlying24]
 have h1 : Tryz.prog.keyType 24 = true := by kernel_rfl
 have h2 : Tryz.prog.cellsOf 24 = 2 := by kernel_rfl
 have h3 : Tryz.prog.cellsOf 9 = 1 := by kernel_rfl
 obtain ⟨m, h4⟩ : ∃ m, Tryz.prog.types.size = m + 1 := ⟨Tryz.prog.types.size - 1, by have := keyr_node; omega⟩
 have u9 := Tryz.underlying9
 rw [h4]
 simp [h1, Value.formed, Tryz.underlying24, h2, Program.keyLits, h3, u9, Value.cells, hs, ht, nkey]
abbrev NS (x : S24) : Prop := x.f0.size ≤ maxLen ∧ x.f1.size ≤ maxLen
theorem nkey_inj {x y : S24} (hx : NS x) (hy : NS y) : nkey x = nkey y ↔ x = y := by
 refine ⟨fun h => ?_, fun h => by rw [h]⟩
 have e1 := keyOf_node x hx.1 hx.2
 have e2 := keyOf_node y hy.1 hy.2
 rw [← h] at e2
 have e := keyOf_inj_deep (tiled_of_laidOut laid_all 3 _ (by
  simp only [isVar, Bool.and_eq_true, decide_eq_true_eq]
  refine ⟨keyr_node, ?_⟩
  simp [Tryz.underlying24, kindOk]) keyt_node) wide_node e1 e2
 simp only [Value.agg.injEq] at e
 cases x; cases y
 simpa using e
theorem nkey_lit (x : S24) : WideAt.IsKeyLit (nkey x) := by unfold nkey; simp [WideAt.IsKeyLit]
end Go.Proofs.YtodkjmbmlobihaaGreatDoor.Q
end
