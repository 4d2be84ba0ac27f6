/- Part 11 of this claim: several texts one behind the other: DFnodeorder, Br, FpathElements, FpathMay, FnodeMay, NDef, LOne, LRd, LFew, NMayV, PSet, NAhead, NSets, NKey, NSet, Sort, NSort, NSetF. What each shows stands in its theorems; conditions: sizes of texts and lists, as the functions' definitions say. -/
import Derived.Test.YtffjkbbmnfnbaaaGreatDoorMTallyChange6
import Derived.Test.YtffjkbbmnfnbaaaGreatDoorMTallyChange8
import Derived.Test.YtffjkbbmnfnbaaaGreatDoorMTallyChange10
import Derived.Test.YtffjkbbmnfnbaaaGreatDoorMTallyChange7
import Derived.RegionTactic
import Derived.BigRegion
import Derived.Deep.QuietTactic
import Derived.BigQuiet
import Derived.Deep.RegionHeld3
import Derived.ChangeAlike
import Derived.Maps.OwnSet
import Derived.Maps.AppendAt
import Derived.DeepKeys4
import Derived.Shelf.SlSortCmp.NoneTotal
import Derived.Ground.SlsfProg
import Derived.Test.YtffjkbbmnfnbaaaGreatDoorProg
section
namespace Go.Proofs.YtffjkbbmnfnbaaaGreatDoor.QB.D
open Go.Proofs.YtffjkbbmnfnbaaaGreatDoor.Q
open Go.RowKit Go.Proofs.YtffjkbbmnfnbaaaGreatDoorW.PrintWords Go.Proofs.YtffjkbbmnfnbaaaGreatDoorW.PrintLast Go.Proofs.YtffjkbbmnfnbaaaGreatDoorW.PrintMore
attribute [local go_sem] max2_int min2_int max_two min_two max_three min_three max_four min_four   -- for this text's walks alone
set_option linter.unusedVariables false
set_option linter.unusedSimpArgs false
attribute [local go_sem high] eqA36
def node_order.f (k : Nat) (a0_0 : ByteArray) (a0_1 : ByteArray) (a1_0 : ByteArray) (a1_1 : ByteArray) : Option (Int) := if (a0_0.toList == a1_0.toList && (a0_1.toList == a1_1.toList)) = true then (some 0) else ((version_Cmp.f a0_1 a1_1).bind fun bt216 => ((octet_Cmp.f a0_0 a1_0).bind fun t218 => ((cmp_Or_int.f k (([t218, bt216.1] : List Int))).bind fun t222 => (some t222))))
set_option maxHeartbeats 8000000 in
set_option maxRecDepth 100000 in
theorem node_order.calls (k : Nat) (a0_0 : ByteArray) (a0_1 : ByteArray) (a1_0 : ByteArray) (a1_1 : ByteArray) (r : Int) (w : World) (h : node_order.f k a0_0 a0_1 a1_0 a1_1 = some r) :
 Calls Tryz.prog 61 #[.agg #[.string a0_0, .string a0_1], .agg #[.string a1_0, .string a1_1]] w fun e w' => e = .returned (.int .i64 r) ∧ Below w.heap.size w w' := by
 have hu36 := Tryz.underlying36
 have HB := Aside0.mk (Below.refl w.heap.size w)
 have H : (if (a0_0.toList == a1_0.toList && (a0_1.toList == a1_1.toList)) = true then (some 0) else ((version_Cmp.f a0_1 a1_1).bind fun bt216 => ((octet_Cmp.f a0_0 a1_0).bind fun t218 => ((cmp_Or_int.f k (([t218, bt216.1] : List Int))).bind fun t222 => (some t222))))) = some r := h
 clear h
 by_cases c3 : (a0_0.toList == a1_0.toList && (a0_1.toList == a1_1.toList)) = true
 ·rw [if_pos c3] at H
  have c3b0 : (a0_0.toList == a1_0.toList && (a0_1.toList == a1_1.toList)) = true := c3
  (try (have c3b1 : decide (a0_0.toList = a1_0.toList && (a0_1.toList == a1_1.toList)) = true := by simpa using c3))
  (try (have c3b2 : (a0_0.toList == a1_0.toList && (a0_1.toList == a1_1.toList)) = true := by simpa using c3))
  clear c3
  obtain rfl := Option.some.inj H
  go_enter Tryz.func61, Tryz.ntmps61
  go_wp2_with (first | ((with_reducible refine gate_dst (N := 2) rfl ?_); refine box_event ?hg (N := 2) ?hd (cs := #[.string a0_0, .string a0_1]) (t := 36) ?hr ?_; (case hd => rfl); (case hg => rfl); (case hr => first | (go_simp; done) | (go_simp; rfl)); intro gb214 hg w4 hbox hb; have n0_ := Aside0.mk (below_step (by repeat (first | (with_reducible first | exact HB.out | apply below_alloc | apply pw_below_drewN | apply below_drew1) | exact HB.out)) hb); have n1_ := Aside0.mk (hbox); have n2_ := Aside0.mk ((by rw [hg]; exact (below_size (by repeat (first | (with_reducible first | exact HB.out | apply below_alloc | apply pw_below_drewN | apply below_drew1) | exact HB.out))) : w.heap.size ≤ gb214)); have n3_ := Aside0.mk ((by rw [hg]; exact (below_size (by repeat (first | (with_reducible first | exact HB.out | apply below_alloc | apply pw_below_drewN | apply below_drew1) | exact HB.out))) : w.heap.size ≤ gb214)); clear HB; have HB := n0_; have BK214 := n1_; have GW214 := n2_; have GE214 := n3_; clear n0_ n1_ n2_ n3_; clear hb hbox hg) | ((with_reducible refine gate_dst (N := 3) rfl ?_); refine box_event ?hg (N := 3) ?hd (cs := #[.string a1_0, .string a1_1]) (t := 36) ?hr ?_; (case hd => rfl); (case hg => rfl); (case hr => first | (go_simp; done) | (go_simp; rfl)); intro gb215 hg w5 hbox hb; have n0_ := Aside0.mk (blk_below (g := gb214) (o := .cells #[.string a0_0, .string a0_1] 36 (0, 0)) (by (with_reducible repeat (first | refine blk_drewN ?_ _ | refine blk_drew ?_ | refine blk_alloc ?_ _)); exact BK214.out) hb); have n1_ := Aside0.mk (below_step (by repeat (first | (with_reducible first | exact HB.out | apply below_alloc | apply pw_below_drewN | apply below_drew1 | refine below_set ?_ GE214.out) | exact HB.out)) hb); have n2_ := Aside0.mk (hbox); have n3_ := Aside0.mk ((by rw [hg]; exact (below_size (by repeat (first | (with_reducible first | exact HB.out | apply below_alloc | apply pw_below_drewN | apply below_drew1 | refine below_set ?_ GE214.out) | exact HB.out))) : w.heap.size ≤ gb215)); have n4_ := Aside0.mk ((by rw [hg]; exact (below_size (by repeat (first | (with_reducible first | exact HB.out | apply below_alloc | apply pw_below_drewN | apply below_drew1 | refine below_set ?_ GE214.out) | exact HB.out))) : w.heap.size ≤ gb215)); have n5_ := Aside0.mk ((by rw [hg]; exact Nat.ne_of_lt (blk_lt (g := gb214) (o := .cells #[.string a0_0, .string a0_1] 36 (0, 0)) (by (with_reducible repeat (first | refine blk_drewN ?_ _ | refine blk_drew ?_ | refine blk_alloc ?_ _)); exact BK214.out)) : gb214 ≠ gb215)); have n6_ := Aside0.mk ((by rw [hg]; exact Nat.ne_of_gt (blk_lt (g := gb214) (o := .cells #[.string a0_0, .string a0_1] 36 (0, 0)) (by (with_reducible repeat (first | refine blk_drewN ?_ _ | refine blk_drew ?_ | refine blk_alloc ?_ _)); exact BK214.out)) : gb215 ≠ gb214)); clear BK214; clear HB; have BK214 := n0_; have HB := n1_; have BK215 := n2_; have GW215 := n3_; have GE215 := n4_; have NB214_215 := n5_; have NB215_214 := n6_; clear n0_ n1_ n2_ n3_ n4_ n5_ n6_; clear hb hbox hg; have hnb6 := NB214_215.out; have hnc6 := NB215_214.out; have hcz7_0 : w5.cell? ⟨gb214, 0, none⟩ = some (.string a0_0) := (blk_cell BK214.out 0).trans rfl; have hcz7_1 : w5.cell? ⟨gb214, 1, none⟩ = some (.string a0_1) := (blk_cell BK214.out 1).trans rfl; have hfz7_0 := blk_frozen BK214.out 0; have hfz7_1 := blk_frozen BK214.out 1; have hcz8_0 : w5.cell? ⟨gb215, 0, none⟩ = some (.string a1_0) := (blk_cell BK215.out 0).trans rfl; have hcz8_1 : w5.cell? ⟨gb215, 1, none⟩ = some (.string a1_1) := (blk_cell BK215.out 1).trans rfl; have hfz8_0 := blk_frozen BK215.out 0; have hfz8_1 := blk_frozen BK215.out 1))
  go_ret
  exact ⟨by first | rfl | (simp [errW_none, errW_some] <;> rfl) | (simp [*, errW_none, errW_some] <;> rfl), by repeat (first | (with_reducible first | exact HB.out | apply below_alloc | apply pw_below_drewN | apply below_drew1 | refine below_set ?_ GE214.out | refine below_set ?_ GE215.out) | exact HB.out)⟩
 ·rw [if_neg c3] at H
  have c3b0 : (a0_0.toList == a1_0.toList && (a0_1.toList == a1_1.toList)) = false := by simpa using c3
  (try (have c3b1 : decide (a0_0.toList = a1_0.toList && (a0_1.toList == a1_1.toList)) = false := by simpa using c3))
  (try (have c3b2 : (a0_0.toList == a1_0.toList && (a0_1.toList == a1_1.toList)) = false := by simpa using c3))
  (try (have c3b3 : ¬ (a0_0.toList = a1_0.toList && (a0_1.toList == a1_1.toList)) := by simpa using c3))
  clear c3
  replace H := Option.bind_eq_some_iff.mp H
  obtain ⟨⟨t216, t217⟩, A90, H⟩ := H
  replace H : ((octet_Cmp.f a0_0 a1_0).bind fun t218 => ((cmp_Or_int.f k (([t218, t216] : List Int))).bind fun t222 => (some t222))) = some r := H
  have A9 := Aside0.mk A90
  clear A90
  replace H := Option.bind_eq_some_iff.mp H
  obtain ⟨t218, A100, H⟩ := H
  replace H : ((cmp_Or_int.f k (([t218, t216] : List Int))).bind fun t222 => (some t222)) = some r := H
  have A10 := Aside0.mk A100
  clear A100
  obtain ⟨y219, hy219⟩ : ∃ y_ : List Int, y_ = (([t218, t216] : List Int)) := ⟨_, rfl⟩
  replace H : ((cmp_Or_int.f k y219).bind fun t222 => (some t222)) = some r := by first | (rw [hy219]; with_reducible exact H) | (have H2_ := (Option.bind_some _ _).symm.trans H; rw [hy219]; with_reducible exact H2_) | (have H2_ := (Option.bind_some _ _).symm.trans H; with_reducible exact H2_) | with_reducible exact H | (rw [hy219]; exact H) | exact H
  have Ny219 := Aside0.mk hy219
  clear hy219
  replace H := Option.bind_eq_some_iff.mp H
  obtain ⟨t222, A110, H⟩ := H
  replace H : (some t222) = some r := H
  have A11 := Aside0.mk A110
  clear A110
  obtain rfl := Option.some.inj H
  go_enter Tryz.func61, Tryz.ntmps61
  go_wp2_with (first | ((with_reducible refine gate_dst (N := 2) rfl ?_); refine box_event ?hg (N := 2) ?hd (cs := #[.string a0_0, .string a0_1]) (t := 36) ?hr ?_; (case hd => rfl); (case hg => rfl); (case hr => first | (go_simp; done) | (go_simp; rfl)); intro gb214 hg w12 hbox hb; have n0_ := Aside0.mk (below_step (by repeat (first | (with_reducible first | exact HB.out | apply below_alloc | apply pw_below_drewN | apply below_drew1) | exact HB.out)) hb); have n1_ := Aside0.mk (hbox); have n2_ := Aside0.mk ((by rw [hg]; exact (below_size (by repeat (first | (with_reducible first | exact HB.out | apply below_alloc | apply pw_below_drewN | apply below_drew1) | exact HB.out))) : w.heap.size ≤ gb214)); have n3_ := Aside0.mk ((by rw [hg]; exact (below_size (by repeat (first | (with_reducible first | exact HB.out | apply below_alloc | apply pw_below_drewN | apply below_drew1) | exact HB.out))) : w.heap.size ≤ gb214)); clear HB; have HB := n0_; have BK214 := n1_; have GW214 := n2_; have GE214 := n3_; clear n0_ n1_ n2_ n3_; clear hb hbox hg) | ((with_reducible refine gate_dst (N := 3) rfl ?_); refine box_event ?hg (N := 3) ?hd (cs := #[.string a1_0, .string a1_1]) (t := 36) ?hr ?_; (case hd => rfl); (case hg => rfl); (case hr => first | (go_simp; done) | (go_simp; rfl)); intro gb215 hg w13 hbox hb; have n0_ := Aside0.mk (blk_below (g := gb214) (o := .cells #[.string a0_0, .string a0_1] 36 (0, 0)) (by (with_reducible repeat (first | refine blk_drewN ?_ _ | refine blk_drew ?_ | refine blk_alloc ?_ _)); exact BK214.out) hb); have n1_ := Aside0.mk (below_step (by repeat (first | (with_reducible first | exact HB.out | apply below_alloc | apply pw_below_drewN | apply below_drew1 | refine below_set ?_ GE214.out) | exact HB.out)) hb); have n2_ := Aside0.mk (hbox); have n3_ := Aside0.mk ((by rw [hg]; exact (below_size (by repeat (first | (with_reducible first | exact HB.out | apply below_alloc | apply pw_below_drewN | apply below_drew1 | refine below_set ?_ GE214.out) | exact HB.out))) : w.heap.size ≤ gb215)); have n4_ := Aside0.mk ((by rw [hg]; exact (below_size (by repeat (first | (with_reducible first | exact HB.out | apply below_alloc | apply pw_below_drewN | apply below_drew1 | refine below_set ?_ GE214.out) | exact HB.out))) : w.heap.size ≤ gb215)); have n5_ := Aside0.mk ((by rw [hg]; exact Nat.ne_of_lt (blk_lt (g := gb214) (o := .cells #[.string a0_0, .string a0_1] 36 (0, 0)) (by (with_reducible repeat (first | refine blk_drewN ?_ _ | refine blk_drew ?_ | refine blk_alloc ?_ _)); exact BK214.out)) : gb214 ≠ gb215)); have n6_ := Aside0.mk ((by rw [hg]; exact Nat.ne_of_gt (blk_lt (g := gb214) (o := .cells #[.string a0_0, .string a0_1] 36 (0, 0)) (by (with_reducible repeat (first | refine blk_drewN ?_ _ | refine blk_drew ?_ | refine blk_alloc ?_ _)); exact BK214.out)) : gb215 ≠ gb214)); clear BK214; clear HB; have BK214 := n0_; have HB := n1_; have BK215 := n2_; have GW215 := n3_; have GE215 := n4_; have NB214_215 := n5_; have NB215_214 := n6_; clear n0_ n1_ n2_ n3_ n4_ n5_ n6_; clear hb hbox hg; have hnb14 := NB214_215.out; have hnc14 := NB215_214.out; have hcz15_0 : w13.cell? ⟨gb214, 0, none⟩ = some (.string a0_0) := (blk_cell BK214.out 0).trans rfl; have hcz15_1 : w13.cell? ⟨gb214, 1, none⟩ = some (.string a0_1) := (blk_cell BK214.out 1).trans rfl; have hfz15_0 := blk_frozen BK214.out 0; have hfz15_1 := blk_frozen BK214.out 1; have hcz16_0 : w13.cell? ⟨gb215, 0, none⟩ = some (.string a1_0) := (blk_cell BK215.out 0).trans rfl; have hcz16_1 : w13.cell? ⟨gb215, 1, none⟩ = some (.string a1_1) := (blk_cell BK215.out 1).trans rfl; have hfz16_0 := blk_frozen BK215.out 0; have hfz16_1 := blk_frozen BK215.out 1) | ((with_reducible refine gate_callee (f := 70) rfl ?_); refine goesL_ (some 15) rfl rfl Tryz.func70 (by kernel_rfl) rfl #[.string a0_1, .string a1_1] rfl (by (try simp only [List.map_toArray, List.map_cons, List.map_nil]); first | done | rfl | (simp only [List.length_drop, List.length_take]; rfl)) ?_; (with_reducible refine (version_Cmp.calls a0_1 a1_1 t216 t217 _ A9.out).mono ?_); rintro e w17 ⟨rfl, hb⟩; refine ⟨_, rfl, ?_⟩; have n0_ := Aside0.mk (blk_below (g := gb214) (o := .cells #[.string a0_0, .string a0_1] 36 (0, 0)) (by (with_reducible repeat (first | refine blk_drewN ?_ _ | refine blk_drew ?_ | refine blk_alloc ?_ _)); exact BK214.out) hb); have n1_ := Aside0.mk (blk_below (g := gb215) (o := .cells #[.string a1_0, .string a1_1] 36 (0, 0)) (by (with_reducible repeat (first | refine blk_drewN ?_ _ | refine blk_drew ?_ | refine blk_alloc ?_ _)); exact BK215.out) hb); have n2_ := Aside0.mk (below_step (by repeat (first | (with_reducible first | exact HB.out | apply below_alloc | apply pw_below_drewN | apply below_drew1 | refine below_set ?_ GE214.out | refine below_set ?_ GE215.out) | exact HB.out)) hb); clear BK214; clear BK215; clear HB; have BK214 := n0_; have BK215 := n1_; have HB := n2_; clear n0_ n1_ n2_; (try clear hb); (try clear hb2); (try clear hk); (try clear hi); have hcz18_0 : w17.cell? ⟨gb214, 0, none⟩ = some (.string a0_0) := (blk_cell BK214.out 0).trans rfl; have hcz18_1 : w17.cell? ⟨gb214, 1, none⟩ = some (.string a0_1) := (blk_cell BK214.out 1).trans rfl; have hfz18_0 := blk_frozen BK214.out 0; have hfz18_1 := blk_frozen BK214.out 1; have hcz19_0 : w17.cell? ⟨gb215, 0, none⟩ = some (.string a1_0) := (blk_cell BK215.out 0).trans rfl; have hcz19_1 : w17.cell? ⟨gb215, 1, none⟩ = some (.string a1_1) := (blk_cell BK215.out 1).trans rfl; have hfz19_0 := blk_frozen BK215.out 0; have hfz19_1 := blk_frozen BK215.out 1) | ((with_reducible refine gate_callee (f := 51) rfl ?_); refine goesL_ (some 22) rfl rfl Tryz.func51 (by kernel_rfl) rfl #[.string a0_0, .string a1_0] rfl (by (try simp only [List.map_toArray, List.map_cons, List.map_nil]); first | done | rfl | (simp only [List.length_drop, List.length_take]; rfl)) ?_; (with_reducible refine (octet_Cmp.calls a0_0 a1_0 t218 _ A10.out).mono ?_); rintro e w' ⟨rfl, ⟨nd, rfl⟩⟩; refine ⟨_, rfl, ?_⟩) | ((with_reducible refine gate_dst (N := 24) rfl ?_); refine Kd.R_lit (Kd.int .i64) _ 3 ?hg (N := 24) ?hd (xs := ([t218, t216] : List Int)) (inner := [.int .i64 t218, .int .i64 t216]) (ok := fun _ => True) (okp := fun _ => True) ?hr ?hp (fun _ hk => hk) trivial (Below.refl _ _) (Nat.le_refl _) (by simp) ?_; (case hd => rfl); (case hg => rfl); (case hr => first | (go_simp; done) | (go_simp; rfl)); (case hp => exact (Reps.one (show Kd.M (Kd.int .i64) _ _ _ t218 [.int .i64 t218] from rfl) (Reps.one (show Kd.M (Kd.int .i64) _ _ _ t216 [.int .i64 t216] from rfl) (Reps.none _ _)))); intro v220 w20 ho21 hb hg_ hnew_; clear hg_ hnew_; (first | rw [← Ny219.out] at ho21 | (simp only [Int.reduceToNat] at ho21; rw [← Ny219.out] at ho21)); have n0_ := Aside0.mk (Kd.R_lower ho21 (below_size (by repeat (first | (with_reducible first | exact HB.out | apply below_alloc | apply pw_below_drewN | apply below_drew1 | refine below_set ?_ GE214.out | refine below_set ?_ GE215.out) | exact HB.out)))); have n1_ := Aside0.mk (blk_below (g := gb214) (o := .cells #[.string a0_0, .string a0_1] 36 (0, 0)) (by (with_reducible repeat (first | refine blk_drewN ?_ _ | refine blk_drew ?_ | refine blk_alloc ?_ _)); exact BK214.out) hb); have n2_ := Aside0.mk (blk_below (g := gb215) (o := .cells #[.string a1_0, .string a1_1] 36 (0, 0)) (by (with_reducible repeat (first | refine blk_drewN ?_ _ | refine blk_drew ?_ | refine blk_alloc ?_ _)); exact BK215.out) hb); have n3_ := Aside0.mk (below_step (by repeat (first | (with_reducible first | exact HB.out | apply below_alloc | apply pw_below_drewN | apply below_drew1 | refine below_set ?_ GE214.out | refine below_set ?_ GE215.out) | exact HB.out)) hb); clear BK214; clear BK215; clear HB; have HO221 := n0_; have BK214 := n1_; have BK215 := n2_; have HB := n3_; clear n0_ n1_ n2_ n3_; clear hb ho21; obtain ⟨Ao22, co22, eo22⟩ := Kd.R_slice HO221.out; subst eo22) | ((with_reducible refine gate_callee (f := 83) rfl ?_); refine goesL_ (some 25) rfl rfl Tryz.func83 (by kernel_rfl) rfl #[.slice Ao22 y219.length co22] rfl (by (try simp only [List.map_toArray, List.map_cons, List.map_nil]); first | done | rfl | (simp only [List.length_drop, List.length_take]; rfl)) ?_; (with_reducible refine (cmp_Or_int.calls k _ _ y219 t222 _ ?side1 ?side2 A11.out).mono ?_); (case side1 => repeat (first | exact (Kd.R_reads' HO221.out).2.2 | (with_reducible refine Kd.C_alloc ?_ _) | (with_reducible refine Kd.C_drewN ?_ _) | (with_reducible refine Kd.C_drew ?_))); (case side2 => exact (Kd.R_reads' HO221.out).2.1); rintro e w' ⟨rfl, ⟨nd, rfl⟩⟩; refine ⟨_, rfl, ?_⟩))
  go_ret
  exact ⟨by first | rfl | (simp [errW_none, errW_some] <;> rfl) | (simp [*, errW_none, errW_some] <;> rfl), by repeat (first | (with_reducible first | exact HB.out | apply below_alloc | apply pw_below_drewN | apply below_drew1 | refine below_set ?_ GE214.out | refine below_set ?_ GE215.out) | exact HB.out)⟩
end Go.Proofs.YtffjkbbmnfnbaaaGreatDoor.QB.D
end
section
namespace Go.Proofs.YtffjkbbmnfnbaaaGreatDoor.Q
open Go.RowKit Go.Proofs.YtffjkbbmnfnbaaaGreatDoorW.PrintWords Go.Proofs.YtffjkbbmnfnbaaaGreatDoorW.PrintLast Go.Proofs.YtffjkbbmnfnbaaaGreatDoorW.PrintMore Go.Proofs.YtffjkbbmnfnbaaaGreatDoor.QB.D
theorem octet_Parts.calls (a0 : ByteArray) (a1 : Int) (r : List ByteArray) (w : World) (h : octet_Parts.f a0 a1 = some r) : Calls Tryz.prog 84 #[.string a0, .int .u8 a1] w fun e w' => ∃ v, e = .returned v ∧ Kd.R Kd.string 9 w' w.heap.size (fun _ => True) v r ∧ Below w.heap.size w w' :=
 (QB.D.octet_Parts.calls a0 a1 r w h).mono fun _ _ ⟨v, h1, h2, h3⟩ => ⟨v, h1, h2, h3.toBelow⟩
theorem octet_All.calls (a0 : ByteArray) (A0 : Option Addr) (c0 : Nat) (l0 : List Int) (r : Bool) (w : World) (hr0 : Kd.C (Kd.int .i64) w A0 l0.length l0) (hc0 : l0.length ≤ c0) (h : octet_All.f a0 l0 = some r) :
 Calls Tryz.prog 115 #[.string a0, .slice A0 l0.length c0] w fun e w' => e = .returned (.bool r) ∧ Below w.heap.size w w' :=
 (QB.D.octet_All.calls a0 A0 c0 l0 r w hr0 hc0 h).mono fun _ _ h => ⟨h.1, h.2.toBelow⟩
theorem path_element.calls (a0 : ByteArray) (r : Bool) (w : World) (h : path_element.f a0 = some r) : Calls Tryz.prog 85 #[.string a0] w fun e w' => e = .returned (.bool r) ∧ Below w.heap.size w w' :=
 (QB.D.path_element.calls a0 r w h).mono fun _ _ h => ⟨h.1, h.2.toBelow⟩
theorem number_May.calls (a0 : ByteArray) (r : Bool) (w : World) (h : number_May.f a0 = some r) :
 Calls Tryz.prog 94 #[.string a0] w fun e w' => e = .returned (.bool r) ∧ Below w.heap.size w w' :=
 (QB.D.number_May.calls a0 r w h).mono fun _ _ h => ⟨h.1, h.2.toBelow⟩
theorem number_Cmp.calls (k : Nat) (a0 : ByteArray) (a1 : ByteArray) (r1 : Int) (r2 : Int) (w : World) (h : number_Cmp.f k a0 a1 = some (r1, r2)) :
 Calls Tryz.prog 110 #[.string a0, .string a1] w fun e w' => e = .returned (.tuple #[.int .i64 r1, .int .i64 r2]) ∧ Below w.heap.size w w' :=
 (QB.D.number_Cmp.calls k a0 a1 r1 r2 w h).mono fun _ _ h => ⟨h.1, h.2.toBelow⟩
theorem version_numbers.calls (k : Nat) (a0 : ByteArray) (a1 : ByteArray) (r : Int) (w : World) (h : version_numbers.f k a0 a1 = some r) :
 Calls Tryz.prog 87 #[.string a0, .string a1] w fun e w' => e = .returned (.int .i64 r) ∧ Below w.heap.size w w' :=
 (QB.D.version_numbers.calls k a0 a1 r w h).mono fun _ _ h => ⟨h.1, h.2.toBelow⟩
theorem version_words.calls (k : Nat) (a0 : ByteArray) (a1 : ByteArray) (r : Int) (w : World) (h : version_words.f k a0 a1 = some r) :
 Calls Tryz.prog 89 #[.string a0, .string a1] w fun e w' => e = .returned (.int .i64 r) ∧ Below w.heap.size w w' :=
 (QB.D.version_words.calls k a0 a1 r w h).mono fun _ _ h => ⟨h.1, h.2.toBelow⟩
theorem version_Split.calls (a0 : ByteArray) (r1 : ByteArray) (r2 : ByteArray) (r3 : ByteArray) (r4 : List ByteArray) (r5 : Int) (w : World) (h : version_Split.f a0 = some (r1, r2, r3, r4, r5)) :
 Calls Tryz.prog 76 #[.string a0] w fun e w' => ∃ v3_ : Value, e = .returned (.tuple #[.agg #[.string r1, .string r2, .string r3, v3_], .int .i64 r5]) ∧ Kd.R Kd.string 9 w' w.heap.size (fun _ => True) v3_ r4 ∧ Below w.heap.size w w' :=
 (QB.D.version_Split.calls a0 r1 r2 r3 r4 r5 w h).mono fun _ _ ⟨v, h1, h2, h3⟩ => ⟨v, h1, h2, h3.toBelow⟩
theorem version_Cmp.calls (a0 a1 : ByteArray) (r1 r2 : Int) (w : World) (h : version_Cmp.f a0 a1 = some (r1, r2)) :
 Calls Tryz.prog 70 #[.string a0, .string a1] w fun e w' => e = .returned (.tuple #[.int .i64 r1, .int .i64 r2]) ∧ Below w.heap.size w w' :=
 (QB.D.version_Cmp.calls a0 a1 r1 r2 w h).mono fun _ _ h => ⟨h.1, h.2.toBelow⟩
theorem node_order.calls (k : Nat) (a0_0 : ByteArray) (a0_1 : ByteArray) (a1_0 : ByteArray) (a1_1 : ByteArray) (r : Int) (w : World) (h : node_order.f k a0_0 a0_1 a1_0 a1_1 = some r) :
 Calls Tryz.prog 61 #[.agg #[.string a0_0, .string a0_1], .agg #[.string a1_0, .string a1_1]] w fun e w' => e = .returned (.int .i64 r) ∧ Below w.heap.size w w' :=
 (QB.D.node_order.calls k a0_0 a0_1 a1_0 a1_1 r w h).mono fun _ _ h => ⟨h.1, h.2.toBelow⟩
theorem version_May.calls (a0 : ByteArray) (r : Bool) (w : World) (h : version_May.f a0 = some r) :
 Calls Tryz.prog 52 #[.string a0] w fun e w' => e = .returned (.bool r) ∧ Below w.heap.size w w' :=
 (QB.D.version_May.calls a0 r w h).mono fun _ _ h => ⟨h.1, h.2.toBelow⟩
end Go.Proofs.YtffjkbbmnfnbaaaGreatDoor.Q
end
section
namespace Go.Proofs.YtffjkbbmnfnbaaaGreatDoor.Q
open Go.Proofs.YtffjkbbmnfnbaaaGreatDoor.QB.D
open Go.RowKit Go.Proofs.YtffjkbbmnfnbaaaGreatDoorW.PrintWords Go.Proofs.YtffjkbbmnfnbaaaGreatDoorW.PrintLast Go.Proofs.YtffjkbbmnfnbaaaGreatDoorW.PrintMore
attribute [local go_sem] max2_int min2_int max_two min_two max_three min_three max_four min_four   -- for this text's walks alone
set_option linter.unusedVariables false
set_option linter.unusedSimpArgs false
def path_Elements.l0 : Nat → List ByteArray → List ByteArray → Int → Int → Option (List ByteArray × Int)
 | 0, _, _, _, _ => none
 | k + 1, x4, x9, x10, x11 => if x11 < x10 then (if 0 ≤ x11 then (if x11 < (x9.length : Int) then ((path_element.f (rdOf ByteArray.empty x9 x11)).bind fun t174 => (if t174 = true then (path_Elements.l0 k x4 x9 x10 (wrap64 (x11 + 1))) else (some (([] : List ByteArray), 1)))) else (none)) else (none)) else (some (x4, 0))
def path_Elements.f (k : Nat) (a0 : ByteArray) : Option (List ByteArray × Int) := (octet_Parts.f a0 47).bind fun t170 => (path_Elements.l0 k t170 t170 (t170.length : Int) 0)
set_option maxHeartbeats 8000000 in
set_option maxRecDepth 100000 in
theorem path_Elements.calls (k : Nat) (a0 : ByteArray) (r1 : List ByteArray) (r2 : Int) (w : World) (h : path_Elements.f k a0 = some (r1, r2)) :
 Calls Tryz.prog 62 #[.string a0] w fun e w' => ∃ v0_ : Value, e = .returned (.tuple #[v0_, .int .i64 r2]) ∧ Kd.R Kd.string 9 w' w.heap.size (fun _ => True) v0_ r1 ∧ Below w.heap.size w w' := by
 have HB := Aside0.mk (Below.refl w.heap.size w)
 have H : ((octet_Parts.f a0 47).bind fun t170 => (path_Elements.l0 k t170 t170 (t170.length : Int) 0)) = some (r1, r2) := h
 clear h
 replace H := Option.bind_eq_some_iff.mp H
 obtain ⟨t170, A20, H⟩ := H
 replace H : (path_Elements.l0 k t170 t170 (t170.length : Int) 0) = some (r1, r2) := H
 have A2 := Aside0.mk A20
 clear A20
 have H' := Aside0.mk H
 clear H
 go_enter Tryz.func62, Tryz.ntmps62
 go_wp2_with (first | ((with_reducible refine gate_callee (f := 84) rfl ?_); refine goesL_ (some 8) rfl rfl Tryz.func84 (by kernel_rfl) rfl #[.string a0, .int .u8 47] rfl (by (try simp only [List.map_toArray, List.map_cons, List.map_nil]); first | done | rfl | (simp only [List.length_drop, List.length_take]; rfl)) ?_; (with_reducible refine (octet_Parts.calls a0 47 t170 _ A2.out).mono ?_); rintro e w3 ⟨v171, rfl, ho0, hb⟩; refine ⟨_, rfl, ?_⟩; have n0_ := Aside0.mk (Kd.R_lower ho0 (below_size (by repeat (first | (with_reducible first | exact HB.out | apply below_alloc | apply pw_below_drewN | apply below_drew1) | exact HB.out)))); have n1_ := Aside0.mk (below_step (by repeat (first | (with_reducible first | exact HB.out | apply below_alloc | apply pw_below_drewN | apply below_drew1) | exact HB.out)) hb); clear HB; have HO172 := n0_; have HB := n1_; clear n0_ n1_; (try clear hb); (try clear hb2); (try clear hk); (try clear hi); (try clear ho0); obtain ⟨Ao4, co4, eo4⟩ := Kd.R_slice HO172.out; subst eo4))
 go_loopg [11] k (fun kq v11 w' => ∃ (x11_1 : Int), v11 = .int .i64 x11_1 ∧ Aside0 (path_Elements.l0 kq t170 t170 (t170.length : Int) x11_1 = some (r1, r2)) ∧ Aside0 (kq ≤ k) ∧ Aside0 (Kd.R Kd.string 9 w' w.heap.size (fun _ => True) (.slice Ao4 t170.length co4) t170) ∧ Aside0 (Kd.R Kd.string 9 w' w.heap.size (fun _ => True) (.slice Ao4 t170.length co4) t170) ∧ Aside0 (Below w.heap.size w w'))
 case atStart => exact ⟨(0), (by first | rfl | (simp; done) | (simp [*]; done)), H', ⟨Nat.le_refl _⟩, ⟨by (with_reducible repeat (first | apply Kd.R_alloc | apply Kd.R_drewN | apply Kd.R_drew)); exact HO172.out⟩, ⟨by (with_reducible repeat (first | apply Kd.R_alloc | apply Kd.R_drewN | apply Kd.R_drew)); exact HO172.out⟩, ⟨by repeat (first | (with_reducible first | exact HB.out | apply below_alloc | apply pw_below_drewN | apply below_drew1) | exact HB.out)⟩⟩
 case round =>
  clear H'
  try clear p2
  obtain ⟨x11_1, rfl, HA, HK1, HO_4, HO_9, HB⟩ := hrel
  cases gk with
  | zero => exact absurd HA.out (by simp [path_Elements.l0])
  | succ k1 =>
   have H := HA.out
   clear HA
   simp only [path_Elements.l0] at H
   by_cases c5 : x11_1 < (t170.length : Int)
   ·rw [if_pos c5] at H
    have c5b0 : decide (x11_1 < (t170.length : Int)) = true := decide_eq_true c5
    clear c5
    by_cases c6 : 0 ≤ x11_1
    ·rw [if_pos c6] at H
     have c6b0 : decide (0 ≤ x11_1) = true := decide_eq_true c6
     clear c6
     by_cases c7 : x11_1 < (t170.length : Int)
     ·rw [if_pos c7] at H
      have c7b0 : decide (x11_1 < (t170.length : Int)) = true := decide_eq_true c7
      clear c7
      replace H := Option.bind_eq_some_iff.mp H
      obtain ⟨t174, A80, H⟩ := H
      replace H : (if t174 = true then (path_Elements.l0 k1 t170 t170 (t170.length : Int) (wrap64 (x11_1 + 1))) else (some (([] : List ByteArray), 1))) = some (r1, r2) := H
      have A8 := Aside0.mk A80
      clear A80
      by_cases c9 : t174 = true
      ·subst c9
       have H1 : (path_Elements.l0 k1 t170 t170 (t170.length : Int) (wrap64 (x11_1 + 1))) = some (r1, r2) := by rw [if_pos rfl] at H; exact H
       clear H
       have H := H1
       clear H1
       have H' := Aside0.mk H
       clear H
       have p173 : 0 ≤ (x11_1 : Int) := of_decide_eq_true (by first | (with_reducible assumption) | assumption)
       have q173 : x11_1 < (t170.length : Int) := of_decide_eq_true (by first | (with_reducible assumption) | assumption)
       obtain ⟨ad173, e173, hx173_0⟩ := Kd.at_string (Kd.R_reads' HO_9.out).2.2 x11_1 p173 q173
       cases e173
       replace p173 := eq_true p173
       replace q173 := eq_true q173
       go_wp2_with (first | ((with_reducible refine gate_callee (f := 85) rfl ?_); refine goesL_ (some 16) rfl rfl Tryz.func85 (by kernel_rfl) rfl #[.string (rdOf ByteArray.empty t170 x11_1)] rfl (by (try simp only [List.map_toArray, List.map_cons, List.map_nil]); first | done | rfl | (simp only [List.length_drop, List.length_take]; rfl)) ?_; (with_reducible refine (path_element.calls (rdOf ByteArray.empty t170 x11_1) true _ A8.out).mono ?_); rintro e w10 ⟨rfl, hb⟩; refine ⟨_, rfl, ?_⟩; have n0_ := Aside0.mk (Kd.R_below (by (with_reducible repeat (first | apply Kd.R_alloc | apply Kd.R_drewN | apply Kd.R_drew)); exact HO_4.out) hb); have n1_ := Aside0.mk (Kd.R_below (by (with_reducible repeat (first | apply Kd.R_alloc | apply Kd.R_drewN | apply Kd.R_drew)); exact HO_9.out) hb); have n2_ := Aside0.mk (below_step (by repeat (first | (with_reducible first | exact HB.out | apply below_alloc | apply pw_below_drewN | apply below_drew1) | exact HB.out)) hb); clear HO_4; clear HO_9; clear HB; have HO_4 := n0_; have HO_9 := n1_; have HB := n2_; clear n0_ n1_ n2_; (try clear hb); (try clear hb2); (try clear hk); (try clear hi)))
       go_roundg k1
       case measure => have := HK1.out; omega
       case rel => exact ⟨(wrap64 (x11_1 + 1)), (by first | rfl | (simp; done) | (simp [*]; done)), H', ⟨by have := HK1.out; omega⟩, ⟨by (with_reducible repeat (first | apply Kd.R_alloc | apply Kd.R_drewN | apply Kd.R_drew)); exact HO_4.out⟩, ⟨by (with_reducible repeat (first | apply Kd.R_alloc | apply Kd.R_drewN | apply Kd.R_drew)); exact HO_9.out⟩, ⟨by repeat (first | (with_reducible first | exact HB.out | apply below_alloc | apply pw_below_drewN | apply below_drew1) | exact HB.out)⟩⟩
      ·replace c9 := Bool.eq_false_iff.mpr c9
       subst c9
       have H1 : (some (([] : List ByteArray), 1)) = some (r1, r2) := by rw [if_neg (show ¬ (false = true) by decide)] at H; exact H
       clear H
       have H := H1
       clear H1
       simp only [Option.some.injEq, Prod.mk.injEq] at H
       obtain ⟨rfl, rfl⟩ := H
       have p173 : 0 ≤ (x11_1 : Int) := of_decide_eq_true (by first | (with_reducible assumption) | assumption)
       have q173 : x11_1 < (t170.length : Int) := of_decide_eq_true (by first | (with_reducible assumption) | assumption)
       obtain ⟨ad173, e173, hx173_0⟩ := Kd.at_string (Kd.R_reads' HO_9.out).2.2 x11_1 p173 q173
       cases e173
       replace p173 := eq_true p173
       replace q173 := eq_true q173
       go_wp2_with (first | ((with_reducible refine gate_callee (f := 85) rfl ?_); refine goesL_ (some 16) rfl rfl Tryz.func85 (by kernel_rfl) rfl #[.string (rdOf ByteArray.empty t170 x11_1)] rfl (by (try simp only [List.map_toArray, List.map_cons, List.map_nil]); first | done | rfl | (simp only [List.length_drop, List.length_take]; rfl)) ?_; (with_reducible refine (path_element.calls (rdOf ByteArray.empty t170 x11_1) false _ A8.out).mono ?_); rintro e w11 ⟨rfl, hb⟩; refine ⟨_, rfl, ?_⟩; have n0_ := Aside0.mk (Kd.R_below (by (with_reducible repeat (first | apply Kd.R_alloc | apply Kd.R_drewN | apply Kd.R_drew)); exact HO_4.out) hb); have n1_ := Aside0.mk (Kd.R_below (by (with_reducible repeat (first | apply Kd.R_alloc | apply Kd.R_drewN | apply Kd.R_drew)); exact HO_9.out) hb); have n2_ := Aside0.mk (below_step (by repeat (first | (with_reducible first | exact HB.out | apply below_alloc | apply pw_below_drewN | apply below_drew1) | exact HB.out)) hb); clear HO_4; clear HO_9; clear HB; have HO_4 := n0_; have HO_9 := n1_; have HB := n2_; clear n0_ n1_ n2_; (try clear hb); (try clear hb2); (try clear hk); (try clear hi)))
       go_ret2
       exact ⟨_, by first | rfl | (simp [errW_none, errW_some] <;> rfl) | (simp [*, errW_none, errW_some] <;> rfl), by first | exact Kd.R_nil _ _ _ _ _ | exact Kd.N_nil _ _ _ _ _ | exact Kd.V_nil _ _ _ _ _ | exact Kd.Q_nil _ _ _ _ _ | exact Kd.S_nil _ _ _ _ _, by repeat (first | (with_reducible first | exact HB.out | apply below_alloc | apply pw_below_drewN | apply below_drew1) | exact HB.out)⟩
     ·rw [if_neg c7] at H
      exact absurd H (by simp)
    ·rw [if_neg c6] at H
     exact absurd H (by simp)
   ·rw [if_neg c5] at H
    have c5b0 : decide (x11_1 < (t170.length : Int)) = false := decide_eq_false c5
    clear c5
    simp only [Option.some.injEq, Prod.mk.injEq] at H
    obtain ⟨rfl, rfl⟩ := H
    go_wp2
    go_ret2
    exact ⟨_, by first | rfl | (simp [errW_none, errW_some] <;> rfl) | (simp [*, errW_none, errW_some] <;> rfl), by (with_reducible repeat (first | apply Kd.R_alloc | apply Kd.R_drewN | apply Kd.R_drew)); exact HO_4.out, by repeat (first | (with_reducible first | exact HB.out | apply below_alloc | apply pw_below_drewN | apply below_drew1) | exact HB.out)⟩
end Go.Proofs.YtffjkbbmnfnbaaaGreatDoor.Q
end
section
namespace Go.Proofs.YtffjkbbmnfnbaaaGreatDoor.Q
open Go.RowKit Go.Proofs.YtffjkbbmnfnbaaaGreatDoorW.PrintWords Go.Proofs.YtffjkbbmnfnbaaaGreatDoorW.PrintLast Go.Proofs.YtffjkbbmnfnbaaaGreatDoorW.PrintMore
attribute [local go_sem] max2_int min2_int max_two min_two max_three min_three max_four min_four   -- for this text's walks alone
set_option linter.unusedVariables false
set_option linter.unusedSimpArgs false
def path_May.f (k : Nat) (a0 : ByteArray) : Option (Bool) := (path_Elements.f k a0).bind fun bt175 => (some (bt175.2 == 0))
set_option maxHeartbeats 8000000 in
set_option maxRecDepth 100000 in
theorem path_May.calls (k : Nat) (a0 : ByteArray) (r : Bool) (w : World) (h : path_May.f k a0 = some r) :
 Calls Tryz.prog 35 #[.string a0] w fun e w' => e = .returned (.bool r) ∧ Below w.heap.size w w' := by
 have HB := Aside0.mk (Below.refl w.heap.size w)
 have H : ((path_Elements.f k a0).bind fun bt175 => (some (bt175.2 == 0))) = some r := h
 clear h
 replace H := Option.bind_eq_some_iff.mp H
 obtain ⟨⟨t175, t176⟩, A20, H⟩ := H
 replace H : (some (t176 == 0)) = some r := H
 have A2 := Aside0.mk A20
 clear A20
 obtain rfl := Option.some.inj H
 go_enter Tryz.func35, Tryz.ntmps35
 go_wp2_with (first | ((with_reducible refine gate_callee (f := 62) rfl ?_); refine goesL_ (some 7) rfl rfl Tryz.func62 (by kernel_rfl) rfl #[.string a0] rfl (by (try simp only [List.map_toArray, List.map_cons, List.map_nil]); first | done | rfl | (simp only [List.length_drop, List.length_take]; rfl)) ?_; (with_reducible refine (path_Elements.calls k a0 t175 t176 _ A2.out).mono ?_); rintro e w3 ⟨v177, rfl, ho0, hb⟩; refine ⟨_, rfl, ?_⟩; have n0_ := Aside0.mk (Kd.R_lower ho0 (below_size (by repeat (first | (with_reducible first | exact HB.out | apply below_alloc | apply pw_below_drewN | apply below_drew1) | exact HB.out)))); have n1_ := Aside0.mk (below_step (by repeat (first | (with_reducible first | exact HB.out | apply below_alloc | apply pw_below_drewN | apply below_drew1) | exact HB.out)) hb); clear HB; have HO178 := n0_; have HB := n1_; clear n0_ n1_; (try clear hb); (try clear hb2); (try clear hk); (try clear hi); (try clear ho0)))
 go_ret
 exact ⟨by first | rfl | (simp [errW_none, errW_some] <;> rfl) | (simp [*, errW_none, errW_some] <;> rfl), by repeat (first | (with_reducible first | exact HB.out | apply below_alloc | apply pw_below_drewN | apply below_drew1) | exact HB.out)⟩
end Go.Proofs.YtffjkbbmnfnbaaaGreatDoor.Q
end
section
namespace Go.Proofs.YtffjkbbmnfnbaaaGreatDoor.Q
open Go.Proofs.YtffjkbbmnfnbaaaGreatDoor.QB.D
open Go.RowKit Go.Proofs.YtffjkbbmnfnbaaaGreatDoorW.PrintWords Go.Proofs.YtffjkbbmnfnbaaaGreatDoorW.PrintLast Go.Proofs.YtffjkbbmnfnbaaaGreatDoorW.PrintMore
attribute [local go_sem] max2_int min2_int max_two min_two max_three min_three max_four min_four   -- for this text's walks alone
set_option linter.unusedVariables false
set_option linter.unusedSimpArgs false
def node_May.f (k : Nat) (a0_0 : ByteArray) (a0_1 : ByteArray) : Option (Bool) := (path_May.f k a0_0).bind fun t192 => (if t192 = true then ((version_May.f a0_1).bind fun t193 => (some t193)) else (some false))
set_option maxHeartbeats 8000000 in
set_option maxRecDepth 100000 in
theorem node_May.calls (k : Nat) (a0_0 : ByteArray) (a0_1 : ByteArray) (r : Bool) (w : World) (h : node_May.f k a0_0 a0_1 = some r) :
 Calls Tryz.prog 41 #[.agg #[.string a0_0, .string a0_1]] w fun e w' => e = .returned (.bool r) ∧ Below w.heap.size w w' := by
 have hu36 := Tryz.underlying36
 have HB := Aside0.mk (Below.refl w.heap.size w)
 have H : ((path_May.f k a0_0).bind fun t192 => (if t192 = true then ((version_May.f a0_1).bind fun t193 => (some t193)) else (some false))) = some r := h
 clear h
 replace H := Option.bind_eq_some_iff.mp H
 obtain ⟨t192, A20, H⟩ := H
 replace H : (if t192 = true then ((version_May.f a0_1).bind fun t193 => (some t193)) else (some false)) = some r := H
 have A2 := Aside0.mk A20
 clear A20
 by_cases c3 : t192 = true
 ·subst c3
  have H1 : ((version_May.f a0_1).bind fun t193 => (some t193)) = some r := by rw [if_pos rfl] at H; exact H
  clear H
  have H := H1
  clear H1
  replace H := Option.bind_eq_some_iff.mp H
  obtain ⟨t193, A40, H⟩ := H
  replace H : (some t193) = some r := H
  have A4 := Aside0.mk A40
  clear A40
  obtain rfl := Option.some.inj H
  go_enter Tryz.func41, Tryz.ntmps41
  go_wp2_with (first | ((with_reducible refine gate_dst (N := 1) rfl ?_); refine box_event ?hg (N := 1) ?hd (cs := #[.string a0_0, .string a0_1]) (t := 36) ?hr ?_; (case hd => rfl); (case hg => rfl); (case hr => first | (go_simp; done) | (go_simp; rfl)); intro gb191 hg w5 hbox hb; have n0_ := Aside0.mk (below_step (by repeat (first | (with_reducible first | exact HB.out | apply below_alloc | apply pw_below_drewN | apply below_drew1) | exact HB.out)) hb); have n1_ := Aside0.mk (hbox); have n2_ := Aside0.mk ((by rw [hg]; exact (below_size (by repeat (first | (with_reducible first | exact HB.out | apply below_alloc | apply pw_below_drewN | apply below_drew1) | exact HB.out))) : w.heap.size ≤ gb191)); have n3_ := Aside0.mk ((by rw [hg]; exact (below_size (by repeat (first | (with_reducible first | exact HB.out | apply below_alloc | apply pw_below_drewN | apply below_drew1) | exact HB.out))) : w.heap.size ≤ gb191)); clear HB; have HB := n0_; have BK191 := n1_; have GW191 := n2_; have GE191 := n3_; clear n0_ n1_ n2_ n3_; clear hb hbox hg; have hcz6_0 : w5.cell? ⟨gb191, 0, none⟩ = some (.string a0_0) := (blk_cell BK191.out 0).trans rfl; have hcz6_1 : w5.cell? ⟨gb191, 1, none⟩ = some (.string a0_1) := (blk_cell BK191.out 1).trans rfl; have hfz6_0 := blk_frozen BK191.out 0; have hfz6_1 := blk_frozen BK191.out 1) | ((with_reducible refine gate_callee (f := 35) rfl ?_); refine goesL_ (some 5) rfl rfl Tryz.func35 (by kernel_rfl) rfl #[.string a0_0] rfl (by (try simp only [List.map_toArray, List.map_cons, List.map_nil]); first | done | rfl | (simp only [List.length_drop, List.length_take]; rfl)) ?_; (with_reducible refine (path_May.calls k a0_0 true _ A2.out).mono ?_); rintro e w7 ⟨rfl, hb⟩; refine ⟨_, rfl, ?_⟩; have n0_ := Aside0.mk (blk_below (g := gb191) (o := .cells #[.string a0_0, .string a0_1] 36 (0, 0)) (by (with_reducible repeat (first | refine blk_drewN ?_ _ | refine blk_drew ?_ | refine blk_alloc ?_ _)); exact BK191.out) hb); have n1_ := Aside0.mk (below_step (by repeat (first | (with_reducible first | exact HB.out | apply below_alloc | apply pw_below_drewN | apply below_drew1 | refine below_set ?_ GE191.out) | exact HB.out)) hb); clear BK191; clear HB; have BK191 := n0_; have HB := n1_; clear n0_ n1_; (try clear hb); (try clear hb2); (try clear hk); (try clear hi); have hcz8_0 : w7.cell? ⟨gb191, 0, none⟩ = some (.string a0_0) := (blk_cell BK191.out 0).trans rfl; have hcz8_1 : w7.cell? ⟨gb191, 1, none⟩ = some (.string a0_1) := (blk_cell BK191.out 1).trans rfl; have hfz8_0 := blk_frozen BK191.out 0; have hfz8_1 := blk_frozen BK191.out 1) | (go_at_call 52; (with_reducible refine (version_May.calls a0_1 t193 _ A4.out).mono ?_); rintro e w9 ⟨rfl, hb⟩; have n0_ := Aside0.mk (blk_below (g := gb191) (o := .cells #[.string a0_0, .string a0_1] 36 (0, 0)) (by (with_reducible repeat (first | refine blk_drewN ?_ _ | refine blk_drew ?_ | refine blk_alloc ?_ _)); exact BK191.out) hb); have n1_ := Aside0.mk (below_step (by repeat (first | (with_reducible first | exact HB.out | apply below_alloc | apply pw_below_drewN | apply below_drew1 | refine below_set ?_ GE191.out) | exact HB.out)) hb); clear BK191; clear HB; have BK191 := n0_; have HB := n1_; clear n0_ n1_; (try clear hb); (try clear hb2); (try clear hk); (try clear hi)))
  go_ret
  exact ⟨by first | rfl | (simp [errW_none, errW_some] <;> rfl) | (simp [*, errW_none, errW_some] <;> rfl), by repeat (first | (with_reducible first | exact HB.out | apply below_alloc | apply pw_below_drewN | apply below_drew1 | refine below_set ?_ GE191.out) | exact HB.out)⟩
 ·replace c3 := Bool.eq_false_iff.mpr c3
  subst c3
  have H1 : (some false) = some r := by rw [if_neg (show ¬ (false = true) by decide)] at H; exact H
  clear H
  have H := H1
  clear H1
  obtain rfl := Option.some.inj H
  go_enter Tryz.func41, Tryz.ntmps41
  go_wp2_with (first | ((with_reducible refine gate_dst (N := 1) rfl ?_); refine box_event ?hg (N := 1) ?hd (cs := #[.string a0_0, .string a0_1]) (t := 36) ?hr ?_; (case hd => rfl); (case hg => rfl); (case hr => first | (go_simp; done) | (go_simp; rfl)); intro gb191 hg w10 hbox hb; have n0_ := Aside0.mk (below_step (by repeat (first | (with_reducible first | exact HB.out | apply below_alloc | apply pw_below_drewN | apply below_drew1) | exact HB.out)) hb); have n1_ := Aside0.mk (hbox); have n2_ := Aside0.mk ((by rw [hg]; exact (below_size (by repeat (first | (with_reducible first | exact HB.out | apply below_alloc | apply pw_below_drewN | apply below_drew1) | exact HB.out))) : w.heap.size ≤ gb191)); have n3_ := Aside0.mk ((by rw [hg]; exact (below_size (by repeat (first | (with_reducible first | exact HB.out | apply below_alloc | apply pw_below_drewN | apply below_drew1) | exact HB.out))) : w.heap.size ≤ gb191)); clear HB; have HB := n0_; have BK191 := n1_; have GW191 := n2_; have GE191 := n3_; clear n0_ n1_ n2_ n3_; clear hb hbox hg; have hcz11_0 : w10.cell? ⟨gb191, 0, none⟩ = some (.string a0_0) := (blk_cell BK191.out 0).trans rfl; have hcz11_1 : w10.cell? ⟨gb191, 1, none⟩ = some (.string a0_1) := (blk_cell BK191.out 1).trans rfl; have hfz11_0 := blk_frozen BK191.out 0; have hfz11_1 := blk_frozen BK191.out 1) | ((with_reducible refine gate_callee (f := 35) rfl ?_); refine goesL_ (some 5) rfl rfl Tryz.func35 (by kernel_rfl) rfl #[.string a0_0] rfl (by (try simp only [List.map_toArray, List.map_cons, List.map_nil]); first | done | rfl | (simp only [List.length_drop, List.length_take]; rfl)) ?_; (with_reducible refine (path_May.calls k a0_0 false _ A2.out).mono ?_); rintro e w12 ⟨rfl, hb⟩; refine ⟨_, rfl, ?_⟩; have n0_ := Aside0.mk (blk_below (g := gb191) (o := .cells #[.string a0_0, .string a0_1] 36 (0, 0)) (by (with_reducible repeat (first | refine blk_drewN ?_ _ | refine blk_drew ?_ | refine blk_alloc ?_ _)); exact BK191.out) hb); have n1_ := Aside0.mk (below_step (by repeat (first | (with_reducible first | exact HB.out | apply below_alloc | apply pw_below_drewN | apply below_drew1 | refine below_set ?_ GE191.out) | exact HB.out)) hb); clear BK191; clear HB; have BK191 := n0_; have HB := n1_; clear n0_ n1_; (try clear hb); (try clear hb2); (try clear hk); (try clear hi)))
  go_ret
  exact ⟨by first | rfl | (simp [errW_none, errW_some] <;> rfl) | (simp [*, errW_none, errW_some] <;> rfl), by repeat (first | (with_reducible first | exact HB.out | apply below_alloc | apply pw_below_drewN | apply below_drew1 | refine below_set ?_ GE191.out) | exact HB.out)⟩
end Go.Proofs.YtffjkbbmnfnbaaaGreatDoor.Q
end
section
namespace Go.Proofs.YtffjkbbmnfnbaaaGreatDoor.Q
open Go.Proofs.YtffjkbbmnfnbaaaGreatDoor.QB.D
open Go Go.RowKit Go.Lib Go.Proofs.YtffjkbbmnfnbaaaGreatDoorW.PrintWords Go.Proofs.YtffjkbbmnfnbaaaGreatDoorW.PrintLast Go.Proofs.YtffjkbbmnfnbaaaGreatDoorW.PrintMore Gw
set_option linter.unusedVariables false
set_option linter.unusedSimpArgs false
abbrev GoodN (x : S36) : Prop := Tiny x.f0 ∧ Tiny x.f1 ∧ isVersion (bs x.f1) = true
def np (x : S36) : NP := (bs x.f0, bs x.f1)
theorem np_inj {x y : S36} (h : np x = np y) : x = y := by
 cases x; cases y
 simp only [np, Prod.mk.injEq] at h
 rw [bs_inj h.1, bs_inj h.2]
def ordN (x y : S36) : Int := nodC (np x) (np y)
theorem ordN_to : TO GoodN ordN := by
 have h := nodC_to
 refine ⟨fun a b => h.tri _ _, fun a b ha hb => h.sym _ _ ha.2.2 hb.2.2, fun a b ha hb => ?_, fun a b d ha hb hd => h.tr _ _ _ ha.2.2 hb.2.2 hd.2.2⟩
 show nodC _ _ = 0 ↔ _
 rw [h.eq _ _ ha.2.2 hb.2.2]
 exact ⟨np_inj, fun e => by rw [e]⟩
theorem vparts_of {s : ByteArray} (h : isVersion (bs s) = true) : vparts (bs s) = some (vOf (bs s)) := by
 rw [← vparts_some] at h
 obtain ⟨v, hv⟩ := Option.isSome_iff_exists.1 h
 unfold vOf
 rw [hv]
 rfl
instance : DecidableEq S36 := fun a b => if h : a.f0 = b.f0 ∧ a.f1 = b.f1 then isTrue (by cases a; cases b; simp at h; rw [h.1, h.2]) else isFalse (fun e => h (by subst e; exact ⟨rfl, rfl⟩))
abbrev TinyN (x : S36) : Prop := Tiny x.f0 ∧ Tiny x.f1
def mayN (x : S36) : Bool := isNode (np x)
theorem mayN_good {x : S36} (hx : TinyN x) (hm : mayN x = true) : GoodN x := by
 unfold mayN isNode np at hm
 rw [Bool.and_eq_true] at hm
 exact ⟨hx.1, hx.2, hm.2⟩
def few (s : ByteArray) : ByteArray := if (s.size : Int) > 400 then s.extract 0 400 else s
theorem few_size (s : ByteArray) : (few s).size ≤ 400 := by
 unfold few
 split
 ·rw [ByteArray.size_extract]; omega
 ·omega
abbrev Brief (x : S36) : Prop := x.f0.size ≤ 400 ∧ x.f1.size ≤ 400
theorem Brief.tiny {x : S36} (h : Brief x) : TinyN x := by unfold TinyN Tiny; omega
def oneN (x : S36) : S36 := ⟨few x.f0, few x.f1⟩
theorem oneN_brief (x : S36) : Brief (oneN x) := ⟨few_size _, few_size _⟩
theorem elements_from (s : ByteArray) (hs : Tiny s) : ∀ (k i : Nat), ((parts 47 (bs s)).map ofB).length ≤ i + k → i ≤ ((parts 47 (bs s)).map ofB).length →
 path_Elements.l0 (k + 1) ((parts 47 (bs s)).map ofB) ((parts 47 (bs s)).map ofB) (((parts 47 (bs s)).map ofB).length : Int) (i : Int) = some (if ((parts 47 (bs s)).drop i).all isElem then ((parts 47 (bs s)).map ofB, 0) else ([], 1)) := by
 have hsm : Small s := by unfold Tiny at hs; unfold Small; omega
 obtain ⟨hl, hx⟩ := parts_small hsm 47
 have hlen : ((parts 47 (bs s)).map ofB).length = (parts 47 (bs s)).length := List.length_map _
 have hall : ∀ (i : Nat) (hi : i < (parts 47 (bs s)).length), path_element.f (((parts 47 (bs s)).map ofB)[i]'(by rw [hlen]; exact hi)) = some (isElem (parts 47 (bs s))[i]) := by
  intro i hi
  have h2 := hx (((parts 47 (bs s)).map ofB)[i]'(by rw [hlen]; exact hi)) (List.getElem_mem _)
  unfold path_element.f
  rw [if_pos (by unfold Tiny at *; omega), List.getElem_map, bs_ofB (parts_oct (bs_oct s) _ (List.getElem_mem hi))]
 intro k
 induction k with
 | zero =>
  intro i h1 h2
  have e : i = (parts 47 (bs s)).length := by omega
  subst e
  unfold path_Elements.l0
  rw [if_neg (by omega), List.drop_length]
  rfl
 | succ k ih =>
  intro i h1 h2
  unfold path_Elements.l0
  by_cases hi : i < (parts 47 (bs s)).length
  ·rw [if_pos (by omega), if_pos (by omega), if_pos (by omega)]
   have hr : rdOf ByteArray.empty ((parts 47 (bs s)).map ofB) (i : Int) = ((parts 47 (bs s)).map ofB)[i]'(by rw [hlen]; exact hi) := by
    simp [rdOf, List.getD_eq_getElem?_getD, List.getElem?_eq_getElem hi]
   rw [hr, hall i hi, List.drop_eq_getElem_cons hi, List.all_cons, Option.bind_some]
   cases he : isElem (parts 47 (bs s))[i]
   ·rfl
   ·rw [if_pos rfl, Bool.true_and, show wrap64 ((i : Int) + 1) = ((i + 1 : Nat) : Int) by unfold wrap64; unfold Tiny at hs; omega]
    exact ih (i + 1) (by omega) (by omega)
  ·have e : i = (parts 47 (bs s)).length := by omega
   rw [if_neg (by omega), List.drop_eq_nil_of_le (by omega)]
   rfl
theorem path_May_val (k : Nat) (s : ByteArray) (hs : Tiny s) (hk : s.size + 2 ≤ k) : path_May.f k s = some (isPath (bs s)) := by
 obtain ⟨j, rfl⟩ : ∃ j, k = j + 1 := ⟨k - 1, by omega⟩
 have hl := parts_len s 47
 unfold path_May.f path_Elements.f octet_Parts.f
 rw [if_pos ⟨hs, by decide, by decide⟩, Option.bind_some]
 have h := elements_from s hs j 0 (by omega) (Nat.zero_le _)
 rw [show (47 : Int).toNat = 47 from rfl, show ((0 : Nat) : Int) = 0 from rfl] at *
 rw [h, Option.bind_some, List.drop_zero]
 unfold isPath
 cases (parts 47 (bs s)).all isElem <;> rfl
theorem version_May_val (s : ByteArray) (hs : Tiny s) : version_May.f s = some (isVersion (bs s)) := by
 unfold version_May.f version_Split.f
 rw [if_pos hs, Option.bind_some, ← vparts_some]
 cases vparts (bs s) <;> rfl
theorem node_May_val (k : Nat) (x : S36) (hx : TinyN x) (hk : x.f0.size + 2 ≤ k) : node_May.f k x.f0 x.f1 = some (mayN x) := by
 unfold node_May.f
 rw [path_May_val k _ hx.1 hk, version_May_val _ hx.2]
 show _ = some (isPath (bs x.f0) && isVersion (bs x.f1))
 cases isPath (bs x.f0) <;> rfl
def ded (l : List S36) : List S36 := l.foldl (fun acc x => if x ∈ acc then acc else acc ++ [x]) []
theorem ded_snoc (l : List S36) (x : S36) : ded (l ++ [x]) = if x ∈ ded l then ded l else ded l ++ [x] := by
 unfold ded
 rw [List.foldl_append]
 rfl
theorem ded_take (l : List S36) (i : Nat) (hi : i < l.length) : ded (l.take (i + 1)) = if l[i] ∈ ded (l.take i) then ded (l.take i) else ded (l.take i) ++ [l[i]] := by
 rw [List.take_succ_eq_append_getElem hi, ded_snoc]
theorem ded_len (l : List S36) : ∀ i, i ≤ l.length → (ded (l.take i)).length ≤ i
 | 0, _ => by simp [ded]
 | i + 1, h => by
  have ih := ded_len l i (by omega)
  rw [ded_take l i (by omega)]
  split <;> simp <;> omega
theorem ded_mem (l : List S36) (x : S36) : ∀ i, i ≤ l.length → (x ∈ ded (l.take i) ↔ x ∈ l.take i)
 | 0, _ => by simp [ded]
 | i + 1, h => by
  have ih := ded_mem l x i (by omega)
  rw [ded_take l i (by omega), List.take_succ_eq_append_getElem (show i < l.length by omega), List.mem_append, List.mem_singleton]
  split
  ·rename_i hm
   rw [ih]
   refine ⟨Or.inl, fun h => h.elim id fun e => ?_⟩
   subst e
   have h2 := ded_mem l l[i] i (by omega)
   exact h2.1 hm
  ·rw [List.mem_append, List.mem_singleton, ih]
def insN (x : S36) : List S36 → List S36
 | [] => [x]
 | y :: r => if ordN x y ≤ 0 then x :: y :: r else y :: insN x r
def sortN (l : List S36) : List S36 := l.foldr insN []
theorem insN_perm (x : S36) : ∀ l, (insN x l).Perm (x :: l)
 | [] => List.Perm.refl _
 | y :: r => by
  unfold insN
  split
  ·exact List.Perm.refl _
  ·exact ((insN_perm x r).cons y).trans (List.Perm.swap x y r)
theorem sortN_perm : ∀ l, (sortN l).Perm l
 | [] => List.Perm.refl _
 | x :: l => (insN_perm x _).trans ((sortN_perm l).cons x)
theorem insN_sorted (x : S36) (hx : GoodN x) : ∀ l, (∀ y ∈ l, GoodN y) → l.Pairwise (fun x y => ordN x y ≤ 0) → (insN x l).Pairwise (fun x y => ordN x y ≤ 0)
 | [], _, _ => List.pairwise_singleton _ _
 | y :: r, hg, hp => by
  have gy := hg y List.mem_cons_self
  rw [List.pairwise_cons] at hp
  unfold insN
  split
  ·rename_i h
   refine List.pairwise_cons.2 ⟨fun z hz => ?_, List.pairwise_cons.2 hp⟩
   rcases List.mem_cons.1 hz with rfl | hz
   ·exact h
   ·exact (ordN_to.le x y z hx gy (hg z (List.mem_cons_of_mem _ hz)) h (hp.1 z hz)).1
  ·rename_i h
   refine List.pairwise_cons.2 ⟨fun z hz => ?_, insN_sorted x hx r (fun z hz => hg z (List.mem_cons_of_mem _ hz)) hp.2⟩
   rcases List.mem_cons.1 ((insN_perm x r).mem_iff.1 hz) with rfl | hz
   ·have := ordN_to.sym z y hx gy
    omega
   ·exact hp.1 z hz
theorem sortN_sorted : ∀ l, (∀ y ∈ l, GoodN y) → (sortN l).Pairwise (fun x y => ordN x y ≤ 0)
 | [], _ => List.Pairwise.nil
 | x :: l, hg => insN_sorted x (hg x List.mem_cons_self) _ (fun y hy => hg y (List.mem_cons_of_mem _ ((sortN_perm l).mem_iff.1 hy))) (sortN_sorted l (fun y hy => hg y (List.mem_cons_of_mem _ hy)))
def setN (l : List S36) : List S36 := sortN (ded l)
def ahead (l : List S36) (t : S36) : Nat := (l.filter (fun x => decide (ordN x t < 0))).length
structure IsSet (l : List S36) : Prop where
 good : ∀ x ∈ l, GoodN x
 may : ∀ x ∈ l, mayN x = true
 lt : l.Pairwise (fun x y => ordN x y < 0)
theorem ordN_self {x : S36} (h : GoodN x) : ordN x x = 0 := (ordN_to.eq x x h h).2 rfl
theorem ordN_ne {x y : S36} (hx : GoodN x) (h : ordN x y < 0) : x ≠ y := fun e => by
 subst e
 rw [ordN_self hx] at h
 omega
theorem IsSet.nodup {l : List S36} (h : IsSet l) : l.Nodup := List.Pairwise.imp_of_mem (fun hx _ hxy => ordN_ne (h.good _ hx) hxy) h.lt
theorem IsSet.nil : IsSet [] := ⟨fun x h => by (cases h), fun x h => by (cases h), List.Pairwise.nil⟩
theorem IsSet.tail {x : S36} {l : List S36} (h : IsSet (x :: l)) : IsSet l := ⟨fun y hy => h.good y (List.mem_cons_of_mem _ hy), fun y hy => h.may y (List.mem_cons_of_mem _ hy), (List.pairwise_cons.1 h.lt).2⟩
theorem IsSet.ext : ∀ {l m : List S36}, IsSet l → IsSet m → (∀ x, x ∈ l ↔ x ∈ m) → l = m
 | [], [], _, _, _ => rfl
 | [], y :: m, _, _, h => absurd ((h y).2 List.mem_cons_self) (by simp)
 | x :: l, [], _, _, h => absurd ((h x).1 List.mem_cons_self) (by simp)
 | x :: l, y :: m, hl, hm, h => by
  have gx := hl.good x List.mem_cons_self
  have gy := hm.good y List.mem_cons_self
  have e : x = y := by
   rcases List.mem_cons.1 ((h x).1 List.mem_cons_self) with e | e
   ·exact e
   ·rcases List.mem_cons.1 ((h y).2 List.mem_cons_self) with e2 | e2
    ·exact e2.symm
    ·have h1 := (List.pairwise_cons.1 hm.lt).1 x e
     have h2 := (List.pairwise_cons.1 hl.lt).1 y e2
     have := ordN_to.sym x y gx gy
     omega
  subst e
  have hx1 : x ∉ l := (List.nodup_cons.1 hl.nodup).1
  have hx2 : x ∉ m := (List.nodup_cons.1 hm.nodup).1
  rw [IsSet.ext hl.tail hm.tail (fun z => ⟨fun hz => by
   rcases List.mem_cons.1 ((h z).1 (List.mem_cons_of_mem _ hz)) with e | e
   ·subst e; exact absurd hz hx1
   ·exact e, fun hz => by
   rcases List.mem_cons.1 ((h z).2 (List.mem_cons_of_mem _ hz)) with e | e
   ·subst e; exact absurd hz hx2
   ·exact e⟩)]
theorem IsSet.filter {l : List S36} (h : IsSet l) (p : S36 → Bool) : IsSet (l.filter p) :=
 ⟨fun x hx => h.good x (List.mem_filter.1 hx).1, fun x hx => h.may x (List.mem_filter.1 hx).1, h.lt.filter p⟩
theorem mem_ded (l : List S36) (x : S36) : x ∈ ded l ↔ x ∈ l := by
 have h := ded_mem l x l.length (Nat.le_refl _)
 rwa [List.take_length] at h
theorem mem_setN (l : List S36) (x : S36) : x ∈ setN l ↔ x ∈ l := (sortN_perm _).mem_iff.trans (mem_ded l x)
theorem ded_nodup : ∀ (l : List S36), (ded l).Nodup := by
 intro l
 have h : ∀ (l acc : List S36), acc.Nodup → (l.foldl (fun acc x => if x ∈ acc then acc else acc ++ [x]) acc).Nodup := by
  intro l
  induction l with
  | nil => intro acc h; exact h
  | cons x r ih =>
   intro acc h
   rw [List.foldl_cons]
   refine ih _ ?_
   split
   ·exact h
   ·rename_i hx
    refine List.nodup_append.2 ⟨h, List.nodup_cons.2 ⟨by simp, List.nodup_nil⟩, fun a ha b hb => ?_⟩
    simp at hb
    subst hb
    intro e
    subst e
    exact hx ha
 exact h l [] List.nodup_nil
theorem setN_set {l : List S36} (ht : ∀ x ∈ l, TinyN x) (hm : ∀ x ∈ l, mayN x = true) : IsSet (setN l) := by
 have hg : ∀ x ∈ setN l, GoodN x := fun x hx => mayN_good (ht x ((mem_setN l x).1 hx)) (hm x ((mem_setN l x).1 hx))
 refine ⟨hg, fun x hx => hm x ((mem_setN l x).1 hx), ?_⟩
 have hnd : (setN l).Nodup := (sortN_perm _).nodup_iff.2 (ded_nodup l)
 have hs := sortN_sorted (ded l) (fun y hy => mayN_good (ht y ((mem_ded l y).1 hy)) (hm y ((mem_ded l y).1 hy)))
 refine List.Pairwise.imp_of_mem (fun hx hy h => ?_) (List.Pairwise.and hs hnd)
 have := ordN_to.eq _ _ (hg _ hx) (hg _ hy)
 rcases Int.lt_or_eq_of_le h.1 with h1 | h1
 ·exact h1
 ·exact absurd (this.1 h1) h.2
def rwithN (l : List S36) (t : S36) : List S36 := l.filter (fun x => decide (ordN x t < 0)) ++ [t] ++ l.filter (fun x => decide (ordN t x < 0))
theorem mem_rwithN {l : List S36} {t : S36} (hg : ∀ x ∈ l, GoodN x) (gt : GoodN t) (x : S36) : x ∈ rwithN l t ↔ x ∈ l ∨ x = t := by
 unfold rwithN
 simp only [List.mem_append, List.mem_filter, List.mem_singleton, decide_eq_true_eq]
 constructor
 ·rintro ((h | h) | h)
  ·exact Or.inl h.1
  ·exact Or.inr h
  ·exact Or.inl h.1
 ·rintro (h | h)
  ·have h1 := ordN_to.sym x t (hg x h) gt
   have h2 := ordN_to.eq x t (hg x h) gt
   rcases ordN_to.tri x t with e | e | e
   ·exact Or.inl (Or.inl ⟨h, by omega⟩)
   ·exact Or.inl (Or.inr (h2.1 e))
   ·exact Or.inr ⟨h, by omega⟩
  ·exact Or.inl (Or.inr h)
theorem rwithN_set {l : List S36} {t : S36} (h : IsSet l) (gt : GoodN t) (mt : mayN t = true) : IsSet (rwithN l t) := by
 refine ⟨fun x hx => ?_, fun x hx => ?_, ?_⟩
 ·rcases (mem_rwithN h.good gt x).1 hx with e | e
  ·exact h.good x e
  ·subst e; exact gt
 ·rcases (mem_rwithN h.good gt x).1 hx with e | e
  ·exact h.may x e
  ·subst e; exact mt
 ·unfold rwithN
  rw [List.pairwise_append, List.pairwise_append]
  refine ⟨⟨h.lt.filter _, List.pairwise_singleton _ _, fun a ha b hb => ?_⟩, h.lt.filter _, fun a ha b hb => ?_⟩
  ·simp only [List.mem_singleton] at hb
   subst hb
   exact of_decide_eq_true (List.mem_filter.1 ha).2
  ·have hb1 := List.mem_filter.1 hb
   have hb2 : ordN t b < 0 := of_decide_eq_true hb1.2
   rcases List.mem_append.1 ha with ha | ha
   ·have ha1 := List.mem_filter.1 ha
    exact ordN_to.tr a t b (h.good a ha1.1) gt (h.good b hb1.1) (of_decide_eq_true ha1.2) hb2
   ·simp only [List.mem_singleton] at ha
    subst ha
    exact hb2
end Go.Proofs.YtffjkbbmnfnbaaaGreatDoor.Q
end
section
namespace Go.Proofs.YtffjkbbmnfnbaaaGreatDoor.Q
open Go.Proofs.YtffjkbbmnfnbaaaGreatDoor.QB.D
open Go Go.RowKit Go.Maps Go.Lib Go.Proofs.YtffjkbbmnfnbaaaGreatDoorW.PrintWords Go.Proofs.YtffjkbbmnfnbaaaGreatDoorW.PrintLast Go.Proofs.YtffjkbbmnfnbaaaGreatDoorW.PrintMore Gw
set_option linter.unusedVariables false
set_option linter.unusedSimpArgs false
set_option maxRecDepth 100000
theorem laid_all : laidOutB Tryz.prog = true := by kernel_rfl
theorem keyt_node : Tryz.prog.keyTypeAt 3 36 = true := by kernel_rfl
theorem keyr_node : 36 < Tryz.prog.types.size := Nat.le_of_ble_eq_true (by kernel_rfl)
theorem wide_node : (match Tryz.prog.underlying 36 with | some (.array _ _) | some (.struct _) => true | _ => false) = true := by kernel_rfl
theorem law_node : Keyed Tryz.prog 36 := Keyed.of_law (deep_law_laid laid_all (m := 3) (by omega) keyr_node keyt_node wide_node)
def nkey (x : S36) : Lit := .string (keyBytes [.string x.f0.data.toList, .string x.f1.data.toList])
theorem keyOf_node (x : S36) (hs : x.f0.size ≤ maxLen) (ht : x.f1.size ≤ maxLen) : keyOf Tryz.prog 36 (.agg #[.string x.f0, .string x.f1]) = some (nkey x) := by
 unfold keyOf
 rw [Tryz.underlying36]
 have h1 : Tryz.prog.keyType 36 = true := by kernel_rfl
 have h2 : Tryz.prog.cellsOf 36 = 2 := by kernel_rfl
 have h3 : Tryz.prog.cellsOf 9 = 1 := by kernel_rfl
 obtain ⟨m, h4⟩ : ∃ m, Tryz.prog.types.size = m + 1 := ⟨Tryz.prog.types.size - 1, by have := keyr_node; omega⟩
 have u9 := Tryz.underlying9
 rw [h4]
 simp [h1, Value.formed, Tryz.underlying36, h2, Program.keyLits, h3, u9, Value.cells, hs, ht, nkey]
abbrev NS (x : S36) : Prop := x.f0.size ≤ maxLen ∧ x.f1.size ≤ maxLen
theorem nkey_inj {x y : S36} (hx : NS x) (hy : NS y) : nkey x = nkey y ↔ x = y := by
 refine ⟨fun h => ?_, fun h => by rw [h]⟩
 have e1 := keyOf_node x hx.1 hx.2
 have e2 := keyOf_node y hy.1 hy.2
 rw [← h] at e2
 have e := keyOf_inj_deep (tiled_of_laidOut laid_all 3 _ (by
  simp only [isVar, Bool.and_eq_true, decide_eq_true_eq]
  refine ⟨keyr_node, ?_⟩
  simp [Tryz.underlying36, kindOk]) keyt_node) wide_node e1 e2
 simp only [Value.agg.injEq] at e
 cases x; cases y
 simpa using e
theorem nkey_lit (x : S36) : WideAt.IsKeyLit (nkey x) := by unfold nkey; simp [WideAt.IsKeyLit]
structure Met (D : DataW Unit) (L : List S36) : Prop where
 map : IsMap D
 has : ∀ y, NS y → Maps.has D (nkey y) = decide (y ∈ L)
theorem Met.none : Met (.map []) [] := ⟨isMap_empty, fun y _ => by simp [Maps.has]⟩
theorem Met.put {D : DataW Unit} {L L' : List S36} (h : Met D L) (x : S36) (hx : NS x) (d : DataW Unit) (hL : ∀ y, y ∈ L' ↔ y = x ∨ y ∈ L) : Met (D.put (nkey x) d) L' := by
 refine ⟨h.map.put _ _, fun y hy => ?_⟩
 by_cases e : y = x
 ·subst e
  rw [has_put_same h.map (nkey_lit _), decide_eq_true ((hL y).2 (Or.inl rfl))]
 ·rw [has_put_other (fun h2 => e ((nkey_inj hy hx).1 h2)), h.has y hy]
  exact decide_eq_decide.2 ⟨fun h3 => (hL y).2 (Or.inr h3), fun h3 => ((hL y).1 h3).resolve_left e⟩
theorem zero_unit (w : World) : (zeroValue 78).run Tryz.prog w = .ok (.agg #[]) w := by kernel_rfl
set_option maxHeartbeats 4000000 in
set_option maxRecDepth 100000 in
theorem nset_go (k : Nat) (A0 : Option Addr) (c0 : Nat) (l0 : List S36) (w : World) (hr0 : Kd.C k36 w A0 l0.length l0) (hl : l0.length ≤ 4294967296) (hns : ∀ x ∈ l0, NS x) (may : S36 → Bool) (hmay : ∀ x ∈ l0, node_May.f k x.f0 x.f1 = some (may x))
 (srt r1 : List S36) (r2 : Int) (hT : l0.all may = true → r1 = srt ∧ r2 = 0) (hF : l0.all may = false → r1 = [] ∧ r2 = 1)
 (hsort : l0.all may = true → ∀ (W : World) (v : Value), Below w.heap.size w W → Kd.R k36 36 W w.heap.size (fun j => j ≠ w.heap.size) v (ded l0) → Calls Tryz.prog 60 #[v, .func (.func 61) #[] #[]] W fun e w' => e = .returned (.tuple #[]) ∧ Kd.R k36 36 w' w.heap.size (fun _ => True) v srt ∧ Below w.heap.size w w') :
 Calls Tryz.prog 34 #[.slice A0 l0.length c0] w fun e w' => ∃ v, e = .returned (.tuple #[v, .int .i64 r2]) ∧ Kd.R k36 36 w' w.heap.size (fun _ => True) v r1 ∧ Below w.heap.size w w' := by
 have hu23 := Tryz.underlying36
 have hmm := @run_makeMap Tryz.prog
 have HR0 := Aside0.mk hr0
 have HNS := Aside0.mk hns
 have HMAY := Aside0.mk hmay
 have HT := Aside0.mk hT
 have HF := Aside0.mk hF
 have HSORT := Aside0.mk hsort
 have hl1 : (l0.length : Int) ≤ 4294967296 := by omega
 clear hr0 hns hmay hT hF hsort
 go_enter Tryz.func34, Tryz.ntmps34
 go_wp2_with fail
 go_loopw [5, 13] (fun v5 v13 wr => ∃ i : Nat, i ≤ l0.length ∧ v13 = .int .i64 (i : Int) ∧ (∃ D, Aside0 (wr.ownsMap Tryz.prog 36 unitElem w.heap.size i D) ∧ Aside0 (Met D (ded (l0.take i)))) ∧ Aside0 (Kd.R k36 36 wr w.heap.size (fun j => j ≠ w.heap.size) v5 (ded (l0.take i))) ∧ Aside0 (Below w.heap.size w wr) ∧ w.heap.size + 1 ≤ wr.heap.size ∧ Aside0 ((l0.take i).all may = true)) (fun _ v13 _ => l0.length - (RowKit.intOf v13).toNat)
 case atStart => exact ⟨0, Nat.zero_le _, rfl, ⟨_, ⟨World.ownsMap_made _ _ _ _⟩, ⟨Met.none⟩⟩, ⟨Kd.R_nil _ _ _ _ _⟩, ⟨below_alloc (Below.refl _ _) _⟩, by simp, ⟨rfl⟩⟩
 case round =>
  obtain ⟨i, hi, rfl, ⟨D, HM, HD⟩, HO, HB, hws, HA⟩ := hrel
  by_cases hil : i < l0.length
  ·have j1 : (i : Int) < (l0.length : Int) := by omega
   have hdi : decide ((i : Int) < (l0.length : Int)) = true := decide_eq_true j1
   obtain ⟨x, hx⟩ : ∃ x, x = l0[i] := ⟨_, rfl⟩
   have hmem : x ∈ l0 := by rw [hx]; exact List.getElem_mem hil
   obtain ⟨ad, e0, hx0, hx1⟩ := at_T36 HR0.out (i : Int) (by omega) (by omega)
   have hrd : rd_T36 l0 (i : Int) = x := by rw [hx]; simp [rd_T36, List.getD_eq_getElem?_getD, List.getElem?_eq_getElem hil]
   rw [hrd, Int.toNat_natCast] at hx0 hx1
   cases e0
   replace hx0 := (HB.out.cell (World.block_lt_of_cell? w _ hx0)).trans hx0
   replace hx1 := (HB.out.cell (World.block_lt_of_cell? w _ hx1)).trans hx1
   have HX := Aside0.mk hx
   have hma := HMAY.out x hmem
   have hnx := HNS.out x hmem
   have hkey := keyOf_node x hnx.1 hnx.2
   have hhas := HD.out.has x hnx
   have hdt := ded_take l0 i hil
   have htk : l0.take (i + 1) = l0.take i ++ [x] := by rw [hx]; exact List.take_succ_eq_append_getElem hil
   rw [← hx] at hdt
   have HHAS := Aside0.mk hhas
   have HDT := Aside0.mk hdt
   have HTK := Aside0.mk htk
   have HMEM := Aside0.mk hmem
   obtain ⟨bm, hbm⟩ : ∃ b, b = may x := ⟨_, rfl⟩
   rw [← hbm] at hma
   have CM := fun w => node_May.calls k x.f0 x.f1 bm w hma
   have HBM := Aside0.mk hbm
   clear hx hrd hhas hdt htk hbm hmem hma
   go_wp2_with fail
   with_reducible refine (CM _).mono ?_
   rintro e w5 ⟨rfl, hb5⟩
   have hg5 := grown_of_below hb5 none
   have HM5 := Aside0.mk ((HM.out.alloc (.cells #[.string x.f0, .string x.f1] 36 (0, 0))).kept hg5 (by simp))
   have HO5 := Aside0.mk (Kd.R_below (Kd.R_alloc HO.out (.cells #[.string x.f0, .string x.f1] 36 (0, 0))) hb5)
   have HB5 := Aside0.mk (below_step (below_alloc HB.out (.cells #[.string x.f0, .string x.f1] 36 (0, 0))) hb5)
   have n0 : w5.cell? ⟨wr.heap.size, 0, none⟩ = some (.string x.f0) := (hb5.cell (p := ⟨wr.heap.size, 0, none⟩) (by simp)).trans (by simp [go_sem])
   have n1 : w5.cell? ⟨wr.heap.size, 1, none⟩ = some (.string x.f1) := (hb5.cell (p := ⟨wr.heap.size, 1, none⟩) (by simp)).trans (by simp [go_sem])
   have hz5 : wr.heap.size + 1 ≤ w5.heap.size := by have := hb5.size; simp at this; omega
   clear hg5 hb5 CM
   cases bm
   ·have hfa : l0.all may = false := by
     rw [List.all_eq_false]
     exact ⟨x, HMEM.out, by rw [← HBM.out]; decide⟩
    obtain ⟨rfl, rfl⟩ := HF.out hfa
    clear hfa
    go_wp2
    go_ret2
    exact ⟨_, rfl, Kd.R_nil _ _ _ _ _, HB5.out⟩
   ·obtain ⟨bh, hbh⟩ : ∃ b, b = Maps.has D (nkey x) := ⟨_, rfl⟩
    have HBH := Aside0.mk hbh
    clear hbh
    have n0' : ∀ o, (w5.alloc o).cell? ⟨wr.heap.size, 0, none⟩ = some (.string x.f0) := fun o => Lib.cell?_alloc_some _ n0
    have n1' : ∀ o, (w5.alloc o).cell? ⟨wr.heap.size, 1, none⟩ = some (.string x.f1) := fun o => Lib.cell?_alloc_some _ n1
    have hvr := Kd.R_lt HO.out
    have hva : some w.heap.size ≠ u5.ownBlock := Kd.R_away HO.out (fun j hj => hj)
    have hne : some wr.heap.size ≠ u5.ownBlock := fun e => absurd (hvr _ e.symm) (by omega)
    have HVA := Aside0.mk hva
    have HNE := Aside0.mk hne
    have hlen := ded_len l0 i hi
    have LEN := Aside0.mk hlen
    clear hvr hva hne hlen
    cases bh
    · -- a new node
     have hnew : x ∉ ded (l0.take i) := by
      have h := HHAS.out
      rw [← HBH.out] at h
      exact of_decide_eq_false h.symm
     have hdn : ded (l0.take (i + 1)) = ded (l0.take i) ++ [x] := by rw [HDT.out, if_neg hnew]
     have HDN := Aside0.mk hdn
     clear hdn hnew
     go_wp2_with (first
      | (at_lookup; refine wpList_lookup_own_unit _ rfl _ _ 77 rfl 36 78 law_node Tryz.underlying77 (zero_unit _) w.heap.size i _ rfl HM5.out _ _ rfl hkey ?_; rw [← HBH.out])
      | ((with_reducible refine gate_dst (N := 8) rfl ?_); refine box_event ?hg (N := 8) ?hd (cs := #[]) (t := 78) ?hr ?_; (case hd => rfl); (case hg => rfl); (case hr => first | (go_simp; done) | (go_simp; rfl)); intro gb hg w6 hbox hb6; have n0_6 : w6.cell? ⟨wr.heap.size, 0, none⟩ = some (.string x.f0) := (hb6.cell (p := ⟨wr.heap.size, 0, none⟩) (by simp; omega)).trans n0; have n1_6 : w6.cell? ⟨wr.heap.size, 1, none⟩ = some (.string x.f1) := (hb6.cell (p := ⟨wr.heap.size, 1, none⟩) (by simp; omega)).trans n1; have HM6 := Aside0.mk (HM5.out.kept (grown_of_below hb6 none) (by simp)); have HO6 := Aside0.mk (Kd.R_below HO5.out hb6); have HB6 := Aside0.mk (below_step HB5.out hb6); have hz6 : w5.heap.size ≤ w6.heap.size := hb6.size; clear hb6 hg hbox)
      | ((with_reducible refine gate_builtin (b := .append) (xs := #[.tmp 28, .tmp 30]) rfl ?_); at_builtin; refine Kd.R_append k36 (w0 := w) w.heap.size rfl (.tmp 28) (.tmp 30) 23 36 (.agg #[(.string ⟨#[]⟩), (.string ⟨#[]⟩)]) 32 rfl Tryz.underlying23 info36 rfl (by decide) (by omega) u5 (ded (l0.take i)) x [.string x.f0, .string x.f1] (fun j => j ≠ w.heap.size) (fun _ => False) rfl rfl ?aP (fun _ hk => hk.elim) ?aF ?aO ?aB ?aS ?aL ?_; (case aP => exact k36_mkM _ _ _ x); (case aB => exact HB6.out); (case aF => exact (fun j hj => by have := HB5.out.size; omega)); (case aO => exact HO6.out); (case aS => exact HB6.out.size); (case aL => have := LEN.out; omega); intro v7 w7 ho7 hb7 hg7 hat7; have n0_7 : w7.cell? ⟨wr.heap.size, 0, none⟩ = some (.string x.f0) := (World.cell?_of_block (hg7.block wr.heap.size (by omega) HNE.out)).trans n0_6; have n1_7 : w7.cell? ⟨wr.heap.size, 1, none⟩ = some (.string x.f1) := (World.cell?_of_block (hg7.block wr.heap.size (by omega) HNE.out)).trans n1_6; have HM7 := Aside0.mk (HM6.out.kept hg7 HVA.out); have HO7 := Aside0.mk ho7; have HB7 := Aside0.mk hb7; have hz7 := hg7.size; clear ho7 hb7 hg7 hat7)
      | (at_mapUpdate; refine wpList_mapUpdate_own _ rfl _ _ _ 77 rfl 36 78 law_node Tryz.underlying77 (unitElem (H := Unit)) w.heap.size i _ rfl HM7.out (by unfold maxLen; omega) _ _ _ rfl rfl hkey _ [] unitElem_mk ?_; intro w8 hown8 hgrow8)
      | fail)
     have HO8 := Aside0.mk (Kd.R_step HO7.out (fun j hj hlt => hgrow8.block j hlt (by simp; exact hj)))
     have HB8 := Aside0.mk (pw_below_grown HB7.out _ HB7.out.size hgrow8 (fun j hj => by cases hj; exact Nat.le_refl _))
     have hz8 := hgrow8.size
     go_roundw
     case rel => exact ⟨i + 1, by omega, by go_num, ⟨_, ⟨hown8⟩, ⟨HD.out.put x hnx _ (fun y => by rw [HDN.out, List.mem_append, List.mem_singleton]; exact Or.comm)⟩⟩, ⟨by rw [HDN.out]; exact HO8.out⟩, HB8, by omega, ⟨by rw [HTK.out, List.all_append, HA.out]; simp [← HBM.out]⟩⟩
     case measure => simp [RowKit.intOf]; omega
    · -- one that was met
     have hold : x ∈ ded (l0.take i) := by
      have h := HHAS.out
      rw [← HBH.out] at h
      exact of_decide_eq_true h.symm
     have hdn : ded (l0.take (i + 1)) = ded (l0.take i) := by rw [HDT.out, if_pos hold]
     have HDN := Aside0.mk hdn
     have HOLD := Aside0.mk hold
     clear hdn hold
     go_wp2_with (first
      | (at_lookup; refine wpList_lookup_own_unit _ rfl _ _ 77 rfl 36 78 law_node Tryz.underlying77 (zero_unit _) w.heap.size i _ rfl HM5.out _ _ rfl hkey ?_; rw [← HBH.out])
      | ((with_reducible refine gate_dst (N := 8) rfl ?_); refine box_event ?hg (N := 8) ?hd (cs := #[]) (t := 78) ?hr ?_; (case hd => rfl); (case hg => rfl); (case hr => first | (go_simp; done) | (go_simp; rfl)); intro gb hg w6 hbox hb6; have n0_6 : w6.cell? ⟨wr.heap.size, 0, none⟩ = some (.string x.f0) := (hb6.cell (p := ⟨wr.heap.size, 0, none⟩) (by simp; omega)).trans n0; have n1_6 : w6.cell? ⟨wr.heap.size, 1, none⟩ = some (.string x.f1) := (hb6.cell (p := ⟨wr.heap.size, 1, none⟩) (by simp; omega)).trans n1; have HM6 := Aside0.mk (HM5.out.kept (grown_of_below hb6 none) (by simp)); have HO6 := Aside0.mk (Kd.R_below HO5.out hb6); have HB6 := Aside0.mk (below_step HB5.out hb6); have hz6 : w5.heap.size ≤ w6.heap.size := hb6.size; clear hb6 hg hbox)
      | (at_mapUpdate; refine wpList_mapUpdate_own _ rfl _ _ _ 77 rfl 36 78 law_node Tryz.underlying77 (unitElem (H := Unit)) w.heap.size i _ rfl HM6.out (by unfold maxLen; omega) _ _ _ rfl rfl hkey _ [] unitElem_mk ?_; intro w8 hown8 hgrow8)
      | fail)
     have HO8 := Aside0.mk (Kd.R_step HO6.out (fun j hj hlt => hgrow8.block j hlt (by simp; exact hj)))
     have HB8 := Aside0.mk (pw_below_grown HB6.out _ HB6.out.size hgrow8 (fun j hj => by cases hj; exact Nat.le_refl _))
     have hz8 := hgrow8.size
     go_roundw
     case rel => exact ⟨i + 1, by omega, by go_num, ⟨_, ⟨hown8⟩, ⟨HD.out.put x hnx _ (fun y => by rw [HDN.out]; exact ⟨Or.inr, fun h => h.elim (fun e => by rw [e]; exact HOLD.out) id⟩)⟩⟩, ⟨by rw [HDN.out]; exact HO8.out⟩, HB8, by omega, ⟨by rw [HTK.out, List.all_append, HA.out]; simp [← HBM.out]⟩⟩
     case measure => simp [RowKit.intOf]; omega
  ·obtain rfl : i = l0.length := by omega
   have hdi : decide ((l0.length : Int) < (l0.length : Int)) = false := decide_eq_false (by omega)
   have hall : l0.all may = true := by have := HA.out; rwa [List.take_length] at this
   obtain ⟨rfl, rfl⟩ := HT.out hall
   have ho := HO.out
   rw [List.take_length] at ho
   have CS := fun W hW hR => HSORT.out hall W u5 hW hR
   have HO9 := Aside0.mk ho
   clear ho hall
   go_wp2_with fail
   refine (CS _ HB.out HO9.out).mono ?_
   rintro e w6 ⟨rfl, ho6, hb6⟩
   have HO6 := Aside0.mk ho6
   have HB6 := Aside0.mk hb6
   clear ho6 hb6
   go_wp2
   go_ret2
   exact ⟨_, rfl, HO6.out, HB6.out⟩
end Go.Proofs.YtffjkbbmnfnbaaaGreatDoor.Q
end
section
namespace Go.Proofs
open Go.Shelf
def Tryz.sortNode_ren : Go.Shelf.Ren := ⟨fun | 6 => 60 | 15 => 82 | 14 => 81 | 28 => 105 | 29 => 106 | 20 => 97 | 21 => 98 | 22 => 99 | 23 => 100 | 24 => 101 | 25 => 102 | 26 => 103 | 27 => 104 | 46 => 117 | 47 => 118 | 48 => 119 | 49 => 120 | 50 => 121 | 57 => 127 | n => n, fun | 22 => 23 | 24 => 36 | 25 => 81 | 3 => 3 | 39 => 89 | 0 => 0 | 53 => 114 | 55 => 116 | 4 => 4 | 46 => 108 | 45 => 107 | 50 => 60 | 5 => 5 | 9 => 9 | 66 => 125 | 70 => 129 | 76 => 135 | 77 => 136 | n => n, fun | n => n⟩
theorem Tryz.sortNode : Go.Proofs.SlLaysF0.n6 Tryz.prog Tryz.sortNode_ren := {
 mixed := by kernel_rfl
 f6 := ⟨Tryz.f60.name, by decide, Tryz.func60.trans (congrArg some (by kernel_rfl))⟩
 f14 := ⟨Tryz.f81.name, by decide, Tryz.func81.trans (congrArg some (by kernel_rfl))⟩
 f15 := Tryz.func82.trans (congrArg some (by kernel_rfl))
 f20 := ⟨Tryz.f97.name, by decide, Tryz.func97.trans (congrArg some (by kernel_rfl))⟩
 f21 := ⟨Tryz.f98.name, by decide, Tryz.func98.trans (congrArg some (by kernel_rfl))⟩
 f22 := ⟨Tryz.f99.name, by decide, Tryz.func99.trans (congrArg some (by kernel_rfl))⟩
 f23 := ⟨Tryz.f100.name, by decide, Tryz.func100.trans (congrArg some (by kernel_rfl))⟩
 f24 := ⟨Tryz.f101.name, by decide, Tryz.func101.trans (congrArg some (by kernel_rfl))⟩
 f25 := ⟨Tryz.f102.name, by decide, Tryz.func102.trans (congrArg some (by kernel_rfl))⟩
 f26 := ⟨Tryz.f103.name, by decide, Tryz.func103.trans (congrArg some (by kernel_rfl))⟩
 f27 := ⟨Tryz.f104.name, by decide, Tryz.func104.trans (congrArg some (by kernel_rfl))⟩
 f28 := Tryz.func105.trans (congrArg some (by kernel_rfl))
 f29 := Tryz.func106.trans (congrArg some (by kernel_rfl))
 f46 := ⟨Tryz.f117.name, by decide, Tryz.func117.trans (congrArg some (by kernel_rfl))⟩
 f47 := Tryz.func118.trans (congrArg some (by kernel_rfl))
 f48 := Tryz.func119.trans (congrArg some (by kernel_rfl))
 f49 := ⟨Tryz.f120.name, by decide, Tryz.func120.trans (congrArg some (by kernel_rfl))⟩
 f50 := ⟨Tryz.f121.name, by decide, Tryz.func121.trans (congrArg some (by kernel_rfl))⟩
 f57 := ⟨Tryz.f127.name, by decide, Tryz.func127.trans (congrArg some (by kernel_rfl))⟩
 t0 := Tryz.underlying0
 a0 := Tryz.isAgg0
 z0 := Tryz.sizeOf0
 v0 := Tryz.zeroValue0
 t3 := Tryz.underlying3
 a3 := Tryz.isAgg3
 z3 := Tryz.sizeOf3
 v3 := Tryz.zeroValue3
 t4 := Tryz.underlying4
 a4 := Tryz.isAgg4
 z4 := Tryz.sizeOf4
 v4 := Tryz.zeroValue4
 t5 := Tryz.underlying5
 a5 := Tryz.isAgg5
 z5 := Tryz.sizeOf5
 v5 := Tryz.zeroValue5
 t9 := Tryz.underlying9
 a9 := Tryz.isAgg9
 z9 := Tryz.sizeOf9
 v9 := Tryz.zeroValue9
 t22 := Tryz.underlying23
 a22 := Tryz.isAgg23
 z22 := Tryz.sizeOf23
 v22 := Tryz.zeroValue23
 t25 := Tryz.underlying81
 a25 := Tryz.isAgg81
 z25 := Tryz.sizeOf81
 v25 := Tryz.zeroValue81
 t39 := Tryz.underlying89
 a39 := Tryz.isAgg89
 z39 := Tryz.sizeOf89
 v39 := Tryz.zeroValue89
 t45 := Tryz.underlying107
 a45 := Tryz.isAgg107
 z45 := Tryz.sizeOf107
 v45 := Tryz.zeroValue107
 t46 := Tryz.underlying108
 a46 := Tryz.isAgg108
 z46 := Tryz.sizeOf108
 v46 := Tryz.zeroValue108
 t50 := Tryz.underlying60
 a50 := Tryz.isAgg60
 z50 := Tryz.sizeOf60
 v50 := Tryz.zeroValue60
 t53 := Tryz.underlying114
 a53 := Tryz.isAgg114
 z53 := Tryz.sizeOf114
 v53 := Tryz.zeroValue114
 t55 := Tryz.underlying116
 a55 := Tryz.isAgg116
 z55 := Tryz.sizeOf116
 v55 := Tryz.zeroValue116
 t66 := Tryz.underlying125
 a66 := Tryz.isAgg125
 z66 := Tryz.sizeOf125
 v66 := Tryz.zeroValue125
 t70 := Tryz.underlying129
 a70 := Tryz.isAgg129
 z70 := Tryz.sizeOf129
 v70 := Tryz.zeroValue129
 t76 := Tryz.underlying135
 a76 := Tryz.isAgg135
 z76 := Tryz.sizeOf135
 v76 := Tryz.zeroValue135
 t77 := Tryz.underlying136
 a77 := Tryz.isAgg136
 z77 := Tryz.sizeOf136
 v77 := Tryz.zeroValue136 }
end Go.Proofs
end
section
namespace Go.Proofs.YtffjkbbmnfnbaaaGreatDoor.Q
open Go.Proofs.YtffjkbbmnfnbaaaGreatDoor.QB.D
open Go Go.RowKit Go.Maps Go.Lib Go.Sort Go.Proofs.YtffjkbbmnfnbaaaGreatDoorW.PrintWords Go.Proofs.YtffjkbbmnfnbaaaGreatDoorW.PrintLast Go.Proofs.YtffjkbbmnfnbaaaGreatDoorW.PrintMore Gw
set_option linter.unusedVariables false
set_option linter.unusedSimpArgs false
abbrev GN := { x : S36 // GoodN x }
instance : Inhabited GN := ⟨⟨⟨⟨#[]⟩, ⟨#[118, 48, 46, 48, 46, 48]⟩⟩, by unfold Tiny; decide, by unfold Tiny; decide, by decide +kernel⟩⟩
def encN (x : GN) : List Value := [.string x.1.f0, .string x.1.f1]
def cfN (x y : GN) : Int := ordN x.1 y.1
theorem ltN (x y : GN) : ltOf cfN x y = decide (cfN x y < 0) := rfl
theorem swoN : SWO (ltOf cfN) where
 irrefl x := by
  rw [ltN, decide_eq_false_iff_not]
  have := (ordN_to.eq x.1 x.1 x.2 x.2).2 rfl
  unfold cfN; omega
 trans x y z h1 h2 := by
  rw [ltN, decide_eq_true_eq] at *
  exact ordN_to.tr _ _ _ x.2 y.2 z.2 h1 h2
 ntrans x y z h1 h2 := by
  rw [ltN, decide_eq_false_iff_not] at *
  have s1 := ordN_to.sym x.1 y.1 x.2 y.2
  have s2 := ordN_to.sym y.1 z.1 y.2 z.2
  have s3 := ordN_to.sym x.1 z.1 x.2 z.2
  unfold cfN at *
  have := (ordN_to.le z.1 y.1 x.1 z.2 y.2 x.2 (by omega) (by omega)).1
  omega
theorem totN (x y : GN) (h1 : ltOf cfN x y = false) (h2 : ltOf cfN y x = false) : x = y := by
 rw [ltN, decide_eq_false_iff_not] at *
 have s1 := ordN_to.sym x.1 y.1 x.2 y.2
 unfold cfN at *
 exact Subtype.ext ((ordN_to.eq x.1 y.1 x.2 y.2).1 (by omega))
theorem orderD_val (x y : S36) (hx : GoodN x) (hy : GoodN y) : QB.D.node_order.f 9 x.f0 x.f1 y.f0 y.f1 = some (ordN x y) := by
 unfold QB.D.node_order.f
 by_cases h : (x.f0.toList == y.f0.toList && x.f1.toList == y.f1.toList) = true
 ·rw [if_pos h]
  rw [str_eq, str_eq, Bool.and_eq_true, decide_eq_true_eq, decide_eq_true_eq] at h
  have e : x = y := by cases x; cases y; simp only at h; rw [h.1, h.2]
  subst e
  exact congrArg some ((ordN_to.eq x x hx hx).2 rfl).symm
 ·rw [if_neg h]
  have hv : QB.D.version_Cmp.f x.f1 y.f1 = some (verC (vOf (bs x.f1)) (vOf (bs y.f1)), 0) := by
   unfold QB.D.version_Cmp.f
   rw [if_pos ⟨hx.2.1, hy.2.1⟩, vparts_of hx.2.2, vparts_of hy.2.2]
   rfl
  rw [hv, QB.D.octcmp_val]
  simp only [Option.bind_some]
  rw [QB.D.or2_val]
  rfl
theorem cmpLaysN (blk off size : Nat) (w : World) : CmpLays Tryz.prog 61 #[] encN 2 cfN blk off size w := fun _ _ _ _ x y =>
 (QB.D.node_order.calls 9 x.1.f0 x.1.f1 y.1.f0 y.1.f1 _ _ (orderD_val x.1 y.1 x.2 y.2)).mono fun e w' h => ⟨h.1, h.2.grows⟩
theorem isAggN (w : World) : (isAgg 36).run Tryz.prog w = .ok true w := by kernel_rfl
theorem sizeN (w : World) : (Go.sizeOf 36).run Tryz.prog w = .ok 2 w := by kernel_rfl
def cellsN (xs : List S36) : List Value := xs.flatMap (fun x => [Value.string x.f0, Value.string x.f1])
theorem cellsN_get : ∀ (xs : List S36) (j : Nat), (cellsN xs)[j]? = (xs[j / 2]?).map (fun x => if j % 2 = 0 then Value.string x.f0 else Value.string x.f1) := by
 intro xs
 induction xs with
 | nil => intro j; simp [cellsN]
 | cons x xs ih =>
  intro j
  match j with
  | 0 => simp [cellsN]
  | 1 => simp [cellsN]
  | j + 2 =>
   show ([Value.string x.f0, Value.string x.f1] ++ cellsN xs)[j + 2]? = _
   rw [List.getElem?_append_right (by simp)]
   simp only [List.length_cons, List.length_nil, Nat.zero_add, Nat.add_sub_cancel, Nat.reduceAdd]
   rw [ih j, show (j + 2) / 2 = j / 2 + 1 by omega, show (j + 2) % 2 = j % 2 by omega, List.getElem?_cons_succ]
theorem cellsN_len : ∀ xs, (cellsN xs).length = xs.length * 2
 | [] => rfl
 | x :: xs => by
  show ([Value.string x.f0, Value.string x.f1] ++ cellsN xs).length = _
  rw [List.length_append, cellsN_len xs]; simp; omega
theorem reps_node {w : World} {base : Nat} {ok : Nat → Prop} {xs : List S36} {inner : List Value} (h : Reps (k36.M w base ok) k36.sz xs inner) : inner = cellsN xs := by
 obtain ⟨hl, hp⟩ := h
 have hl2 : inner.length = xs.length * 2 := hl
 apply List.ext_getElem?
 intro j
 rw [cellsN_get]
 by_cases hj : j < xs.length * 2
 ·have h2 : j / 2 < xs.length := by omega
  have hm := hp (j / 2) _ (List.getElem?_eq_getElem h2)
  have ho := k36_openM hm
  rw [List.getElem?_eq_getElem h2, Option.map_some]
  have h3 : inner[j]? = ((inner.drop (j / 2 * 2)).take 2)[j % 2]? := by
   rw [List.getElem?_take_of_lt (by omega), List.getElem?_drop, show j / 2 * 2 + j % 2 = j by omega]
  rw [h3]
  have ho' : (inner.drop (j / 2 * 2)).take 2 = [.string xs[j / 2].f0, .string xs[j / 2].f1] := ho
  rw [ho']
  rcases Nat.mod_two_eq_zero_or_one j with e | e <;> rw [e] <;> rfl
 ·rw [List.getElem?_eq_none (by omega), List.getElem?_eq_none (by omega)]
  rfl
theorem node_reps (w : World) (base : Nat) (ok : Nat → Prop) (xs : List S36) : Reps (k36.M w base ok) k36.sz xs (cellsN xs) := by
 refine ⟨cellsN_len xs, fun j p hj => ?_⟩
 obtain ⟨hjl, rfl⟩ := List.getElem?_eq_some_iff.1 hj
 have e : ((cellsN xs).drop (j * 2)).take 2 = [.string xs[j].f0, .string xs[j].f1] := by
  apply List.ext_getElem?
  intro t
  rcases Nat.lt_or_ge t 2 with h | h
  ·rw [List.getElem?_take_of_lt h, List.getElem?_drop, cellsN_get, show (j * 2 + t) / 2 = j by omega, List.getElem?_eq_getElem hjl, Option.map_some]
   match t, h with
   | 0, _ => rw [if_pos (by omega)]; rfl
   | 1, _ => rw [if_neg (by omega)]; rfl
  ·rw [List.getElem?_eq_none (by rw [List.length_take]; omega), List.getElem?_eq_none (by simp; omega)]
 show k36.M w base ok xs[j] (((cellsN xs).drop (j * 2)).take 2)
 rw [e]
 exact k36_mkM _ _ _ _
theorem flat_cells (G : List GN) (j : Nat) (hj : j < G.length * 2) : some (flatK encN 2 G.toArray)[j]! = (cellsN (G.map Subtype.val))[j]? := by
 have h2 : j / 2 < G.length := by omega
 rw [get_flatK _ _ _ _ (by simpa using hj), cellsN_get, List.getElem?_map, List.getElem?_eq_getElem h2, Option.map_some, Option.map_some]
 have : G.toArray[j / 2]! = G[j / 2] := by simp [h2]
 rw [this]
 rcases Nat.mod_two_eq_zero_or_one j with e | e <;> rw [e] <;> rfl
theorem sortW_block (enc : GN → List Value) (w : World) (g m : Nat) (d : Array GN) (os : Array Obj) (cur : Array Value) (e : TypeId) (hg : w.heap[g]? = some (.cells cur e (0, 0))) :
 (sortWorldK enc 2 w g 0 m d os).heap[g]? = some (.cells (putCells id 0 (flatK enc 2 d) cur) e (0, 0)) := by
 have hlt : g < w.heap.size := by
  rcases Nat.lt_or_ge g w.heap.size with h | h
  ·exact h
  ·rw [Array.getElem?_eq_none h] at hg; cases hg
 unfold sortWorldK grow putRowK putRow mapBlock Sort.ahead
 simp only []
 rw [Array.getElem?_append_left (by simpa using hlt), Array.getElem?_modify, if_pos rfl, hg]
 rfl
theorem sortW_below (enc : GN → List Value) (w : World) (g m : Nat) (d : Array GN) (os : Array Obj) (b : Nat) (hb : b ≤ g) (hg : g < w.heap.size) : Below b w (sortWorldK enc 2 w g 0 m d os) := by
 unfold sortWorldK grow putRowK putRow mapBlock Sort.ahead
 refine ⟨rfl, rfl, rfl, by simp, fun k hk => ?_⟩
 simp only []
 rw [Array.getElem?_append_left (by simp; omega), Array.getElem?_modify, if_neg (by omega)]
theorem take_put (cur : Array Value) (F : Array Value) (h : F.size ≤ cur.size) : (putCells id 0 F cur).toList.take F.size = F.toList := by
 apply List.ext_getElem?
 intro j
 rcases Nat.lt_or_ge j F.size with hj | hj
 ·rw [List.getElem?_take_of_lt hj, Array.getElem?_toList, Array.getElem?_toList]
  simp only [putCells, Array.getElem?_mapIdx]
  rw [Array.getElem?_eq_getElem (show j < cur.size by omega), Option.map_some, if_pos (by omega), Array.getElem?_eq_getElem hj]
  simp [hj]
 ·rw [List.getElem?_eq_none (by simp; omega), List.getElem?_eq_none (by simpa using hj)]
theorem enc_len (x : GN) : (encN x).length = 2 := rfl
theorem enc_one (x : GN) : ∀ v ∈ encN x, v.oneCell' = true := fun v hv => by simp [encN] at hv; rcases hv with rfl | rfl <;> rfl
theorem sort_calls (L S : List S36) (hL : ∀ x ∈ L, GoodN x) (hn : L.length ≤ 4294967296) (hS : S.Perm L) (hS2 : S.Pairwise (fun x y => ordN x y ≤ 0)) (W : World) (base b0 : Nat) (ok ok' : Nat → Prop) (v : Value) (hR : Kd.R k36 36 W base ok v L) (hok' : ∀ k, ok k → ok' k) (hb0 : b0 ≤ base) :
 Calls Tryz.prog 60 #[v, .func (.func 61) #[] #[]] W fun e w' => e = .returned (.tuple #[]) ∧ Kd.R k36 36 w' base ok' v S ∧ Below b0 W w' := by
 obtain ⟨hok, inner, ho, hr⟩ := hR
 obtain rfl := reps_node hr
 obtain ⟨_, ⟨rfl, hz⟩ | ⟨g, cap, cur, rfl, hg, hcell, hc1, hc2, hc3, hc4⟩⟩ := ho
 ·have hL0 : L = [] := List.length_eq_zero_iff.1 hz
  subst hL0
  have hS0 : S = [] := List.Perm.eq_nil hS
  subst hS0
  refine (AnyF.slices_SortFunc_none Tryz.sortNode none 0 (.func (.func 61) #[] #[]) W).mono ?_
  rintro e w' ⟨rfl, rfl⟩
  exact ⟨rfl, Kd.R_nil _ _ _ _ _, Below.refl _ _⟩
 ·obtain ⟨G, rfl⟩ : ∃ G : List GN, G.map Subtype.val = L := ⟨L.attach.map (fun x => ⟨x.1, hL x.1 x.2⟩), by simp [List.map_map, Function.comp_def, List.attach_map_subtype_val]⟩
  have hgl : g < W.heap.size := by
   rcases Nat.lt_or_ge g W.heap.size with h | h
   ·exact h
   ·rw [Array.getElem?_eq_none h] at hcell; cases hcell
  rw [List.length_map] at *
  have hsz2 : (cellsN (G.map Subtype.val)).length = G.length * 2 := by rw [cellsN_len, List.length_map]
  have hH : HoldsK encN 2 W g 0 G.toArray := by
   intro j hj
   have hj' : j < G.length * 2 := by simpa using hj
   refine ⟨?_, blk_frozen hcell _⟩
   rw [blk_cell hcell, Nat.zero_add]
   show cur[j]? = some (flatK encN 2 G.toArray)[j]!
   rw [flat_cells G j hj', ← hc4]
   rw [show k36.sz = 2 from rfl, List.getElem?_take_of_lt hj', Array.getElem?_toList]
  have eg : ∀ args w, (callFunc 61 args).run Tryz.prog w = .ok (.enter 61 args) w := enters_of Tryz.func61 (by kernel_rfl) rfl
  have hcon := AnyQ.slices_SortFunc_total Tryz.sortNode 2 isAggN sizeN encN enc_len enc_one cfN swoN 61 #[] g 0 cap G.toArray W eg (cmpLaysN _ _ _ _) hH hgl (by simp; omega) totN
  refine Calls.mono hcon ?_
  rintro e w' ⟨rfl, n, os, rfl⟩
  refine ⟨rfl, ?_, sortW_below _ _ _ _ _ _ _ (by omega) hgl⟩
  have hM1 : (G.mergeSort fun x y => !(ltOf cfN) y x).Perm G := List.mergeSort_perm _ _
  have hM2 : (G.mergeSort fun x y => !(ltOf cfN) y x).Pairwise (fun x y => (!(ltOf cfN) y x) = true) := by
   refine List.pairwise_mergeSort (le := fun x y => !(ltOf cfN) y x) (fun a b c h1 h2 => ?_) (fun a b => ?_) G
   ·simp only [Bool.not_eq_true'] at *
    exact swoN.ntrans _ _ _ h2 h1
   ·simp only [ltN]
    have := ordN_to.sym a.1 b.1 a.2 b.2
    unfold cfN
    by_cases h : ordN b.1 a.1 < 0
    ·rw [decide_eq_true h, decide_eq_false (by omega)]; rfl
    ·rw [decide_eq_false h]; rfl
  have hSM : S = (G.mergeSort fun x y => !(ltOf cfN) y x).map Subtype.val := by
   refine List.Perm.eq_of_pairwise (le := fun x y => ordN x y ≤ 0) ?_ hS2 ?_ (hS.trans (hM1.map _).symm)
   ·intro a b ha hb h1 h2
    have ga := hL a (hS.mem_iff.1 ha)
    have gb : GoodN b := by obtain ⟨y, _, rfl⟩ := List.mem_map.1 hb; exact y.2
    have := ordN_to.sym a b ga gb
    exact (ordN_to.eq a b ga gb).1 (by omega)
   ·refine List.pairwise_map.2 (hM2.imp ?_)
    intro x y h
    simp only [Bool.not_eq_true', ltN, decide_eq_false_iff_not] at h
    have := ordN_to.sym x.1 y.1 x.2 y.2
    unfold cfN at h
    omega
  have hlM := hM1.length_eq
  generalize hMM : (G.mergeSort fun x y => !(ltOf cfN) y x) = M at hSM hlM
  have hfs : (flatK encN 2 M.toArray).size = G.length * 2 := by simp [hlM]
  have hSl : S.length = G.length := by rw [hSM, List.length_map, hlM]
  refine ⟨fun k hk => hok' k (hok k hk), cellsN S, ?_, ?_⟩
  ·refine ⟨by rw [cellsN_len]; rfl, Or.inr ⟨g, cap, putCells id 0 (flatK encN 2 M.toArray) cur, by rw [hSl], hg, sortW_block _ _ _ _ _ _ _ _ hcell, by rw [hSl]; exact hc1, hc2, by simp [putCells]; exact hc3, ?_⟩⟩
   rw [show S.length * k36.sz = (flatK encN 2 M.toArray).size by rw [hfs, hSl]; rfl, take_put _ _ (by rw [hfs, hc3]; exact Nat.mul_le_mul_right _ hc1)]
   apply List.ext_getElem?
   intro j
   by_cases hj : j < G.length * 2
   ·rw [hSM, ← flat_cells M j (by omega), Array.getElem?_toList, Array.getElem?_eq_getElem (by omega)]
    simp [hfs, hj]
   ·rw [List.getElem?_eq_none (by simp; omega), List.getElem?_eq_none (by rw [cellsN_len]; omega)]
  ·exact node_reps _ _ _ _
end Go.Proofs.YtffjkbbmnfnbaaaGreatDoor.Q
end
section
namespace Go.Proofs.YtffjkbbmnfnbaaaGreatDoor.Q
open Go.Proofs.YtffjkbbmnfnbaaaGreatDoor.QB.D
open Go Go.RowKit Go.Maps Go.Lib Go.Proofs.YtffjkbbmnfnbaaaGreatDoorW.PrintWords Go.Proofs.YtffjkbbmnfnbaaaGreatDoorW.PrintLast Go.Proofs.YtffjkbbmnfnbaaaGreatDoorW.PrintMore Gw
set_option linter.unusedVariables false
set_option linter.unusedSimpArgs false
def node_Set.f (l : List S36) : Option (List S36 × Int) := if l.length ≤ 4294967296 ∧ (∀ x ∈ l, TinyN x) then some (if l.all mayN then (setN l, 0) else ([], 1)) else none
theorem node_Set.calls (A0 : Option Addr) (c0 : Nat) (l0 : List S36) (r1 : List S36) (r2 : Int) (w : World) (hr0 : Kd.C k36 w A0 l0.length l0) (hc0 : l0.length ≤ c0) (h : node_Set.f l0 = some (r1, r2)) :
 Calls Tryz.prog 34 #[.slice A0 l0.length c0] w fun e w' => ∃ v, e = .returned (.tuple #[v, .int .i64 r2]) ∧ Kd.R k36 36 w' w.heap.size (fun _ => True) v r1 ∧ Below w.heap.size w w' := by
 unfold node_Set.f at h
 by_cases hc : l0.length ≤ 4294967296 ∧ (∀ x ∈ l0, TinyN x)
 ·rw [if_pos hc] at h
  obtain ⟨hl, ht⟩ := hc
  have hdm : ∀ x ∈ ded l0, x ∈ l0 := fun x hx => by
   have := (ded_mem l0 x l0.length (Nat.le_refl _)).1
   rw [List.take_length] at this
   exact this hx
  have hdl : (ded l0).length ≤ l0.length := by
   have := ded_len l0 l0.length (Nat.le_refl _)
   rwa [List.take_length] at this
  by_cases ha : l0.all mayN = true
  ·rw [if_pos ha, Option.some.injEq, Prod.mk.injEq] at h
   obtain ⟨rfl, rfl⟩ := h
   have hg : ∀ x ∈ ded l0, GoodN x := fun x hx => mayN_good (ht x (hdm x hx)) (List.all_eq_true.1 ha x (hdm x hx))
   refine nset_go 8589934592 A0 c0 l0 w hr0 hl (fun x hx => ?_) mayN (fun x hx => node_May_val _ x (ht x hx) ?_) (setN l0) _ _ (fun _ => ⟨rfl, rfl⟩) (fun hf => absurd ha (by rw [hf]; decide)) (fun _ W v hW hR => ?_)
   ·have := ht x hx; unfold TinyN Tiny at this; unfold NS maxLen; omega
   ·have := ht x hx; unfold TinyN Tiny at this; omega
   ·refine (sort_calls (ded l0) (setN l0) hg (by omega) (sortN_perm _) (sortN_sorted _ hg) W w.heap.size w.heap.size _ (fun _ => True) v hR (fun _ _ => trivial) (Nat.le_refl _)).mono ?_
    rintro e w' ⟨rfl, h1, h2⟩
    exact ⟨rfl, h1, hW.trans h2⟩
  ·rw [if_neg ha, Option.some.injEq, Prod.mk.injEq] at h
   obtain ⟨rfl, rfl⟩ := h
   refine nset_go 8589934592 A0 c0 l0 w hr0 hl (fun x hx => ?_) mayN (fun x hx => node_May_val _ x (ht x hx) ?_) [] _ _ (fun hf => absurd hf ha) (fun _ => ⟨rfl, rfl⟩) (fun hf => absurd hf ha)
   ·have := ht x hx; unfold TinyN Tiny at this; unfold NS maxLen; omega
   ·have := ht x hx; unfold TinyN Tiny at this; omega
 ·rw [if_neg hc] at h
  cases h
end Go.Proofs.YtffjkbbmnfnbaaaGreatDoor.Q
end
