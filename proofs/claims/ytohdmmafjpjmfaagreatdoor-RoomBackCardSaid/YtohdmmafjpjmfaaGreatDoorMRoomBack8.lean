/- Part 8 of this claim: several texts one behind the other: DFnodeCmp, DFdifforder, Br, FdiffCheck. What each shows stands in its theorems; conditions: sizes of texts and lists, as the functions' definitions say. -/
import Derived.Test.YtohdmmafjpjmfaaGreatDoorMRoomBack2
import Derived.Test.YtohdmmafjpjmfaaGreatDoorMRoomBack7
import Derived.Test.YtohdmmafjpjmfaaGreatDoorMRoomBack4
import Derived.Test.YtohdmmafjpjmfaaGreatDoorMRoomBack3
section
namespace Go.Proofs.YtohdmmafjpjmfaaGreatDoor.QB.D
open Go.Proofs.YtohdmmafjpjmfaaGreatDoor.Q
open Go.RowKit Go.Proofs.YtohdmmafjpjmfaaGreatDoorW.PrintWords Go.Proofs.YtohdmmafjpjmfaaGreatDoorW.PrintLast Go.Proofs.YtohdmmafjpjmfaaGreatDoorW.PrintMore
attribute [local go_sem] max2_int min2_int max_two min_two max_three min_three max_four min_four   -- for this text's walks alone
set_option linter.unusedVariables false
set_option linter.unusedSimpArgs false
attribute [local go_sem high] eqA34
def node_Cmp.f (k : Nat) (a0_0 : ByteArray) (a0_1 : ByteArray) (a1_0 : ByteArray) (a1_1 : ByteArray) : Option (Int × Int) := (node_May.f k a0_0 a0_1).bind fun t208 => (if t208 = true then ((node_May.f k a1_0 a1_1).bind fun t209 => (if t209 = true then ((node_order.f k a0_0 a0_1 a1_0 a1_1).bind fun t210 => (some (t210, 0))) else (some (0, 1)))) else (some (0, 1)))
set_option maxHeartbeats 8000000 in
set_option maxRecDepth 100000 in
theorem node_Cmp.calls (k : Nat) (a0_0 : ByteArray) (a0_1 : ByteArray) (a1_0 : ByteArray) (a1_1 : ByteArray) (r1 : Int) (r2 : Int) (w : World) (h : node_Cmp.f k a0_0 a0_1 a1_0 a1_1 = some (r1, r2)) :
  Calls Tryz.prog 65 #[.agg #[.string a0_0, .string a0_1], .agg #[.string a1_0, .string a1_1]] w fun e w' => e = .returned (.tuple #[.int .i64 r1, .int .i64 r2]) ∧ Below w.heap.size w w' := by
 have hu34 := Tryz.underlying34
 have HB := Aside0.mk (Below.refl w.heap.size w)
 have H : ((node_May.f k a0_0 a0_1).bind fun t208 => (if t208 = true then ((node_May.f k a1_0 a1_1).bind fun t209 => (if t209 = true then ((node_order.f k a0_0 a0_1 a1_0 a1_1).bind fun t210 => (some (t210, 0))) else (some (0, 1)))) else (some (0, 1)))) = some (r1, r2) := h
 clear h
 replace H := Option.bind_eq_some_iff.mp H
 obtain ⟨t208, A30, H⟩ := H
 replace H : (if t208 = true then ((node_May.f k a1_0 a1_1).bind fun t209 => (if t209 = true then ((node_order.f k a0_0 a0_1 a1_0 a1_1).bind fun t210 => (some (t210, 0))) else (some (0, 1)))) else (some (0, 1))) = some (r1, r2) := H
 have A3 := Aside0.mk A30
 clear A30
 by_cases c4 : t208 = true
 ·subst c4
  have H1 : ((node_May.f k a1_0 a1_1).bind fun t209 => (if t209 = true then ((node_order.f k a0_0 a0_1 a1_0 a1_1).bind fun t210 => (some (t210, 0))) else (some (0, 1)))) = some (r1, r2) := by rw [if_pos rfl] at H; exact H
  clear H
  have H := H1
  clear H1
  replace H := Option.bind_eq_some_iff.mp H
  obtain ⟨t209, A50, H⟩ := H
  replace H : (if t209 = true then ((node_order.f k a0_0 a0_1 a1_0 a1_1).bind fun t210 => (some (t210, 0))) else (some (0, 1))) = some (r1, r2) := H
  have A5 := Aside0.mk A50
  clear A50
  by_cases c6 : t209 = true
  ·subst c6
   have H1 : ((node_order.f k a0_0 a0_1 a1_0 a1_1).bind fun t210 => (some (t210, 0))) = some (r1, r2) := by rw [if_pos rfl] at H; exact H
   clear H
   have H := H1
   clear H1
   replace H := Option.bind_eq_some_iff.mp H
   obtain ⟨t210, A70, H⟩ := H
   replace H : (some (t210, 0)) = some (r1, r2) := H
   have A7 := Aside0.mk A70
   clear A70
   simp only [Option.some.injEq, Prod.mk.injEq] at H
   obtain ⟨rfl, rfl⟩ := H
   go_enter Tryz.func65, Tryz.ntmps65
   go_wp2_with (first | ((with_reducible refine gate_dst (N := 2) rfl ?_); refine box_event ?hg (N := 2) ?hd (cs := #[.string a0_0, .string a0_1]) (t := 34) ?hr ?_; (case hd => rfl); (case hg => rfl); (case hr => first | (go_simp; done) | (go_simp; rfl)); intro gb206 hg w8 hbox hb; have n0_ := Aside0.mk (below_step (by repeat (first | (with_reducible first | exact HB.out | apply below_alloc | apply pw_below_drewN | apply below_drew1) | exact HB.out)) hb); have n1_ := Aside0.mk (hbox); have n2_ := Aside0.mk ((by rw [hg]; exact (below_size (by repeat (first | (with_reducible first | exact HB.out | apply below_alloc | apply pw_below_drewN | apply below_drew1) | exact HB.out))) : w.heap.size ≤ gb206)); have n3_ := Aside0.mk ((by rw [hg]; exact (below_size (by repeat (first | (with_reducible first | exact HB.out | apply below_alloc | apply pw_below_drewN | apply below_drew1) | exact HB.out))) : w.heap.size ≤ gb206)); clear HB; have HB := n0_; have BK206 := n1_; have GW206 := n2_; have GE206 := n3_; clear n0_ n1_ n2_ n3_; clear hb hbox hg) | ((with_reducible refine gate_dst (N := 3) rfl ?_); refine box_event ?hg (N := 3) ?hd (cs := #[.string a1_0, .string a1_1]) (t := 34) ?hr ?_; (case hd => rfl); (case hg => rfl); (case hr => first | (go_simp; done) | (go_simp; rfl)); intro gb207 hg w9 hbox hb; have n0_ := Aside0.mk (blk_below (g := gb206) (o := .cells #[.string a0_0, .string a0_1] 34 (0, 0)) (by (with_reducible repeat (first | refine blk_drewN ?_ _ | refine blk_drew ?_ | refine blk_alloc ?_ _)); exact BK206.out) hb); have n1_ := Aside0.mk (below_step (by repeat (first | (with_reducible first | exact HB.out | apply below_alloc | apply pw_below_drewN | apply below_drew1 | refine below_set ?_ GE206.out) | exact HB.out)) hb); have n2_ := Aside0.mk (hbox); have n3_ := Aside0.mk ((by rw [hg]; exact (below_size (by repeat (first | (with_reducible first | exact HB.out | apply below_alloc | apply pw_below_drewN | apply below_drew1 | refine below_set ?_ GE206.out) | exact HB.out))) : w.heap.size ≤ gb207)); have n4_ := Aside0.mk ((by rw [hg]; exact (below_size (by repeat (first | (with_reducible first | exact HB.out | apply below_alloc | apply pw_below_drewN | apply below_drew1 | refine below_set ?_ GE206.out) | exact HB.out))) : w.heap.size ≤ gb207)); have n5_ := Aside0.mk ((by rw [hg]; exact Nat.ne_of_lt (blk_lt (g := gb206) (o := .cells #[.string a0_0, .string a0_1] 34 (0, 0)) (by (with_reducible repeat (first | refine blk_drewN ?_ _ | refine blk_drew ?_ | refine blk_alloc ?_ _)); exact BK206.out)) : gb206 ≠ gb207)); have n6_ := Aside0.mk ((by rw [hg]; exact Nat.ne_of_gt (blk_lt (g := gb206) (o := .cells #[.string a0_0, .string a0_1] 34 (0, 0)) (by (with_reducible repeat (first | refine blk_drewN ?_ _ | refine blk_drew ?_ | refine blk_alloc ?_ _)); exact BK206.out)) : gb207 ≠ gb206)); clear BK206; clear HB; have BK206 := n0_; have HB := n1_; have BK207 := n2_; have GW207 := n3_; have GE207 := n4_; have NB206_207 := n5_; have NB207_206 := n6_; clear n0_ n1_ n2_ n3_ n4_ n5_ n6_; clear hb hbox hg; have hnb10 := NB206_207.out; have hnc10 := NB207_206.out; have hcz11_0 : w9.cell? ⟨gb206, 0, none⟩ = some (.string a0_0) := (blk_cell BK206.out 0).trans rfl; have hcz11_1 : w9.cell? ⟨gb206, 1, none⟩ = some (.string a0_1) := (blk_cell BK206.out 1).trans rfl; have hfz11_0 := blk_frozen BK206.out 0; have hfz11_1 := blk_frozen BK206.out 1) | ((with_reducible refine gate_callee (f := 45) rfl ?_); refine goesL_ (some 7) rfl rfl Tryz.func45 (by kernel_rfl) rfl #[.agg #[.string a0_0, .string a0_1]] rfl (by (try simp only [List.map_toArray, List.map_cons, List.map_nil]); first | done | rfl | (simp only [List.length_drop, List.length_take]; rfl)) ?_; (with_reducible refine (node_May.calls k a0_0 a0_1 true _ A3.out).mono ?_); rintro e w12 ⟨rfl, hb⟩; refine ⟨_, rfl, ?_⟩; have n0_ := Aside0.mk (blk_below (g := gb206) (o := .cells #[.string a0_0, .string a0_1] 34 (0, 0)) (by (with_reducible repeat (first | refine blk_drewN ?_ _ | refine blk_drew ?_ | refine blk_alloc ?_ _)); exact BK206.out) hb); have n1_ := Aside0.mk (blk_below (g := gb207) (o := .cells #[.string a1_0, .string a1_1] 34 (0, 0)) (by (with_reducible repeat (first | refine blk_drewN ?_ _ | refine blk_drew ?_ | refine blk_alloc ?_ _)); exact BK207.out) hb); have n2_ := Aside0.mk (below_step (by repeat (first | (with_reducible first | exact HB.out | apply below_alloc | apply pw_below_drewN | apply below_drew1 | refine below_set ?_ GE206.out | refine below_set ?_ GE207.out) | exact HB.out)) hb); clear BK206; clear BK207; clear HB; have BK206 := n0_; have BK207 := n1_; have HB := n2_; clear n0_ n1_ n2_; (try clear hb); (try clear hb2); (try clear hk); (try clear hi); have hcz13_0 : w12.cell? ⟨gb207, 0, none⟩ = some (.string a1_0) := (blk_cell BK207.out 0).trans rfl; have hcz13_1 : w12.cell? ⟨gb207, 1, none⟩ = some (.string a1_1) := (blk_cell BK207.out 1).trans rfl; have hfz13_0 := blk_frozen BK207.out 0; have hfz13_1 := blk_frozen BK207.out 1) | (go_at_call 45; (with_reducible refine (node_May.calls k a1_0 a1_1 true _ A5.out).mono ?_); rintro e w14 ⟨rfl, hb⟩; have n0_ := Aside0.mk (blk_below (g := gb206) (o := .cells #[.string a0_0, .string a0_1] 34 (0, 0)) (by (with_reducible repeat (first | refine blk_drewN ?_ _ | refine blk_drew ?_ | refine blk_alloc ?_ _)); exact BK206.out) hb); have n1_ := Aside0.mk (blk_below (g := gb207) (o := .cells #[.string a1_0, .string a1_1] 34 (0, 0)) (by (with_reducible repeat (first | refine blk_drewN ?_ _ | refine blk_drew ?_ | refine blk_alloc ?_ _)); exact BK207.out) hb); have n2_ := Aside0.mk (below_step (by repeat (first | (with_reducible first | exact HB.out | apply below_alloc | apply pw_below_drewN | apply below_drew1 | refine below_set ?_ GE206.out | refine below_set ?_ GE207.out) | exact HB.out)) hb); clear BK206; clear BK207; clear HB; have BK206 := n0_; have BK207 := n1_; have HB := n2_; clear n0_ n1_ n2_; (try clear hb); (try clear hb2); (try clear hk); (try clear hi); have hcz15_0 : w14.cell? ⟨gb206, 0, none⟩ = some (.string a0_0) := (blk_cell BK206.out 0).trans rfl; have hcz15_1 : w14.cell? ⟨gb206, 1, none⟩ = some (.string a0_1) := (blk_cell BK206.out 1).trans rfl; have hfz15_0 := blk_frozen BK206.out 0; have hfz15_1 := blk_frozen BK206.out 1; have hcz16_0 : w14.cell? ⟨gb207, 0, none⟩ = some (.string a1_0) := (blk_cell BK207.out 0).trans rfl; have hcz16_1 : w14.cell? ⟨gb207, 1, none⟩ = some (.string a1_1) := (blk_cell BK207.out 1).trans rfl; have hfz16_0 := blk_frozen BK207.out 0; have hfz16_1 := blk_frozen BK207.out 1) | ((with_reducible refine gate_callee (f := 78) rfl ?_); refine goesL_ (some 16) rfl rfl Tryz.func78 (by kernel_rfl) rfl #[.agg #[.string a0_0, .string a0_1], .agg #[.string a1_0, .string a1_1]] rfl (by (try simp only [List.map_toArray, List.map_cons, List.map_nil]); first | done | rfl | (simp only [List.length_drop, List.length_take]; rfl)) ?_; (with_reducible refine (node_order.calls k a0_0 a0_1 a1_0 a1_1 t210 _ A7.out).mono ?_); rintro e w17 ⟨rfl, hb⟩; refine ⟨_, rfl, ?_⟩; have n0_ := Aside0.mk (blk_below (g := gb206) (o := .cells #[.string a0_0, .string a0_1] 34 (0, 0)) (by (with_reducible repeat (first | refine blk_drewN ?_ _ | refine blk_drew ?_ | refine blk_alloc ?_ _)); exact BK206.out) hb); have n1_ := Aside0.mk (blk_below (g := gb207) (o := .cells #[.string a1_0, .string a1_1] 34 (0, 0)) (by (with_reducible repeat (first | refine blk_drewN ?_ _ | refine blk_drew ?_ | refine blk_alloc ?_ _)); exact BK207.out) hb); have n2_ := Aside0.mk (below_step (by repeat (first | (with_reducible first | exact HB.out | apply below_alloc | apply pw_below_drewN | apply below_drew1 | refine below_set ?_ GE206.out | refine below_set ?_ GE207.out) | exact HB.out)) hb); clear BK206; clear BK207; clear HB; have BK206 := n0_; have BK207 := n1_; have HB := n2_; clear n0_ n1_ n2_; (try clear hb); (try clear hb2); (try clear hk); (try clear hi)))
   go_ret2
   exact ⟨by first | rfl | (simp [errW_none, errW_some] <;> rfl) | (simp [*, errW_none, errW_some] <;> rfl), by repeat (first | (with_reducible first | exact HB.out | apply below_alloc | apply pw_below_drewN | apply below_drew1 | refine below_set ?_ GE206.out | refine below_set ?_ GE207.out) | exact HB.out)⟩
  ·replace c6 := Bool.eq_false_iff.mpr c6
   subst c6
   have H1 : (some (0, 1)) = some (r1, r2) := by rw [if_neg (show ¬ (false = true) by decide)] at H; exact H
   clear H
   have H := H1
   clear H1
   simp only [Option.some.injEq, Prod.mk.injEq] at H
   obtain ⟨rfl, rfl⟩ := H
   go_enter Tryz.func65, Tryz.ntmps65
   go_wp2_with (first | ((with_reducible refine gate_dst (N := 2) rfl ?_); refine box_event ?hg (N := 2) ?hd (cs := #[.string a0_0, .string a0_1]) (t := 34) ?hr ?_; (case hd => rfl); (case hg => rfl); (case hr => first | (go_simp; done) | (go_simp; rfl)); intro gb206 hg w18 hbox hb; have n0_ := Aside0.mk (below_step (by repeat (first | (with_reducible first | exact HB.out | apply below_alloc | apply pw_below_drewN | apply below_drew1) | exact HB.out)) hb); have n1_ := Aside0.mk (hbox); have n2_ := Aside0.mk ((by rw [hg]; exact (below_size (by repeat (first | (with_reducible first | exact HB.out | apply below_alloc | apply pw_below_drewN | apply below_drew1) | exact HB.out))) : w.heap.size ≤ gb206)); have n3_ := Aside0.mk ((by rw [hg]; exact (below_size (by repeat (first | (with_reducible first | exact HB.out | apply below_alloc | apply pw_below_drewN | apply below_drew1) | exact HB.out))) : w.heap.size ≤ gb206)); clear HB; have HB := n0_; have BK206 := n1_; have GW206 := n2_; have GE206 := n3_; clear n0_ n1_ n2_ n3_; clear hb hbox hg) | ((with_reducible refine gate_dst (N := 3) rfl ?_); refine box_event ?hg (N := 3) ?hd (cs := #[.string a1_0, .string a1_1]) (t := 34) ?hr ?_; (case hd => rfl); (case hg => rfl); (case hr => first | (go_simp; done) | (go_simp; rfl)); intro gb207 hg w19 hbox hb; have n0_ := Aside0.mk (blk_below (g := gb206) (o := .cells #[.string a0_0, .string a0_1] 34 (0, 0)) (by (with_reducible repeat (first | refine blk_drewN ?_ _ | refine blk_drew ?_ | refine blk_alloc ?_ _)); exact BK206.out) hb); have n1_ := Aside0.mk (below_step (by repeat (first | (with_reducible first | exact HB.out | apply below_alloc | apply pw_below_drewN | apply below_drew1 | refine below_set ?_ GE206.out) | exact HB.out)) hb); have n2_ := Aside0.mk (hbox); have n3_ := Aside0.mk ((by rw [hg]; exact (below_size (by repeat (first | (with_reducible first | exact HB.out | apply below_alloc | apply pw_below_drewN | apply below_drew1 | refine below_set ?_ GE206.out) | exact HB.out))) : w.heap.size ≤ gb207)); have n4_ := Aside0.mk ((by rw [hg]; exact (below_size (by repeat (first | (with_reducible first | exact HB.out | apply below_alloc | apply pw_below_drewN | apply below_drew1 | refine below_set ?_ GE206.out) | exact HB.out))) : w.heap.size ≤ gb207)); have n5_ := Aside0.mk ((by rw [hg]; exact Nat.ne_of_lt (blk_lt (g := gb206) (o := .cells #[.string a0_0, .string a0_1] 34 (0, 0)) (by (with_reducible repeat (first | refine blk_drewN ?_ _ | refine blk_drew ?_ | refine blk_alloc ?_ _)); exact BK206.out)) : gb206 ≠ gb207)); have n6_ := Aside0.mk ((by rw [hg]; exact Nat.ne_of_gt (blk_lt (g := gb206) (o := .cells #[.string a0_0, .string a0_1] 34 (0, 0)) (by (with_reducible repeat (first | refine blk_drewN ?_ _ | refine blk_drew ?_ | refine blk_alloc ?_ _)); exact BK206.out)) : gb207 ≠ gb206)); clear BK206; clear HB; have BK206 := n0_; have HB := n1_; have BK207 := n2_; have GW207 := n3_; have GE207 := n4_; have NB206_207 := n5_; have NB207_206 := n6_; clear n0_ n1_ n2_ n3_ n4_ n5_ n6_; clear hb hbox hg; have hnb20 := NB206_207.out; have hnc20 := NB207_206.out; have hcz21_0 : w19.cell? ⟨gb206, 0, none⟩ = some (.string a0_0) := (blk_cell BK206.out 0).trans rfl; have hcz21_1 : w19.cell? ⟨gb206, 1, none⟩ = some (.string a0_1) := (blk_cell BK206.out 1).trans rfl; have hfz21_0 := blk_frozen BK206.out 0; have hfz21_1 := blk_frozen BK206.out 1) | ((with_reducible refine gate_callee (f := 45) rfl ?_); refine goesL_ (some 7) rfl rfl Tryz.func45 (by kernel_rfl) rfl #[.agg #[.string a0_0, .string a0_1]] rfl (by (try simp only [List.map_toArray, List.map_cons, List.map_nil]); first | done | rfl | (simp only [List.length_drop, List.length_take]; rfl)) ?_; (with_reducible refine (node_May.calls k a0_0 a0_1 true _ A3.out).mono ?_); rintro e w22 ⟨rfl, hb⟩; refine ⟨_, rfl, ?_⟩; have n0_ := Aside0.mk (blk_below (g := gb206) (o := .cells #[.string a0_0, .string a0_1] 34 (0, 0)) (by (with_reducible repeat (first | refine blk_drewN ?_ _ | refine blk_drew ?_ | refine blk_alloc ?_ _)); exact BK206.out) hb); have n1_ := Aside0.mk (blk_below (g := gb207) (o := .cells #[.string a1_0, .string a1_1] 34 (0, 0)) (by (with_reducible repeat (first | refine blk_drewN ?_ _ | refine blk_drew ?_ | refine blk_alloc ?_ _)); exact BK207.out) hb); have n2_ := Aside0.mk (below_step (by repeat (first | (with_reducible first | exact HB.out | apply below_alloc | apply pw_below_drewN | apply below_drew1 | refine below_set ?_ GE206.out | refine below_set ?_ GE207.out) | exact HB.out)) hb); clear BK206; clear BK207; clear HB; have BK206 := n0_; have BK207 := n1_; have HB := n2_; clear n0_ n1_ n2_; (try clear hb); (try clear hb2); (try clear hk); (try clear hi); have hcz23_0 : w22.cell? ⟨gb207, 0, none⟩ = some (.string a1_0) := (blk_cell BK207.out 0).trans rfl; have hcz23_1 : w22.cell? ⟨gb207, 1, none⟩ = some (.string a1_1) := (blk_cell BK207.out 1).trans rfl; have hfz23_0 := blk_frozen BK207.out 0; have hfz23_1 := blk_frozen BK207.out 1) | (go_at_call 45; (with_reducible refine (node_May.calls k a1_0 a1_1 false _ A5.out).mono ?_); rintro e w24 ⟨rfl, hb⟩; have n0_ := Aside0.mk (blk_below (g := gb206) (o := .cells #[.string a0_0, .string a0_1] 34 (0, 0)) (by (with_reducible repeat (first | refine blk_drewN ?_ _ | refine blk_drew ?_ | refine blk_alloc ?_ _)); exact BK206.out) hb); have n1_ := Aside0.mk (blk_below (g := gb207) (o := .cells #[.string a1_0, .string a1_1] 34 (0, 0)) (by (with_reducible repeat (first | refine blk_drewN ?_ _ | refine blk_drew ?_ | refine blk_alloc ?_ _)); exact BK207.out) hb); have n2_ := Aside0.mk (below_step (by repeat (first | (with_reducible first | exact HB.out | apply below_alloc | apply pw_below_drewN | apply below_drew1 | refine below_set ?_ GE206.out | refine below_set ?_ GE207.out) | exact HB.out)) hb); clear BK206; clear BK207; clear HB; have BK206 := n0_; have BK207 := n1_; have HB := n2_; clear n0_ n1_ n2_; (try clear hb); (try clear hb2); (try clear hk); (try clear hi)))
   go_ret2
   exact ⟨by first | rfl | (simp [errW_none, errW_some] <;> rfl) | (simp [*, errW_none, errW_some] <;> rfl), by repeat (first | (with_reducible first | exact HB.out | apply below_alloc | apply pw_below_drewN | apply below_drew1 | refine below_set ?_ GE206.out | refine below_set ?_ GE207.out) | exact HB.out)⟩
 ·replace c4 := Bool.eq_false_iff.mpr c4
  subst c4
  have H1 : (some (0, 1)) = some (r1, r2) := by rw [if_neg (show ¬ (false = true) by decide)] at H; exact H
  clear H
  have H := H1
  clear H1
  simp only [Option.some.injEq, Prod.mk.injEq] at H
  obtain ⟨rfl, rfl⟩ := H
  go_enter Tryz.func65, Tryz.ntmps65
  go_wp2_with (first | ((with_reducible refine gate_dst (N := 2) rfl ?_); refine box_event ?hg (N := 2) ?hd (cs := #[.string a0_0, .string a0_1]) (t := 34) ?hr ?_; (case hd => rfl); (case hg => rfl); (case hr => first | (go_simp; done) | (go_simp; rfl)); intro gb206 hg w25 hbox hb; have n0_ := Aside0.mk (below_step (by repeat (first | (with_reducible first | exact HB.out | apply below_alloc | apply pw_below_drewN | apply below_drew1) | exact HB.out)) hb); have n1_ := Aside0.mk (hbox); have n2_ := Aside0.mk ((by rw [hg]; exact (below_size (by repeat (first | (with_reducible first | exact HB.out | apply below_alloc | apply pw_below_drewN | apply below_drew1) | exact HB.out))) : w.heap.size ≤ gb206)); have n3_ := Aside0.mk ((by rw [hg]; exact (below_size (by repeat (first | (with_reducible first | exact HB.out | apply below_alloc | apply pw_below_drewN | apply below_drew1) | exact HB.out))) : w.heap.size ≤ gb206)); clear HB; have HB := n0_; have BK206 := n1_; have GW206 := n2_; have GE206 := n3_; clear n0_ n1_ n2_ n3_; clear hb hbox hg) | ((with_reducible refine gate_dst (N := 3) rfl ?_); refine box_event ?hg (N := 3) ?hd (cs := #[.string a1_0, .string a1_1]) (t := 34) ?hr ?_; (case hd => rfl); (case hg => rfl); (case hr => first | (go_simp; done) | (go_simp; rfl)); intro gb207 hg w26 hbox hb; have n0_ := Aside0.mk (blk_below (g := gb206) (o := .cells #[.string a0_0, .string a0_1] 34 (0, 0)) (by (with_reducible repeat (first | refine blk_drewN ?_ _ | refine blk_drew ?_ | refine blk_alloc ?_ _)); exact BK206.out) hb); have n1_ := Aside0.mk (below_step (by repeat (first | (with_reducible first | exact HB.out | apply below_alloc | apply pw_below_drewN | apply below_drew1 | refine below_set ?_ GE206.out) | exact HB.out)) hb); have n2_ := Aside0.mk (hbox); have n3_ := Aside0.mk ((by rw [hg]; exact (below_size (by repeat (first | (with_reducible first | exact HB.out | apply below_alloc | apply pw_below_drewN | apply below_drew1 | refine below_set ?_ GE206.out) | exact HB.out))) : w.heap.size ≤ gb207)); have n4_ := Aside0.mk ((by rw [hg]; exact (below_size (by repeat (first | (with_reducible first | exact HB.out | apply below_alloc | apply pw_below_drewN | apply below_drew1 | refine below_set ?_ GE206.out) | exact HB.out))) : w.heap.size ≤ gb207)); have n5_ := Aside0.mk ((by rw [hg]; exact Nat.ne_of_lt (blk_lt (g := gb206) (o := .cells #[.string a0_0, .string a0_1] 34 (0, 0)) (by (with_reducible repeat (first | refine blk_drewN ?_ _ | refine blk_drew ?_ | refine blk_alloc ?_ _)); exact BK206.out)) : gb206 ≠ gb207)); have n6_ := Aside0.mk ((by rw [hg]; exact Nat.ne_of_gt (blk_lt (g := gb206) (o := .cells #[.string a0_0, .string a0_1] 34 (0, 0)) (by (with_reducible repeat (first | refine blk_drewN ?_ _ | refine blk_drew ?_ | refine blk_alloc ?_ _)); exact BK206.out)) : gb207 ≠ gb206)); clear BK206; clear HB; have BK206 := n0_; have HB := n1_; have BK207 := n2_; have GW207 := n3_; have GE207 := n4_; have NB206_207 := n5_; have NB207_206 := n6_; clear n0_ n1_ n2_ n3_ n4_ n5_ n6_; clear hb hbox hg; have hnb27 := NB206_207.out; have hnc27 := NB207_206.out; have hcz28_0 : w26.cell? ⟨gb206, 0, none⟩ = some (.string a0_0) := (blk_cell BK206.out 0).trans rfl; have hcz28_1 : w26.cell? ⟨gb206, 1, none⟩ = some (.string a0_1) := (blk_cell BK206.out 1).trans rfl; have hfz28_0 := blk_frozen BK206.out 0; have hfz28_1 := blk_frozen BK206.out 1) | ((with_reducible refine gate_callee (f := 45) rfl ?_); refine goesL_ (some 7) rfl rfl Tryz.func45 (by kernel_rfl) rfl #[.agg #[.string a0_0, .string a0_1]] rfl (by (try simp only [List.map_toArray, List.map_cons, List.map_nil]); first | done | rfl | (simp only [List.length_drop, List.length_take]; rfl)) ?_; (with_reducible refine (node_May.calls k a0_0 a0_1 false _ A3.out).mono ?_); rintro e w29 ⟨rfl, hb⟩; refine ⟨_, rfl, ?_⟩; have n0_ := Aside0.mk (blk_below (g := gb206) (o := .cells #[.string a0_0, .string a0_1] 34 (0, 0)) (by (with_reducible repeat (first | refine blk_drewN ?_ _ | refine blk_drew ?_ | refine blk_alloc ?_ _)); exact BK206.out) hb); have n1_ := Aside0.mk (blk_below (g := gb207) (o := .cells #[.string a1_0, .string a1_1] 34 (0, 0)) (by (with_reducible repeat (first | refine blk_drewN ?_ _ | refine blk_drew ?_ | refine blk_alloc ?_ _)); exact BK207.out) hb); have n2_ := Aside0.mk (below_step (by repeat (first | (with_reducible first | exact HB.out | apply below_alloc | apply pw_below_drewN | apply below_drew1 | refine below_set ?_ GE206.out | refine below_set ?_ GE207.out) | exact HB.out)) hb); clear BK206; clear BK207; clear HB; have BK206 := n0_; have BK207 := n1_; have HB := n2_; clear n0_ n1_ n2_; (try clear hb); (try clear hb2); (try clear hk); (try clear hi)))
  go_ret2
  exact ⟨by first | rfl | (simp [errW_none, errW_some] <;> rfl) | (simp [*, errW_none, errW_some] <;> rfl), by repeat (first | (with_reducible first | exact HB.out | apply below_alloc | apply pw_below_drewN | apply below_drew1 | refine below_set ?_ GE206.out | refine below_set ?_ GE207.out) | exact HB.out)⟩
def diff_order.f (k : Nat) (a0_0 : ByteArray) (a0_1 : ByteArray) (a1_0 : ByteArray) (a1_1 : ByteArray) : Option (Int) := (node_Cmp.f k a0_0 a0_1 a1_0 a1_1).bind fun bt213 => (some bt213.1)
set_option maxHeartbeats 8000000 in
set_option maxRecDepth 100000 in
theorem diff_order.calls (k : Nat) (a0_0 : ByteArray) (a0_1 : ByteArray) (a1_0 : ByteArray) (a1_1 : ByteArray) (r : Int) (w : World) (h : diff_order.f k a0_0 a0_1 a1_0 a1_1 = some r) :
  Calls Tryz.prog 49 #[.agg #[.string a0_0, .string a0_1], .agg #[.string a1_0, .string a1_1]] w fun e w' => e = .returned (.int .i64 r) ∧ Below w.heap.size w w' := by
 have hu34 := Tryz.underlying34
 have HB := Aside0.mk (Below.refl w.heap.size w)
 have H : ((node_Cmp.f k a0_0 a0_1 a1_0 a1_1).bind fun bt213 => (some bt213.1)) = some r := h
 clear h
 replace H := Option.bind_eq_some_iff.mp H
 obtain ⟨⟨t213, t214⟩, A30, H⟩ := H
 replace H : (some t213) = some r := H
 have A3 := Aside0.mk A30
 clear A30
 obtain rfl := Option.some.inj H
 go_enter Tryz.func49, Tryz.ntmps49
 go_wp2_with (first | ((with_reducible refine gate_dst (N := 2) rfl ?_); refine box_event ?hg (N := 2) ?hd (cs := #[.string a0_0, .string a0_1]) (t := 34) ?hr ?_; (case hd => rfl); (case hg => rfl); (case hr => first | (go_simp; done) | (go_simp; rfl)); intro gb211 hg w4 hbox hb; have n0_ := Aside0.mk (below_step (by repeat (first | (with_reducible first | exact HB.out | apply below_alloc | apply pw_below_drewN | apply below_drew1) | exact HB.out)) hb); have n1_ := Aside0.mk (hbox); have n2_ := Aside0.mk ((by rw [hg]; exact (below_size (by repeat (first | (with_reducible first | exact HB.out | apply below_alloc | apply pw_below_drewN | apply below_drew1) | exact HB.out))) : w.heap.size ≤ gb211)); have n3_ := Aside0.mk ((by rw [hg]; exact (below_size (by repeat (first | (with_reducible first | exact HB.out | apply below_alloc | apply pw_below_drewN | apply below_drew1) | exact HB.out))) : w.heap.size ≤ gb211)); clear HB; have HB := n0_; have BK211 := n1_; have GW211 := n2_; have GE211 := n3_; clear n0_ n1_ n2_ n3_; clear hb hbox hg) | ((with_reducible refine gate_dst (N := 3) rfl ?_); refine box_event ?hg (N := 3) ?hd (cs := #[.string a1_0, .string a1_1]) (t := 34) ?hr ?_; (case hd => rfl); (case hg => rfl); (case hr => first | (go_simp; done) | (go_simp; rfl)); intro gb212 hg w5 hbox hb; have n0_ := Aside0.mk (blk_below (g := gb211) (o := .cells #[.string a0_0, .string a0_1] 34 (0, 0)) (by (with_reducible repeat (first | refine blk_drewN ?_ _ | refine blk_drew ?_ | refine blk_alloc ?_ _)); exact BK211.out) hb); have n1_ := Aside0.mk (below_step (by repeat (first | (with_reducible first | exact HB.out | apply below_alloc | apply pw_below_drewN | apply below_drew1 | refine below_set ?_ GE211.out) | exact HB.out)) hb); have n2_ := Aside0.mk (hbox); have n3_ := Aside0.mk ((by rw [hg]; exact (below_size (by repeat (first | (with_reducible first | exact HB.out | apply below_alloc | apply pw_below_drewN | apply below_drew1 | refine below_set ?_ GE211.out) | exact HB.out))) : w.heap.size ≤ gb212)); have n4_ := Aside0.mk ((by rw [hg]; exact (below_size (by repeat (first | (with_reducible first | exact HB.out | apply below_alloc | apply pw_below_drewN | apply below_drew1 | refine below_set ?_ GE211.out) | exact HB.out))) : w.heap.size ≤ gb212)); have n5_ := Aside0.mk ((by rw [hg]; exact Nat.ne_of_lt (blk_lt (g := gb211) (o := .cells #[.string a0_0, .string a0_1] 34 (0, 0)) (by (with_reducible repeat (first | refine blk_drewN ?_ _ | refine blk_drew ?_ | refine blk_alloc ?_ _)); exact BK211.out)) : gb211 ≠ gb212)); have n6_ := Aside0.mk ((by rw [hg]; exact Nat.ne_of_gt (blk_lt (g := gb211) (o := .cells #[.string a0_0, .string a0_1] 34 (0, 0)) (by (with_reducible repeat (first | refine blk_drewN ?_ _ | refine blk_drew ?_ | refine blk_alloc ?_ _)); exact BK211.out)) : gb212 ≠ gb211)); clear BK211; clear HB; have BK211 := n0_; have HB := n1_; have BK212 := n2_; have GW212 := n3_; have GE212 := n4_; have NB211_212 := n5_; have NB212_211 := n6_; clear n0_ n1_ n2_ n3_ n4_ n5_ n6_; clear hb hbox hg; have hnb6 := NB211_212.out; have hnc6 := NB212_211.out; have hcz7_0 : w5.cell? ⟨gb211, 0, none⟩ = some (.string a0_0) := (blk_cell BK211.out 0).trans rfl; have hcz7_1 : w5.cell? ⟨gb211, 1, none⟩ = some (.string a0_1) := (blk_cell BK211.out 1).trans rfl; have hfz7_0 := blk_frozen BK211.out 0; have hfz7_1 := blk_frozen BK211.out 1; have hcz8_0 : w5.cell? ⟨gb212, 0, none⟩ = some (.string a1_0) := (blk_cell BK212.out 0).trans rfl; have hcz8_1 : w5.cell? ⟨gb212, 1, none⟩ = some (.string a1_1) := (blk_cell BK212.out 1).trans rfl; have hfz8_0 := blk_frozen BK212.out 0; have hfz8_1 := blk_frozen BK212.out 1) | ((with_reducible refine gate_callee (f := 65) rfl ?_); refine goesL_ (some 10) rfl rfl Tryz.func65 (by kernel_rfl) rfl #[.agg #[.string a0_0, .string a0_1], .agg #[.string a1_0, .string a1_1]] rfl (by (try simp only [List.map_toArray, List.map_cons, List.map_nil]); first | done | rfl | (simp only [List.length_drop, List.length_take]; rfl)) ?_; (with_reducible refine (node_Cmp.calls k a0_0 a0_1 a1_0 a1_1 t213 t214 _ A3.out).mono ?_); rintro e w9 ⟨rfl, hb⟩; refine ⟨_, rfl, ?_⟩; have n0_ := Aside0.mk (blk_below (g := gb211) (o := .cells #[.string a0_0, .string a0_1] 34 (0, 0)) (by (with_reducible repeat (first | refine blk_drewN ?_ _ | refine blk_drew ?_ | refine blk_alloc ?_ _)); exact BK211.out) hb); have n1_ := Aside0.mk (blk_below (g := gb212) (o := .cells #[.string a1_0, .string a1_1] 34 (0, 0)) (by (with_reducible repeat (first | refine blk_drewN ?_ _ | refine blk_drew ?_ | refine blk_alloc ?_ _)); exact BK212.out) hb); have n2_ := Aside0.mk (below_step (by repeat (first | (with_reducible first | exact HB.out | apply below_alloc | apply pw_below_drewN | apply below_drew1 | refine below_set ?_ GE211.out | refine below_set ?_ GE212.out) | exact HB.out)) hb); clear BK211; clear BK212; clear HB; have BK211 := n0_; have BK212 := n1_; have HB := n2_; clear n0_ n1_ n2_; (try clear hb); (try clear hb2); (try clear hk); (try clear hi)))
 go_ret
 exact ⟨by first | rfl | (simp [errW_none, errW_some] <;> rfl) | (simp [*, errW_none, errW_some] <;> rfl), by repeat (first | (with_reducible first | exact HB.out | apply below_alloc | apply pw_below_drewN | apply below_drew1 | refine below_set ?_ GE211.out | refine below_set ?_ GE212.out) | exact HB.out)⟩
end Go.Proofs.YtohdmmafjpjmfaaGreatDoor.QB.D
end
section
namespace Go.Proofs.YtohdmmafjpjmfaaGreatDoor.Q
open Go.RowKit Go.Proofs.YtohdmmafjpjmfaaGreatDoorW.PrintWords Go.Proofs.YtohdmmafjpjmfaaGreatDoorW.PrintLast Go.Proofs.YtohdmmafjpjmfaaGreatDoorW.PrintMore Go.Proofs.YtohdmmafjpjmfaaGreatDoor.QB.D
theorem octet_Parts.calls (a0 : ByteArray) (a1 : Int) (r : List ByteArray) (w : World) (h : octet_Parts.f a0 a1 = some r) : Calls Tryz.prog 85 #[.string a0, .int .u8 a1] w fun e w' => ∃ v, e = .returned v ∧ Kd.R Kd.string 9 w' w.heap.size (fun _ => True) v r ∧ Below w.heap.size w w' :=
  (QB.D.octet_Parts.calls a0 a1 r w h).mono fun _ _ ⟨v, h1, h2, h3⟩ => ⟨v, h1, h2, h3.toBelow⟩
theorem octet_All.calls (a0 : ByteArray) (A0 : Option Addr) (c0 : Nat) (l0 : List Int) (r : Bool) (w : World) (hr0 : Kd.C (Kd.int .i64) w A0 l0.length l0) (hc0 : l0.length ≤ c0) (h : octet_All.f a0 l0 = some r) :
    Calls Tryz.prog 102 #[.string a0, .slice A0 l0.length c0] w fun e w' => e = .returned (.bool r) ∧ Below w.heap.size w w' :=
  (QB.D.octet_All.calls a0 A0 c0 l0 r w hr0 hc0 h).mono fun _ _ h => ⟨h.1, h.2.toBelow⟩
theorem path_element.calls (a0 : ByteArray) (r : Bool) (w : World) (h : path_element.f a0 = some r) : Calls Tryz.prog 86 #[.string a0] w fun e w' => e = .returned (.bool r) ∧ Below w.heap.size w w' :=
  (QB.D.path_element.calls a0 r w h).mono fun _ _ h => ⟨h.1, h.2.toBelow⟩
theorem path_Elements.calls (k : Nat) (a0 : ByteArray) (r1 : List ByteArray) (r2 : Int) (w : World) (h : path_Elements.f k a0 = some (r1, r2)) :
    Calls Tryz.prog 75 #[.string a0] w fun e w' => ∃ v0_ : Value, e = .returned (.tuple #[v0_, .int .i64 r2]) ∧ Kd.R Kd.string 9 w' w.heap.size (fun _ => True) v0_ r1 ∧ Below w.heap.size w w' :=
  (QB.D.path_Elements.calls k a0 r1 r2 w h).mono fun _ _ ⟨v, h1, h2, h3⟩ => ⟨v, h1, h2, h3.toBelow⟩
theorem path_May.calls (k : Nat) (a0 : ByteArray) (r : Bool) (w : World) (h : path_May.f k a0 = some r) :
    Calls Tryz.prog 61 #[.string a0] w fun e w' => e = .returned (.bool r) ∧ Below w.heap.size w w' :=
  (QB.D.path_May.calls k a0 r w h).mono fun _ _ h => ⟨h.1, h.2.toBelow⟩
theorem number_May.calls (a0 : ByteArray) (r : Bool) (w : World) (h : number_May.f a0 = some r) :
    Calls Tryz.prog 89 #[.string a0] w fun e w' => e = .returned (.bool r) ∧ Below w.heap.size w w' :=
  (QB.D.number_May.calls a0 r w h).mono fun _ _ h => ⟨h.1, h.2.toBelow⟩
theorem version_Split.calls (a0 : ByteArray) (r1 : ByteArray) (r2 : ByteArray) (r3 : ByteArray) (r4 : List ByteArray) (r5 : Int) (w : World) (h : version_Split.f a0 = some (r1, r2, r3, r4, r5)) :
    Calls Tryz.prog 76 #[.string a0] w fun e w' => ∃ v3_ : Value, e = .returned (.tuple #[.agg #[.string r1, .string r2, .string r3, v3_], .int .i64 r5]) ∧ Kd.R Kd.string 9 w' w.heap.size (fun _ => True) v3_ r4 ∧ Below w.heap.size w w' :=
  (QB.D.version_Split.calls a0 r1 r2 r3 r4 r5 w h).mono fun _ _ ⟨v, h1, h2, h3⟩ => ⟨v, h1, h2, h3.toBelow⟩
theorem version_May.calls (a0 : ByteArray) (r : Bool) (w : World) (h : version_May.f a0 = some r) :
    Calls Tryz.prog 62 #[.string a0] w fun e w' => e = .returned (.bool r) ∧ Below w.heap.size w w' :=
  (QB.D.version_May.calls a0 r w h).mono fun _ _ h => ⟨h.1, h.2.toBelow⟩
theorem node_May.calls (k : Nat) (a0_0 : ByteArray) (a0_1 : ByteArray) (r : Bool) (w : World) (h : node_May.f k a0_0 a0_1 = some r) :
    Calls Tryz.prog 45 #[.agg #[.string a0_0, .string a0_1]] w fun e w' => e = .returned (.bool r) ∧ Below w.heap.size w w' :=
  (QB.D.node_May.calls k a0_0 a0_1 r w h).mono fun _ _ h => ⟨h.1, h.2.toBelow⟩
theorem number_Cmp.calls (k : Nat) (a0 : ByteArray) (a1 : ByteArray) (r1 : Int) (r2 : Int) (w : World) (h : number_Cmp.f k a0 a1 = some (r1, r2)) :
    Calls Tryz.prog 116 #[.string a0, .string a1] w fun e w' => e = .returned (.tuple #[.int .i64 r1, .int .i64 r2]) ∧ Below w.heap.size w w' :=
  (QB.D.number_Cmp.calls k a0 a1 r1 r2 w h).mono fun _ _ h => ⟨h.1, h.2.toBelow⟩
theorem version_numbers.calls (k : Nat) (a0 : ByteArray) (a1 : ByteArray) (r : Int) (w : World) (h : version_numbers.f k a0 a1 = some r) :
    Calls Tryz.prog 104 #[.string a0, .string a1] w fun e w' => e = .returned (.int .i64 r) ∧ Below w.heap.size w w' :=
  (QB.D.version_numbers.calls k a0 a1 r w h).mono fun _ _ h => ⟨h.1, h.2.toBelow⟩
theorem version_words.calls (k : Nat) (a0 : ByteArray) (a1 : ByteArray) (r : Int) (w : World) (h : version_words.f k a0 a1 = some r) :
    Calls Tryz.prog 106 #[.string a0, .string a1] w fun e w' => e = .returned (.int .i64 r) ∧ Below w.heap.size w w' :=
  (QB.D.version_words.calls k a0 a1 r w h).mono fun _ _ h => ⟨h.1, h.2.toBelow⟩
theorem version_Cmp.calls (a0 a1 : ByteArray) (r1 r2 : Int) (w : World) (h : version_Cmp.f a0 a1 = some (r1, r2)) :
    Calls Tryz.prog 91 #[.string a0, .string a1] w fun e w' => e = .returned (.tuple #[.int .i64 r1, .int .i64 r2]) ∧ Below w.heap.size w w' :=
  (QB.D.version_Cmp.calls a0 a1 r1 r2 w h).mono fun _ _ h => ⟨h.1, h.2.toBelow⟩
theorem node_order.calls (k : Nat) (a0_0 : ByteArray) (a0_1 : ByteArray) (a1_0 : ByteArray) (a1_1 : ByteArray) (r : Int) (w : World) (h : node_order.f k a0_0 a0_1 a1_0 a1_1 = some r) :
    Calls Tryz.prog 78 #[.agg #[.string a0_0, .string a0_1], .agg #[.string a1_0, .string a1_1]] w fun e w' => e = .returned (.int .i64 r) ∧ Below w.heap.size w w' :=
  (QB.D.node_order.calls k a0_0 a0_1 a1_0 a1_1 r w h).mono fun _ _ h => ⟨h.1, h.2.toBelow⟩
theorem node_Cmp.calls (k : Nat) (a0_0 : ByteArray) (a0_1 : ByteArray) (a1_0 : ByteArray) (a1_1 : ByteArray) (r1 : Int) (r2 : Int) (w : World) (h : node_Cmp.f k a0_0 a0_1 a1_0 a1_1 = some (r1, r2)) :
    Calls Tryz.prog 65 #[.agg #[.string a0_0, .string a0_1], .agg #[.string a1_0, .string a1_1]] w fun e w' => e = .returned (.tuple #[.int .i64 r1, .int .i64 r2]) ∧ Below w.heap.size w w' :=
  (QB.D.node_Cmp.calls k a0_0 a0_1 a1_0 a1_1 r1 r2 w h).mono fun _ _ h => ⟨h.1, h.2.toBelow⟩
theorem diff_order.calls (k : Nat) (a0_0 : ByteArray) (a0_1 : ByteArray) (a1_0 : ByteArray) (a1_1 : ByteArray) (r : Int) (w : World) (h : diff_order.f k a0_0 a0_1 a1_0 a1_1 = some r) :
    Calls Tryz.prog 49 #[.agg #[.string a0_0, .string a0_1], .agg #[.string a1_0, .string a1_1]] w fun e w' => e = .returned (.int .i64 r) ∧ Below w.heap.size w w' :=
  (QB.D.diff_order.calls k a0_0 a0_1 a1_0 a1_1 r w h).mono fun _ _ h => ⟨h.1, h.2.toBelow⟩
end Go.Proofs.YtohdmmafjpjmfaaGreatDoor.Q
end
section
namespace Go.Proofs.YtohdmmafjpjmfaaGreatDoor.Q
open Go.Proofs.YtohdmmafjpjmfaaGreatDoor.QB.D
open Go.RowKit Go.Proofs.YtohdmmafjpjmfaaGreatDoorW.PrintWords Go.Proofs.YtohdmmafjpjmfaaGreatDoorW.PrintLast Go.Proofs.YtohdmmafjpjmfaaGreatDoorW.PrintMore
attribute [local go_sem] max2_int min2_int max_two min_two max_three min_three max_four min_four   -- for this text's walks alone
set_option linter.unusedVariables false
set_option linter.unusedSimpArgs false
def diff_Check.l0 : Nat → List (S48) → List (S48) → Int → Int → Option (Int)
 | 0, _, _, _, _ => none
 | k + 1, x0, x5, x6, x7 => if x7 < x6 then (if 0 ≤ x7 then (if x7 < (x5.length : Int) then ((node_May.f k ((rd_T48 x5 x7).f0.f0) ((rd_T48 x5 x7).f0.f1)).bind fun t217 => (if t217 = true then (if ((rd_T48 x5 x7).f1) = 0 then (some 1) else (if ((rd_T48 x5 x7).f1) > 1099511627776 then (some 1) else (if ((rd_T48 x5 x7).f1) < (-1099511627776) then (some 1) else (if x7 > 0 then (if 0 ≤ (wrap64 (x7 - 1)) then (if (wrap64 (x7 - 1)) < (x0.length : Int) then ((diff_order.f k ((rd_T48 x0 (wrap64 (x7 - 1))).f0.f0) ((rd_T48 x0 (wrap64 (x7 - 1))).f0.f1) ((rd_T48 x5 x7).f0.f0) ((rd_T48 x5 x7).f0.f1)).bind fun t219 => (if t219 ≥ 0 then (some 1) else (diff_Check.l0 k x0 x5 x6 (wrap64 (x7 + 1))))) else (none)) else (none)) else (diff_Check.l0 k x0 x5 x6 (wrap64 (x7 + 1))))))) else (some 1))) else (none)) else (none)) else (some 0)
def diff_Check.f (k : Nat) (l0 : List (S48)) : Option (Int) := diff_Check.l0 k l0 l0 (l0.length : Int) 0
def diff_Check.T4 : Bool × List (List Nat × List Nat) := (true, [([], []), ([0], [0]), ([1], [1]), ([2], [2]), ([3, 2], [3]), ([4], [4]), ([5, 4], [4, 5]), ([6, 4], [4, 6]), ([4, 7], [4, 7]), ([8, 4], [8]), ([9], [9]), ([10, 9], [9, 10]), ([11, 9], [9, 11]), ([9, 12], [9, 12]), ([13, 9], [13]), ([14], [14]), ([15, 14], [14, 15]), ([16, 14], [14, 16]), ([14, 17], [14, 17]), ([18, 14], [18]), ([19], [19]), ([20, 19], [19, 20]), ([21, 19, 19], [19, 21]), ([22], [22]), ([22], [22]), ([24, 22], [22, 24]), ([23, 25, 22], [22, 23, 25]), ([26, 22], [22, 26]), ([27, 22], [22, 27]), ([22], [22]), ([29, 22], [22, 29]), ([28, 30, 22, 22], [22, 28, 30]), ([31, 22], [22, 31]), ([22, 32, 19], [19, 22, 32]), ([19, 33], [19, 33])])
def diff_Check.B4 : List Nat := [0, 1, 3, 7, 15, 31, 63, 127, 255, 511, 1023, 2047, 4095, 8191, 16383, 32767, 65535, 131071, 262143, 524287, 1048575, 2097151, 4194303, 8388607, 8388607, 25165823, 67108863, 134217727, 268435455, 8388607, 545259519, 2147483647, 4294967295, 8589934591, 17179869183]
theorem diff_Check.tab4 : rtab .any (opsOf Tryz.f32 4) = diff_Check.T4 := by kernel_rfl
theorem diff_Check.bits4 : waitsOk diff_Check.T4.2 diff_Check.B4 = true := by kernel_rfl
set_option maxHeartbeats 8000000 in
set_option maxRecDepth 100000 in
theorem diff_Check.calls (k : Nat) (A0 : Option Addr) (c0 : Nat) (l0 : List (S48)) (r : Int) (w : World) (hr0 : Kd.C k48 w A0 l0.length l0) (hc0 : l0.length ≤ c0) (h : diff_Check.f k l0 = some r) :
  Calls Tryz.prog 32 #[.slice A0 l0.length c0] w fun e w' => e = .returned (.int .i64 r) ∧ Below w.heap.size w w' := by
 have hu48 := Tryz.underlying48
 have hu34 := Tryz.underlying34
 have HR0 := Aside0.mk hr0
 have HC0 := Aside0.mk hc0
 clear hr0 hc0
 have HB := Aside0.mk (Below.refl w.heap.size w)
 have H : (diff_Check.l0 k l0 l0 (l0.length : Int) 0) = some r := h
 clear h
 have H' := Aside0.mk H
 clear H
 go_enter Tryz.func32, Tryz.ntmps32
 go_wp2
 go_loopg [7] k (fun kq v7 w' => ∃ (x7_1 : Int), v7 = .int .i64 x7_1 ∧ Aside0 (diff_Check.l0 kq l0 l0 (l0.length : Int) x7_1 = some r) ∧ Aside0 (kq ≤ k) ∧ Aside0 (Below w.heap.size w w'))
 case atStart => exact ⟨(0), (by first | rfl | (simp; done) | (simp [*]; done)), H', ⟨Nat.le_refl _⟩, ⟨by repeat (first | (with_reducible first | exact HB.out | apply below_alloc | apply pw_below_drewN | apply below_drew1) | exact HB.out)⟩⟩
 case round =>
  clear H'
  obtain ⟨x7_1, rfl, HA, HK1, HB⟩ := hrel
  cases gk with
  | zero => exact absurd HA.out (by simp [diff_Check.l0])
  | succ k1 =>
   have H := HA.out
   clear HA
   simp only [diff_Check.l0] at H
   by_cases c2 : x7_1 < (l0.length : Int)
   ·rw [if_pos c2] at H
    have c2b0 : decide (x7_1 < (l0.length : Int)) = true := decide_eq_true c2
    clear c2
    by_cases c3 : 0 ≤ x7_1
    ·rw [if_pos c3] at H
     have c3b0 : decide (0 ≤ x7_1) = true := decide_eq_true c3
     clear c3
     by_cases c4 : x7_1 < (l0.length : Int)
     ·rw [if_pos c4] at H
      have c4b0 : decide (x7_1 < (l0.length : Int)) = true := decide_eq_true c4
      clear c4
      replace H := Option.bind_eq_some_iff.mp H
      obtain ⟨t217, A50, H⟩ := H
      replace H : (if t217 = true then (if ((rd_T48 l0 x7_1).f1) = 0 then (some 1) else (if ((rd_T48 l0 x7_1).f1) > 1099511627776 then (some 1) else (if ((rd_T48 l0 x7_1).f1) < (-1099511627776) then (some 1) else (if x7_1 > 0 then (if 0 ≤ (wrap64 (x7_1 - 1)) then (if (wrap64 (x7_1 - 1)) < (l0.length : Int) then ((diff_order.f k1 ((rd_T48 l0 (wrap64 (x7_1 - 1))).f0.f0) ((rd_T48 l0 (wrap64 (x7_1 - 1))).f0.f1) ((rd_T48 l0 x7_1).f0.f0) ((rd_T48 l0 x7_1).f0.f1)).bind fun t219 => (if t219 ≥ 0 then (some 1) else (diff_Check.l0 k1 l0 l0 (l0.length : Int) (wrap64 (x7_1 + 1))))) else (none)) else (none)) else (diff_Check.l0 k1 l0 l0 (l0.length : Int) (wrap64 (x7_1 + 1))))))) else (some 1)) = some r := H
      have A5 := Aside0.mk A50
      clear A50
      by_cases c6 : t217 = true
      ·subst c6
       have H1 : (if ((rd_T48 l0 x7_1).f1) = 0 then (some 1) else (if ((rd_T48 l0 x7_1).f1) > 1099511627776 then (some 1) else (if ((rd_T48 l0 x7_1).f1) < (-1099511627776) then (some 1) else (if x7_1 > 0 then (if 0 ≤ (wrap64 (x7_1 - 1)) then (if (wrap64 (x7_1 - 1)) < (l0.length : Int) then ((diff_order.f k1 ((rd_T48 l0 (wrap64 (x7_1 - 1))).f0.f0) ((rd_T48 l0 (wrap64 (x7_1 - 1))).f0.f1) ((rd_T48 l0 x7_1).f0.f0) ((rd_T48 l0 x7_1).f0.f1)).bind fun t219 => (if t219 ≥ 0 then (some 1) else (diff_Check.l0 k1 l0 l0 (l0.length : Int) (wrap64 (x7_1 + 1))))) else (none)) else (none)) else (diff_Check.l0 k1 l0 l0 (l0.length : Int) (wrap64 (x7_1 + 1))))))) = some r := by rw [if_pos rfl] at H; exact H
       clear H
       have H := H1
       clear H1
       by_cases c7 : ((rd_T48 l0 x7_1).f1) = 0
       ·rw [if_pos c7] at H
        have c7b0 : (((rd_T48 l0 x7_1).f1) == 0) = true := beq_iff_eq.mpr c7
        have c7b1 : (((rd_T48 l0 x7_1).f1) != 0) = false := bne_eq_false_iff_eq.mpr c7
        clear c7
        obtain rfl := Option.some.inj H
        have p215 : 0 ≤ (x7_1 : Int) := of_decide_eq_true (by first | (with_reducible assumption) | assumption)
        have q215 : x7_1 < (l0.length : Int) := of_decide_eq_true (by first | (with_reducible assumption) | assumption)
        obtain ⟨ad215, e215, hx215_0, hx215_1, hx215_2⟩ := at_T48 HR0.out x7_1 p215 q215
        cases e215
        replace hx215_0 := (HB.out.cell (World.block_lt_of_cell? w _ hx215_0)).trans hx215_0
        replace hx215_1 := (HB.out.cell (World.block_lt_of_cell? w _ hx215_1)).trans hx215_1
        replace hx215_2 := (HB.out.cell (World.block_lt_of_cell? w _ hx215_2)).trans hx215_2
        replace p215 := eq_true p215
        replace q215 := eq_true q215
        try go_wp2_with (first | ((with_reducible refine gate_dst (N := 4) rfl ?_); refine box_event ?hg (N := 4) ?hd (cs := #[.string (⟨#[]⟩ : ByteArray), .string (⟨#[]⟩ : ByteArray), .int .i64 0]) (t := 48) ?hr ?_; (case hd => rfl); (case hg => rfl); (case hr => first | (go_simp; done) | (go_simp; rfl)); intro gb216 hg w8 hbox hb; have n0_ := Aside0.mk (below_step (by repeat (first | (with_reducible first | exact HB.out | apply below_alloc | apply pw_below_drewN | apply below_drew1) | exact HB.out)) hb); have n1_ := Aside0.mk (hbox); have n2_ := Aside0.mk ((by rw [hg]; exact (below_size (by repeat (first | (with_reducible first | exact HB.out | apply below_alloc | apply pw_below_drewN | apply below_drew1) | exact HB.out))) : w.heap.size ≤ gb216)); have n3_ := Aside0.mk ((by rw [hg]; exact (below_size (by repeat (first | (with_reducible first | exact HB.out | apply below_alloc | apply pw_below_drewN | apply below_drew1) | exact HB.out))) : w.heap.size ≤ gb216)); clear HB; have HB := n0_; have BK216 := n1_; have GW216 := n2_; have GE216 := n3_; clear n0_ n1_ n2_ n3_; clear hb hbox hg; have hcz9_0 : w8.cell? ⟨gb216, 0, none⟩ = some (.string (⟨#[]⟩ : ByteArray)) := (blk_cell BK216.out 0).trans rfl; have hcz9_1 : w8.cell? ⟨gb216, 1, none⟩ = some (.string (⟨#[]⟩ : ByteArray)) := (blk_cell BK216.out 1).trans rfl; have hcz9_2 : w8.cell? ⟨gb216, 2, none⟩ = some (.int .i64 0) := (blk_cell BK216.out 2).trans rfl; have hfz9_0 := blk_frozen BK216.out 0; have hfz9_1 := blk_frozen BK216.out 1; have hfz9_2 := blk_frozen BK216.out 2))
        have n0_ : Aside0 ((((w8.setCell ⟨gb216, 0, none⟩ (.string ((rd_T48 l0 x7_1).f0.f0))).setCell ⟨gb216, 1, none⟩ (.string ((rd_T48 l0 x7_1).f0.f1))).setCell ⟨gb216, 2, none⟩ (.int .i64 ((rd_T48 l0 x7_1).f1))).heap[gb216]? = some (.cells #[.string ((rd_T48 l0 x7_1).f0.f0), .string ((rd_T48 l0 x7_1).f0.f1), .int .i64 ((rd_T48 l0 x7_1).f1)] 48 (0, 0))) := ⟨by (with_reducible repeat (first | refine blk_drewN ?_ _ | refine blk_drew ?_ | refine blk_alloc ?_ _)); refine blk_put (cs := #[.string ((rd_T48 l0 x7_1).f0.f0), .string ((rd_T48 l0 x7_1).f0.f1), .int .i64 0]) ?_ 2 _ rfl; (with_reducible repeat (first | refine blk_drewN ?_ _ | refine blk_drew ?_ | refine blk_alloc ?_ _)); refine blk_put (cs := #[.string ((rd_T48 l0 x7_1).f0.f0), .string (⟨#[]⟩ : ByteArray), .int .i64 0]) ?_ 1 _ rfl; (with_reducible repeat (first | refine blk_drewN ?_ _ | refine blk_drew ?_ | refine blk_alloc ?_ _)); refine blk_put (cs := #[.string (⟨#[]⟩ : ByteArray), .string (⟨#[]⟩ : ByteArray), .int .i64 0]) ?_ 0 _ rfl; (with_reducible repeat (first | refine blk_drewN ?_ _ | refine blk_drew ?_ | refine blk_alloc ?_ _)); exact BK216.out⟩
        have n1_ : Aside0 (Below w.heap.size w (((w8.setCell ⟨gb216, 0, none⟩ (.string ((rd_T48 l0 x7_1).f0.f0))).setCell ⟨gb216, 1, none⟩ (.string ((rd_T48 l0 x7_1).f0.f1))).setCell ⟨gb216, 2, none⟩ (.int .i64 ((rd_T48 l0 x7_1).f1)))) := ⟨by repeat (first | (with_reducible first | exact HB.out | apply below_alloc | apply pw_below_drewN | apply below_drew1 | refine below_set ?_ GE216.out) | exact HB.out)⟩
        (try clear BK216)
        (try clear HB)
        generalize (((w8.setCell ⟨gb216, 0, none⟩ (.string ((rd_T48 l0 x7_1).f0.f0))).setCell ⟨gb216, 1, none⟩ (.string ((rd_T48 l0 x7_1).f0.f1))).setCell ⟨gb216, 2, none⟩ (.int .i64 ((rd_T48 l0 x7_1).f1))) = w10 at n0_ n1_ ⊢
        have BK216 := n0_
        have HB := n1_
        clear n0_ n1_
        have n0_ := Aside0.mk (blk_drew BK216.out)
        have n1_ := Aside0.mk (below_drew1 HB.out)
        clear BK216 HB
        have BK216 := n0_
        have HB := n1_
        clear n0_ n1_
        refine start_ (n := 35) (S := fun w' => w'.cell? ⟨gb216, 0, none⟩ = some (.string ((rd_T48 l0 x7_1).f0.f0)) ∧ w'.cell? ⟨gb216, 1, none⟩ = some (.string ((rd_T48 l0 x7_1).f0.f1)) ∧ w'.cell? ⟨gb216, 2, none⟩ = some (.int .i64 ((rd_T48 l0 x7_1).f1))) (ds := []) #[false, false, false, false, false, false, false, false, false, false, false, false, false, false, false, false, false, false, false, false, false, false, false, false, false, false, false, false, false, false, false, false, false, false, false] (by kernel_rfl) rfl rfl ⟨(blk_cell BK216.out 0).trans rfl, (blk_cell BK216.out 1).trans rfl, (blk_cell BK216.out 2).trans rfl⟩ (fun hHeld => ?_); refine with_tabW diff_Check.tab4 diff_Check.bits4 (fun HT_ HW_ => ?_)
        generalize w10.drew = w11 at BK216 HB hHeld ⊢
        refine pz_ 0 12 HT_.out ?_
        refine tz_ 1 13 HT_.out HW_.out hHeld ?_
        refine one_ (i := 2) (N := some 14) #[true, true, true, false, false, false, false, false, false, false, false, false, false, false, false, false, false, false, false, false, false, false, false, false, false, false, false, false, false, false, false, false, false, false, false] rfl rfl (one_of HT_.out (by kernel_rfl)) (by decide) (fun K hK => ?_)
        refine goes_ Tryz.func45 (by kernel_rfl) rfl #[.agg #[.string ((rd_T48 l0 x7_1).f0.f0), .string ((rd_T48 l0 x7_1).f0.f1)]] (by rfl) rfl rfl (by (try simp only [List.map_toArray, List.map_cons, List.map_nil]); first | done | rfl | (simp only [List.length_drop, List.length_take]; rfl)) ?_
        with_reducible refine (node_May.calls k1 ((rd_T48 l0 x7_1).f0.f0) ((rd_T48 l0 x7_1).f0.f1) true _ A5.out).mono ?_
        rintro e w12 ⟨rfl, hb⟩
        refine ⟨_, rfl, ?_⟩
        have n0_ := Aside0.mk (blk_below (g := gb216) (o := .cells #[.string ((rd_T48 l0 x7_1).f0.f0), .string ((rd_T48 l0 x7_1).f0.f1), .int .i64 ((rd_T48 l0 x7_1).f1)] 48 (0, 0)) (by (with_reducible repeat (first | refine blk_drewN ?_ _ | refine blk_drew ?_ | refine blk_alloc ?_ _)); exact BK216.out) hb)
        have n1_ := Aside0.mk (below_step (by repeat (first | (with_reducible first | exact HB.out | apply below_alloc | apply pw_below_drewN | apply below_drew1 | refine below_set ?_ GE216.out) | exact HB.out)) hb)
        clear BK216 HB
        have BK216 := n0_
        have HB := n1_
        clear n0_ n1_
        (try clear hb)
        (try clear hb2)
        (try clear hk)
        (try clear hi)
        refine hK.out _ _ ⟨(blk_cell BK216.out 0).trans rfl, (blk_cell BK216.out 1).trans rfl, (blk_cell BK216.out 2).trans rfl⟩ (fun hHeld => ?_)
        clear hK K
        refine nz_ 14 ?_
        refine pz_ 3 15 HT_.out ?_
        refine pz_ 4 16 HT_.out ?_
        refine pz_ 5 17 HT_.out ?_
        refine tz_ 6 18 HT_.out HW_.out hHeld ?_
        refine pz_ 7 19 HT_.out ?_
        refine pz_ 8 20 HT_.out ?_
        refine pz_ 9 21 HT_.out ?_
        refine pu_ 10 22 HT_.out ?_
        refine pu_ 11 23 HT_.out ?_
        refine pu_ 12 24 HT_.out ?_
        refine pz_ 13 25 HT_.out ?_
        refine pz_ 14 26 HT_.out ?_
        refine pu_ 15 27 HT_.out ?_
        refine pu_ 16 28 HT_.out ?_
        refine pu_ 17 29 HT_.out ?_
        refine pz_ 18 30 HT_.out ?_
        refine pz_ 19 31 HT_.out ?_
        refine pu_ 20 32 HT_.out ?_
        refine pu_ 21 33 HT_.out ?_
        refine pu_ 22 34 HT_.out ?_
        refine pu_ 23 35 HT_.out ?_
        refine pu_ 24 36 HT_.out ?_
        refine pu_ 25 37 HT_.out ?_
        refine pu_ 26 38 HT_.out ?_
        refine pu_ 27 39 HT_.out ?_
        refine pu_ 28 40 HT_.out ?_
        refine pu_ 29 41 HT_.out ?_
        refine pu_ 30 42 HT_.out ?_
        refine pu_ 31 43 HT_.out ?_
        refine pu_ 32 44 HT_.out ?_
        refine pu_ 33 45 HT_.out ?_
        refine pz_ 34 46 HT_.out ?_
        refine done_ (done_of HT_.out (by kernel_rfl)) ?_
        try go_wp2
        go_ret
        exact ⟨by first | rfl | (simp [errW_none, errW_some] <;> rfl) | (simp [*, errW_none, errW_some] <;> rfl), by repeat (first | (with_reducible first | exact HB.out | apply below_alloc | apply pw_below_drewN | apply below_drew1 | refine below_set ?_ GE216.out) | exact HB.out)⟩
       ·rw [if_neg c7] at H
        have c7b0 : (((rd_T48 l0 x7_1).f1) == 0) = false := beq_eq_false_iff_ne.mpr c7
        have c7b1 : (((rd_T48 l0 x7_1).f1) != 0) = true := bne_iff_ne.mpr c7
        by_cases c13 : ((rd_T48 l0 x7_1).f1) > 1099511627776
        ·rw [if_pos c13] at H
         have c13b0 : decide (1099511627776 < ((rd_T48 l0 x7_1).f1)) = true := decide_eq_true c13
         clear c13
         obtain rfl := Option.some.inj H
         have p215 : 0 ≤ (x7_1 : Int) := of_decide_eq_true (by first | (with_reducible assumption) | assumption)
         have q215 : x7_1 < (l0.length : Int) := of_decide_eq_true (by first | (with_reducible assumption) | assumption)
         obtain ⟨ad215, e215, hx215_0, hx215_1, hx215_2⟩ := at_T48 HR0.out x7_1 p215 q215
         cases e215
         replace hx215_0 := (HB.out.cell (World.block_lt_of_cell? w _ hx215_0)).trans hx215_0
         replace hx215_1 := (HB.out.cell (World.block_lt_of_cell? w _ hx215_1)).trans hx215_1
         replace hx215_2 := (HB.out.cell (World.block_lt_of_cell? w _ hx215_2)).trans hx215_2
         replace p215 := eq_true p215
         replace q215 := eq_true q215
         try go_wp2_with (first | ((with_reducible refine gate_dst (N := 4) rfl ?_); refine box_event ?hg (N := 4) ?hd (cs := #[.string (⟨#[]⟩ : ByteArray), .string (⟨#[]⟩ : ByteArray), .int .i64 0]) (t := 48) ?hr ?_; (case hd => rfl); (case hg => rfl); (case hr => first | (go_simp; done) | (go_simp; rfl)); intro gb216 hg w14 hbox hb; have n0_ := Aside0.mk (below_step (by repeat (first | (with_reducible first | exact HB.out | apply below_alloc | apply pw_below_drewN | apply below_drew1) | exact HB.out)) hb); have n1_ := Aside0.mk (hbox); have n2_ := Aside0.mk ((by rw [hg]; exact (below_size (by repeat (first | (with_reducible first | exact HB.out | apply below_alloc | apply pw_below_drewN | apply below_drew1) | exact HB.out))) : w.heap.size ≤ gb216)); have n3_ := Aside0.mk ((by rw [hg]; exact (below_size (by repeat (first | (with_reducible first | exact HB.out | apply below_alloc | apply pw_below_drewN | apply below_drew1) | exact HB.out))) : w.heap.size ≤ gb216)); clear HB; have HB := n0_; have BK216 := n1_; have GW216 := n2_; have GE216 := n3_; clear n0_ n1_ n2_ n3_; clear hb hbox hg; have hcz15_0 : w14.cell? ⟨gb216, 0, none⟩ = some (.string (⟨#[]⟩ : ByteArray)) := (blk_cell BK216.out 0).trans rfl; have hcz15_1 : w14.cell? ⟨gb216, 1, none⟩ = some (.string (⟨#[]⟩ : ByteArray)) := (blk_cell BK216.out 1).trans rfl; have hcz15_2 : w14.cell? ⟨gb216, 2, none⟩ = some (.int .i64 0) := (blk_cell BK216.out 2).trans rfl; have hfz15_0 := blk_frozen BK216.out 0; have hfz15_1 := blk_frozen BK216.out 1; have hfz15_2 := blk_frozen BK216.out 2))
         have n0_ : Aside0 ((((w14.setCell ⟨gb216, 0, none⟩ (.string ((rd_T48 l0 x7_1).f0.f0))).setCell ⟨gb216, 1, none⟩ (.string ((rd_T48 l0 x7_1).f0.f1))).setCell ⟨gb216, 2, none⟩ (.int .i64 ((rd_T48 l0 x7_1).f1))).heap[gb216]? = some (.cells #[.string ((rd_T48 l0 x7_1).f0.f0), .string ((rd_T48 l0 x7_1).f0.f1), .int .i64 ((rd_T48 l0 x7_1).f1)] 48 (0, 0))) := ⟨by (with_reducible repeat (first | refine blk_drewN ?_ _ | refine blk_drew ?_ | refine blk_alloc ?_ _)); refine blk_put (cs := #[.string ((rd_T48 l0 x7_1).f0.f0), .string ((rd_T48 l0 x7_1).f0.f1), .int .i64 0]) ?_ 2 _ rfl; (with_reducible repeat (first | refine blk_drewN ?_ _ | refine blk_drew ?_ | refine blk_alloc ?_ _)); refine blk_put (cs := #[.string ((rd_T48 l0 x7_1).f0.f0), .string (⟨#[]⟩ : ByteArray), .int .i64 0]) ?_ 1 _ rfl; (with_reducible repeat (first | refine blk_drewN ?_ _ | refine blk_drew ?_ | refine blk_alloc ?_ _)); refine blk_put (cs := #[.string (⟨#[]⟩ : ByteArray), .string (⟨#[]⟩ : ByteArray), .int .i64 0]) ?_ 0 _ rfl; (with_reducible repeat (first | refine blk_drewN ?_ _ | refine blk_drew ?_ | refine blk_alloc ?_ _)); exact BK216.out⟩
         have n1_ : Aside0 (Below w.heap.size w (((w14.setCell ⟨gb216, 0, none⟩ (.string ((rd_T48 l0 x7_1).f0.f0))).setCell ⟨gb216, 1, none⟩ (.string ((rd_T48 l0 x7_1).f0.f1))).setCell ⟨gb216, 2, none⟩ (.int .i64 ((rd_T48 l0 x7_1).f1)))) := ⟨by repeat (first | (with_reducible first | exact HB.out | apply below_alloc | apply pw_below_drewN | apply below_drew1 | refine below_set ?_ GE216.out) | exact HB.out)⟩
         (try clear BK216)
         (try clear HB)
         generalize (((w14.setCell ⟨gb216, 0, none⟩ (.string ((rd_T48 l0 x7_1).f0.f0))).setCell ⟨gb216, 1, none⟩ (.string ((rd_T48 l0 x7_1).f0.f1))).setCell ⟨gb216, 2, none⟩ (.int .i64 ((rd_T48 l0 x7_1).f1))) = w16 at n0_ n1_ ⊢
         have BK216 := n0_
         have HB := n1_
         clear n0_ n1_
         have n0_ := Aside0.mk (blk_drew BK216.out)
         have n1_ := Aside0.mk (below_drew1 HB.out)
         clear BK216 HB
         have BK216 := n0_
         have HB := n1_
         clear n0_ n1_
         refine start_ (n := 35) (S := fun w' => w'.cell? ⟨gb216, 0, none⟩ = some (.string ((rd_T48 l0 x7_1).f0.f0)) ∧ w'.cell? ⟨gb216, 1, none⟩ = some (.string ((rd_T48 l0 x7_1).f0.f1)) ∧ w'.cell? ⟨gb216, 2, none⟩ = some (.int .i64 ((rd_T48 l0 x7_1).f1))) (ds := []) #[false, false, false, false, false, false, false, false, false, false, false, false, false, false, false, false, false, false, false, false, false, false, false, false, false, false, false, false, false, false, false, false, false, false, false] (by kernel_rfl) rfl rfl ⟨(blk_cell BK216.out 0).trans rfl, (blk_cell BK216.out 1).trans rfl, (blk_cell BK216.out 2).trans rfl⟩ (fun hHeld => ?_); refine with_tabW diff_Check.tab4 diff_Check.bits4 (fun HT_ HW_ => ?_)
         generalize w16.drew = w17 at BK216 HB hHeld ⊢
         refine pz_ 0 12 HT_.out ?_
         refine tz_ 1 13 HT_.out HW_.out hHeld ?_
         refine one_ (i := 2) (N := some 14) #[true, true, true, false, false, false, false, false, false, false, false, false, false, false, false, false, false, false, false, false, false, false, false, false, false, false, false, false, false, false, false, false, false, false, false] rfl rfl (one_of HT_.out (by kernel_rfl)) (by decide) (fun K hK => ?_)
         refine goes_ Tryz.func45 (by kernel_rfl) rfl #[.agg #[.string ((rd_T48 l0 x7_1).f0.f0), .string ((rd_T48 l0 x7_1).f0.f1)]] (by rfl) rfl rfl (by (try simp only [List.map_toArray, List.map_cons, List.map_nil]); first | done | rfl | (simp only [List.length_drop, List.length_take]; rfl)) ?_
         with_reducible refine (node_May.calls k1 ((rd_T48 l0 x7_1).f0.f0) ((rd_T48 l0 x7_1).f0.f1) true _ A5.out).mono ?_
         rintro e w18 ⟨rfl, hb⟩
         refine ⟨_, rfl, ?_⟩
         have n0_ := Aside0.mk (blk_below (g := gb216) (o := .cells #[.string ((rd_T48 l0 x7_1).f0.f0), .string ((rd_T48 l0 x7_1).f0.f1), .int .i64 ((rd_T48 l0 x7_1).f1)] 48 (0, 0)) (by (with_reducible repeat (first | refine blk_drewN ?_ _ | refine blk_drew ?_ | refine blk_alloc ?_ _)); exact BK216.out) hb)
         have n1_ := Aside0.mk (below_step (by repeat (first | (with_reducible first | exact HB.out | apply below_alloc | apply pw_below_drewN | apply below_drew1 | refine below_set ?_ GE216.out) | exact HB.out)) hb)
         clear BK216 HB
         have BK216 := n0_
         have HB := n1_
         clear n0_ n1_
         (try clear hb)
         (try clear hb2)
         (try clear hk)
         (try clear hi)
         refine hK.out _ _ ⟨(blk_cell BK216.out 0).trans rfl, (blk_cell BK216.out 1).trans rfl, (blk_cell BK216.out 2).trans rfl⟩ (fun hHeld => ?_)
         clear hK K
         refine nz_ 14 ?_
         refine pz_ 3 15 HT_.out ?_
         refine pz_ 4 16 HT_.out ?_
         refine pz_ 5 17 HT_.out ?_
         refine tz_ 6 18 HT_.out HW_.out hHeld ?_
         refine pz_ 7 19 HT_.out ?_
         refine pz_ 8 20 HT_.out ?_
         refine pz_ 9 21 HT_.out ?_
         refine pz_ 10 22 HT_.out ?_
         refine tz_ 11 23 HT_.out HW_.out hHeld ?_
         refine pz_ 12 24 HT_.out ?_
         refine pz_ 13 25 HT_.out ?_
         refine pz_ 14 26 HT_.out ?_
         refine pu_ 15 27 HT_.out ?_
         refine pu_ 16 28 HT_.out ?_
         refine pu_ 17 29 HT_.out ?_
         refine pz_ 18 30 HT_.out ?_
         refine pz_ 19 31 HT_.out ?_
         refine pu_ 20 32 HT_.out ?_
         refine pu_ 21 33 HT_.out ?_
         refine pu_ 22 34 HT_.out ?_
         refine pu_ 23 35 HT_.out ?_
         refine pu_ 24 36 HT_.out ?_
         refine pu_ 25 37 HT_.out ?_
         refine pu_ 26 38 HT_.out ?_
         refine pu_ 27 39 HT_.out ?_
         refine pu_ 28 40 HT_.out ?_
         refine pu_ 29 41 HT_.out ?_
         refine pu_ 30 42 HT_.out ?_
         refine pu_ 31 43 HT_.out ?_
         refine pu_ 32 44 HT_.out ?_
         refine pu_ 33 45 HT_.out ?_
         refine pz_ 34 46 HT_.out ?_
         refine done_ (done_of HT_.out (by kernel_rfl)) ?_
         try go_wp2
         go_ret
         exact ⟨by first | rfl | (simp [errW_none, errW_some] <;> rfl) | (simp [*, errW_none, errW_some] <;> rfl), by repeat (first | (with_reducible first | exact HB.out | apply below_alloc | apply pw_below_drewN | apply below_drew1 | refine below_set ?_ GE216.out) | exact HB.out)⟩
        ·rw [if_neg c13] at H
         have c13b0 : decide (1099511627776 < ((rd_T48 l0 x7_1).f1)) = false := decide_eq_false c13
         clear c13
         by_cases c19 : ((rd_T48 l0 x7_1).f1) < (-1099511627776)
         ·rw [if_pos c19] at H
          have c19b0 : decide (((rd_T48 l0 x7_1).f1) < (-1099511627776)) = true := decide_eq_true c19
          clear c19
          obtain rfl := Option.some.inj H
          have p215 : 0 ≤ (x7_1 : Int) := of_decide_eq_true (by first | (with_reducible assumption) | assumption)
          have q215 : x7_1 < (l0.length : Int) := of_decide_eq_true (by first | (with_reducible assumption) | assumption)
          obtain ⟨ad215, e215, hx215_0, hx215_1, hx215_2⟩ := at_T48 HR0.out x7_1 p215 q215
          cases e215
          replace hx215_0 := (HB.out.cell (World.block_lt_of_cell? w _ hx215_0)).trans hx215_0
          replace hx215_1 := (HB.out.cell (World.block_lt_of_cell? w _ hx215_1)).trans hx215_1
          replace hx215_2 := (HB.out.cell (World.block_lt_of_cell? w _ hx215_2)).trans hx215_2
          replace p215 := eq_true p215
          replace q215 := eq_true q215
          try go_wp2_with (first | ((with_reducible refine gate_dst (N := 4) rfl ?_); refine box_event ?hg (N := 4) ?hd (cs := #[.string (⟨#[]⟩ : ByteArray), .string (⟨#[]⟩ : ByteArray), .int .i64 0]) (t := 48) ?hr ?_; (case hd => rfl); (case hg => rfl); (case hr => first | (go_simp; done) | (go_simp; rfl)); intro gb216 hg w20 hbox hb; have n0_ := Aside0.mk (below_step (by repeat (first | (with_reducible first | exact HB.out | apply below_alloc | apply pw_below_drewN | apply below_drew1) | exact HB.out)) hb); have n1_ := Aside0.mk (hbox); have n2_ := Aside0.mk ((by rw [hg]; exact (below_size (by repeat (first | (with_reducible first | exact HB.out | apply below_alloc | apply pw_below_drewN | apply below_drew1) | exact HB.out))) : w.heap.size ≤ gb216)); have n3_ := Aside0.mk ((by rw [hg]; exact (below_size (by repeat (first | (with_reducible first | exact HB.out | apply below_alloc | apply pw_below_drewN | apply below_drew1) | exact HB.out))) : w.heap.size ≤ gb216)); clear HB; have HB := n0_; have BK216 := n1_; have GW216 := n2_; have GE216 := n3_; clear n0_ n1_ n2_ n3_; clear hb hbox hg; have hcz21_0 : w20.cell? ⟨gb216, 0, none⟩ = some (.string (⟨#[]⟩ : ByteArray)) := (blk_cell BK216.out 0).trans rfl; have hcz21_1 : w20.cell? ⟨gb216, 1, none⟩ = some (.string (⟨#[]⟩ : ByteArray)) := (blk_cell BK216.out 1).trans rfl; have hcz21_2 : w20.cell? ⟨gb216, 2, none⟩ = some (.int .i64 0) := (blk_cell BK216.out 2).trans rfl; have hfz21_0 := blk_frozen BK216.out 0; have hfz21_1 := blk_frozen BK216.out 1; have hfz21_2 := blk_frozen BK216.out 2))
          have n0_ : Aside0 ((((w20.setCell ⟨gb216, 0, none⟩ (.string ((rd_T48 l0 x7_1).f0.f0))).setCell ⟨gb216, 1, none⟩ (.string ((rd_T48 l0 x7_1).f0.f1))).setCell ⟨gb216, 2, none⟩ (.int .i64 ((rd_T48 l0 x7_1).f1))).heap[gb216]? = some (.cells #[.string ((rd_T48 l0 x7_1).f0.f0), .string ((rd_T48 l0 x7_1).f0.f1), .int .i64 ((rd_T48 l0 x7_1).f1)] 48 (0, 0))) := ⟨by (with_reducible repeat (first | refine blk_drewN ?_ _ | refine blk_drew ?_ | refine blk_alloc ?_ _)); refine blk_put (cs := #[.string ((rd_T48 l0 x7_1).f0.f0), .string ((rd_T48 l0 x7_1).f0.f1), .int .i64 0]) ?_ 2 _ rfl; (with_reducible repeat (first | refine blk_drewN ?_ _ | refine blk_drew ?_ | refine blk_alloc ?_ _)); refine blk_put (cs := #[.string ((rd_T48 l0 x7_1).f0.f0), .string (⟨#[]⟩ : ByteArray), .int .i64 0]) ?_ 1 _ rfl; (with_reducible repeat (first | refine blk_drewN ?_ _ | refine blk_drew ?_ | refine blk_alloc ?_ _)); refine blk_put (cs := #[.string (⟨#[]⟩ : ByteArray), .string (⟨#[]⟩ : ByteArray), .int .i64 0]) ?_ 0 _ rfl; (with_reducible repeat (first | refine blk_drewN ?_ _ | refine blk_drew ?_ | refine blk_alloc ?_ _)); exact BK216.out⟩
          have n1_ : Aside0 (Below w.heap.size w (((w20.setCell ⟨gb216, 0, none⟩ (.string ((rd_T48 l0 x7_1).f0.f0))).setCell ⟨gb216, 1, none⟩ (.string ((rd_T48 l0 x7_1).f0.f1))).setCell ⟨gb216, 2, none⟩ (.int .i64 ((rd_T48 l0 x7_1).f1)))) := ⟨by repeat (first | (with_reducible first | exact HB.out | apply below_alloc | apply pw_below_drewN | apply below_drew1 | refine below_set ?_ GE216.out) | exact HB.out)⟩
          (try clear BK216)
          (try clear HB)
          generalize (((w20.setCell ⟨gb216, 0, none⟩ (.string ((rd_T48 l0 x7_1).f0.f0))).setCell ⟨gb216, 1, none⟩ (.string ((rd_T48 l0 x7_1).f0.f1))).setCell ⟨gb216, 2, none⟩ (.int .i64 ((rd_T48 l0 x7_1).f1))) = w22 at n0_ n1_ ⊢
          have BK216 := n0_
          have HB := n1_
          clear n0_ n1_
          have n0_ := Aside0.mk (blk_drew BK216.out)
          have n1_ := Aside0.mk (below_drew1 HB.out)
          clear BK216 HB
          have BK216 := n0_
          have HB := n1_
          clear n0_ n1_
          refine start_ (n := 35) (S := fun w' => w'.cell? ⟨gb216, 0, none⟩ = some (.string ((rd_T48 l0 x7_1).f0.f0)) ∧ w'.cell? ⟨gb216, 1, none⟩ = some (.string ((rd_T48 l0 x7_1).f0.f1)) ∧ w'.cell? ⟨gb216, 2, none⟩ = some (.int .i64 ((rd_T48 l0 x7_1).f1))) (ds := []) #[false, false, false, false, false, false, false, false, false, false, false, false, false, false, false, false, false, false, false, false, false, false, false, false, false, false, false, false, false, false, false, false, false, false, false] (by kernel_rfl) rfl rfl ⟨(blk_cell BK216.out 0).trans rfl, (blk_cell BK216.out 1).trans rfl, (blk_cell BK216.out 2).trans rfl⟩ (fun hHeld => ?_); refine with_tabW diff_Check.tab4 diff_Check.bits4 (fun HT_ HW_ => ?_)
          generalize w22.drew = w23 at BK216 HB hHeld ⊢
          refine pz_ 0 12 HT_.out ?_
          refine tz_ 1 13 HT_.out HW_.out hHeld ?_
          refine one_ (i := 2) (N := some 14) #[true, true, true, false, false, false, false, false, false, false, false, false, false, false, false, false, false, false, false, false, false, false, false, false, false, false, false, false, false, false, false, false, false, false, false] rfl rfl (one_of HT_.out (by kernel_rfl)) (by decide) (fun K hK => ?_)
          refine goes_ Tryz.func45 (by kernel_rfl) rfl #[.agg #[.string ((rd_T48 l0 x7_1).f0.f0), .string ((rd_T48 l0 x7_1).f0.f1)]] (by rfl) rfl rfl (by (try simp only [List.map_toArray, List.map_cons, List.map_nil]); first | done | rfl | (simp only [List.length_drop, List.length_take]; rfl)) ?_
          with_reducible refine (node_May.calls k1 ((rd_T48 l0 x7_1).f0.f0) ((rd_T48 l0 x7_1).f0.f1) true _ A5.out).mono ?_
          rintro e w24 ⟨rfl, hb⟩
          refine ⟨_, rfl, ?_⟩
          have n0_ := Aside0.mk (blk_below (g := gb216) (o := .cells #[.string ((rd_T48 l0 x7_1).f0.f0), .string ((rd_T48 l0 x7_1).f0.f1), .int .i64 ((rd_T48 l0 x7_1).f1)] 48 (0, 0)) (by (with_reducible repeat (first | refine blk_drewN ?_ _ | refine blk_drew ?_ | refine blk_alloc ?_ _)); exact BK216.out) hb)
          have n1_ := Aside0.mk (below_step (by repeat (first | (with_reducible first | exact HB.out | apply below_alloc | apply pw_below_drewN | apply below_drew1 | refine below_set ?_ GE216.out) | exact HB.out)) hb)
          clear BK216 HB
          have BK216 := n0_
          have HB := n1_
          clear n0_ n1_
          (try clear hb)
          (try clear hb2)
          (try clear hk)
          (try clear hi)
          refine hK.out _ _ ⟨(blk_cell BK216.out 0).trans rfl, (blk_cell BK216.out 1).trans rfl, (blk_cell BK216.out 2).trans rfl⟩ (fun hHeld => ?_)
          clear hK K
          refine nz_ 14 ?_
          refine pz_ 3 15 HT_.out ?_
          refine pz_ 4 16 HT_.out ?_
          refine pz_ 5 17 HT_.out ?_
          refine tz_ 6 18 HT_.out HW_.out hHeld ?_
          refine pz_ 7 19 HT_.out ?_
          refine pz_ 8 20 HT_.out ?_
          refine pz_ 9 21 HT_.out ?_
          refine pz_ 10 22 HT_.out ?_
          refine tz_ 11 23 HT_.out HW_.out hHeld ?_
          refine pz_ 12 24 HT_.out ?_
          refine pz_ 13 25 HT_.out ?_
          refine pz_ 14 26 HT_.out ?_
          refine pz_ 15 27 HT_.out ?_
          refine tz_ 16 28 HT_.out HW_.out hHeld ?_
          refine pz_ 17 29 HT_.out ?_
          refine pz_ 18 30 HT_.out ?_
          refine pz_ 19 31 HT_.out ?_
          refine pu_ 20 32 HT_.out ?_
          refine pu_ 21 33 HT_.out ?_
          refine pu_ 22 34 HT_.out ?_
          refine pu_ 23 35 HT_.out ?_
          refine pu_ 24 36 HT_.out ?_
          refine pu_ 25 37 HT_.out ?_
          refine pu_ 26 38 HT_.out ?_
          refine pu_ 27 39 HT_.out ?_
          refine pu_ 28 40 HT_.out ?_
          refine pu_ 29 41 HT_.out ?_
          refine pu_ 30 42 HT_.out ?_
          refine pu_ 31 43 HT_.out ?_
          refine pu_ 32 44 HT_.out ?_
          refine pu_ 33 45 HT_.out ?_
          refine pz_ 34 46 HT_.out ?_
          refine done_ (done_of HT_.out (by kernel_rfl)) ?_
          try go_wp2
          go_ret
          exact ⟨by first | rfl | (simp [errW_none, errW_some] <;> rfl) | (simp [*, errW_none, errW_some] <;> rfl), by repeat (first | (with_reducible first | exact HB.out | apply below_alloc | apply pw_below_drewN | apply below_drew1 | refine below_set ?_ GE216.out) | exact HB.out)⟩
         ·rw [if_neg c19] at H
          have c19b0 : decide (((rd_T48 l0 x7_1).f1) < (-1099511627776)) = false := decide_eq_false c19
          clear c19
          by_cases c25 : x7_1 > 0
          ·rw [if_pos c25] at H
           have c25b0 : decide (0 < x7_1) = true := decide_eq_true c25
           clear c25
           obtain ⟨ji26, hji26⟩ : ∃ j_ : Int, (wrap64 (x7_1 - 1)) = j_ := ⟨_, rfl⟩
           replace H : (if 0 ≤ (ji26) then (if (ji26) < (l0.length : Int) then ((diff_order.f k1 ((rd_T48 l0 (ji26)).f0.f0) ((rd_T48 l0 (ji26)).f0.f1) ((rd_T48 l0 x7_1).f0.f0) ((rd_T48 l0 x7_1).f0.f1)).bind fun t219 => (if t219 ≥ 0 then (some 1) else (diff_Check.l0 k1 l0 l0 (l0.length : Int) (wrap64 (x7_1 + 1))))) else (none)) else (none)) = some r := by first | (rw [hji26] at H; exact H) | (simp only [hji26] at H ⊢; exact H)
           (try rw [hji26] at A5)
           have hji26w : (IntKind.i64.wrap (x7_1 - 1)) = ji26 := (i64_w _).trans hji26
           by_cases c27 : 0 ≤ (ji26)
           ·rw [if_pos c27] at H
            have c27b0 : decide (0 ≤ (ji26)) = true := decide_eq_true c27
            clear c27
            by_cases c28 : (ji26) < (l0.length : Int)
            ·rw [if_pos c28] at H
             have c28b0 : decide ((ji26) < (l0.length : Int)) = true := decide_eq_true c28
             clear c28
             replace H := Option.bind_eq_some_iff.mp H
             obtain ⟨t219, A290, H⟩ := H
             replace H : (if t219 ≥ 0 then (some 1) else (diff_Check.l0 k1 l0 l0 (l0.length : Int) (wrap64 (x7_1 + 1)))) = some r := H
             have A29 := Aside0.mk A290
             clear A290
             by_cases c30 : t219 ≥ 0
             ·rw [if_pos c30] at H
              have c30b0 : decide (0 ≤ t219) = true := decide_eq_true c30
              clear c30
              obtain rfl := Option.some.inj H
              have p215 : 0 ≤ (x7_1 : Int) := of_decide_eq_true (by first | (with_reducible assumption) | assumption)
              have q215 : x7_1 < (l0.length : Int) := of_decide_eq_true (by first | (with_reducible assumption) | assumption)
              obtain ⟨ad215, e215, hx215_0, hx215_1, hx215_2⟩ := at_T48 HR0.out x7_1 p215 q215
              cases e215
              replace hx215_0 := (HB.out.cell (World.block_lt_of_cell? w _ hx215_0)).trans hx215_0
              replace hx215_1 := (HB.out.cell (World.block_lt_of_cell? w _ hx215_1)).trans hx215_1
              replace hx215_2 := (HB.out.cell (World.block_lt_of_cell? w _ hx215_2)).trans hx215_2
              replace p215 := eq_true p215
              replace q215 := eq_true q215
              try go_wp2_with (first | ((with_reducible refine gate_dst (N := 4) rfl ?_); refine box_event ?hg (N := 4) ?hd (cs := #[.string (⟨#[]⟩ : ByteArray), .string (⟨#[]⟩ : ByteArray), .int .i64 0]) (t := 48) ?hr ?_; (case hd => rfl); (case hg => rfl); (case hr => first | (go_simp; done) | (go_simp; rfl)); intro gb216 hg w31 hbox hb; have n0_ := Aside0.mk (below_step (by repeat (first | (with_reducible first | exact HB.out | apply below_alloc | apply pw_below_drewN | apply below_drew1) | exact HB.out)) hb); have n1_ := Aside0.mk (hbox); have n2_ := Aside0.mk ((by rw [hg]; exact (below_size (by repeat (first | (with_reducible first | exact HB.out | apply below_alloc | apply pw_below_drewN | apply below_drew1) | exact HB.out))) : w.heap.size ≤ gb216)); have n3_ := Aside0.mk ((by rw [hg]; exact (below_size (by repeat (first | (with_reducible first | exact HB.out | apply below_alloc | apply pw_below_drewN | apply below_drew1) | exact HB.out))) : w.heap.size ≤ gb216)); clear HB; have HB := n0_; have BK216 := n1_; have GW216 := n2_; have GE216 := n3_; clear n0_ n1_ n2_ n3_; clear hb hbox hg; have hcz32_0 : w31.cell? ⟨gb216, 0, none⟩ = some (.string (⟨#[]⟩ : ByteArray)) := (blk_cell BK216.out 0).trans rfl; have hcz32_1 : w31.cell? ⟨gb216, 1, none⟩ = some (.string (⟨#[]⟩ : ByteArray)) := (blk_cell BK216.out 1).trans rfl; have hcz32_2 : w31.cell? ⟨gb216, 2, none⟩ = some (.int .i64 0) := (blk_cell BK216.out 2).trans rfl; have hfz32_0 := blk_frozen BK216.out 0; have hfz32_1 := blk_frozen BK216.out 1; have hfz32_2 := blk_frozen BK216.out 2))
              have n0_ : Aside0 ((((w31.setCell ⟨gb216, 0, none⟩ (.string ((rd_T48 l0 x7_1).f0.f0))).setCell ⟨gb216, 1, none⟩ (.string ((rd_T48 l0 x7_1).f0.f1))).setCell ⟨gb216, 2, none⟩ (.int .i64 ((rd_T48 l0 x7_1).f1))).heap[gb216]? = some (.cells #[.string ((rd_T48 l0 x7_1).f0.f0), .string ((rd_T48 l0 x7_1).f0.f1), .int .i64 ((rd_T48 l0 x7_1).f1)] 48 (0, 0))) := ⟨by (with_reducible repeat (first | refine blk_drewN ?_ _ | refine blk_drew ?_ | refine blk_alloc ?_ _)); refine blk_put (cs := #[.string ((rd_T48 l0 x7_1).f0.f0), .string ((rd_T48 l0 x7_1).f0.f1), .int .i64 0]) ?_ 2 _ rfl; (with_reducible repeat (first | refine blk_drewN ?_ _ | refine blk_drew ?_ | refine blk_alloc ?_ _)); refine blk_put (cs := #[.string ((rd_T48 l0 x7_1).f0.f0), .string (⟨#[]⟩ : ByteArray), .int .i64 0]) ?_ 1 _ rfl; (with_reducible repeat (first | refine blk_drewN ?_ _ | refine blk_drew ?_ | refine blk_alloc ?_ _)); refine blk_put (cs := #[.string (⟨#[]⟩ : ByteArray), .string (⟨#[]⟩ : ByteArray), .int .i64 0]) ?_ 0 _ rfl; (with_reducible repeat (first | refine blk_drewN ?_ _ | refine blk_drew ?_ | refine blk_alloc ?_ _)); exact BK216.out⟩
              have n1_ : Aside0 (Below w.heap.size w (((w31.setCell ⟨gb216, 0, none⟩ (.string ((rd_T48 l0 x7_1).f0.f0))).setCell ⟨gb216, 1, none⟩ (.string ((rd_T48 l0 x7_1).f0.f1))).setCell ⟨gb216, 2, none⟩ (.int .i64 ((rd_T48 l0 x7_1).f1)))) := ⟨by repeat (first | (with_reducible first | exact HB.out | apply below_alloc | apply pw_below_drewN | apply below_drew1 | refine below_set ?_ GE216.out) | exact HB.out)⟩
              (try clear BK216)
              (try clear HB)
              generalize (((w31.setCell ⟨gb216, 0, none⟩ (.string ((rd_T48 l0 x7_1).f0.f0))).setCell ⟨gb216, 1, none⟩ (.string ((rd_T48 l0 x7_1).f0.f1))).setCell ⟨gb216, 2, none⟩ (.int .i64 ((rd_T48 l0 x7_1).f1))) = w33 at n0_ n1_ ⊢
              have BK216 := n0_
              have HB := n1_
              clear n0_ n1_
              have n0_ := Aside0.mk (blk_drew BK216.out)
              have n1_ := Aside0.mk (below_drew1 HB.out)
              clear BK216 HB
              have BK216 := n0_
              have HB := n1_
              clear n0_ n1_
              have p218 : 0 ≤ ((ji26) : Int) := of_decide_eq_true (by first | (with_reducible assumption) | assumption)
              have q218 : (ji26) < (l0.length : Int) := of_decide_eq_true (by first | (with_reducible assumption) | assumption)
              obtain ⟨ad218, e218, hx218_0, hx218_1, hx218_2⟩ := at_T48 HR0.out (ji26) p218 q218
              have hw218_2 := hx218_2
              have hw218_1 := hx218_1
              have hw218_0 := hx218_0
              obtain rfl : ad215 = ad218 := (by injection e218)
              replace hx218_0 := (HB.out.cell (World.block_lt_of_cell? w _ hx218_0)).trans hx218_0
              replace hx218_1 := (HB.out.cell (World.block_lt_of_cell? w _ hx218_1)).trans hx218_1
              replace hx218_2 := (HB.out.cell (World.block_lt_of_cell? w _ hx218_2)).trans hx218_2
              replace p218 := eq_true p218
              replace q218 := eq_true q218
              refine start_ (n := 35) (S := fun w' => w'.cell? ⟨gb216, 0, none⟩ = some (.string ((rd_T48 l0 x7_1).f0.f0)) ∧ w'.cell? ⟨gb216, 1, none⟩ = some (.string ((rd_T48 l0 x7_1).f0.f1)) ∧ w'.cell? ⟨gb216, 2, none⟩ = some (.int .i64 ((rd_T48 l0 x7_1).f1)) ∧ w'.cell? (ad215.add (((ji26)).toNat * 3)) = some (.string ((rd_T48 l0 (ji26)).f0.f0)) ∧ w'.cell? ⟨(ad215.add (((ji26)).toNat * 3)).block, (ad215.add (((ji26)).toNat * 3)).off + 1, none⟩ = some (.string ((rd_T48 l0 (ji26)).f0.f1)) ∧ w'.cell? ⟨(ad215.add (((ji26)).toNat * 3)).block, (ad215.add (((ji26)).toNat * 3)).off + 2, none⟩ = some (.int .i64 ((rd_T48 l0 (ji26)).f1))) (ds := []) #[false, false, false, false, false, false, false, false, false, false, false, false, false, false, false, false, false, false, false, false, false, false, false, false, false, false, false, false, false, false, false, false, false, false, false] (by kernel_rfl) rfl rfl ⟨(blk_cell BK216.out 0).trans rfl, (blk_cell BK216.out 1).trans rfl, (blk_cell BK216.out 2).trans rfl, ((HB.out.cell (World.block_lt_of_cell? w _ hw218_0)).trans hw218_0), ((HB.out.cell (World.block_lt_of_cell? w _ hw218_1)).trans hw218_1), ((HB.out.cell (World.block_lt_of_cell? w _ hw218_2)).trans hw218_2)⟩ (fun hHeld => ?_); refine with_tabW diff_Check.tab4 diff_Check.bits4 (fun HT_ HW_ => ?_)
              generalize w33.drew = w34 at BK216 HB hx218_0 hx218_1 hx218_2 hHeld ⊢
              refine pz_ 0 12 HT_.out ?_
              refine tz_ 1 13 HT_.out HW_.out hHeld ?_
              refine one_ (i := 2) (N := some 14) #[true, true, true, false, false, false, false, false, false, false, false, false, false, false, false, false, false, false, false, false, false, false, false, false, false, false, false, false, false, false, false, false, false, false, false] rfl rfl (one_of HT_.out (by kernel_rfl)) (by decide) (fun K hK => ?_)
              refine goes_ Tryz.func45 (by kernel_rfl) rfl #[.agg #[.string ((rd_T48 l0 x7_1).f0.f0), .string ((rd_T48 l0 x7_1).f0.f1)]] (by rfl) rfl rfl (by (try simp only [List.map_toArray, List.map_cons, List.map_nil]); first | done | rfl | (simp only [List.length_drop, List.length_take]; rfl)) ?_
              with_reducible refine (node_May.calls k1 ((rd_T48 l0 x7_1).f0.f0) ((rd_T48 l0 x7_1).f0.f1) true _ A5.out).mono ?_
              rintro e w35 ⟨rfl, hb⟩
              refine ⟨_, rfl, ?_⟩
              have n0_ := Aside0.mk (blk_below (g := gb216) (o := .cells #[.string ((rd_T48 l0 x7_1).f0.f0), .string ((rd_T48 l0 x7_1).f0.f1), .int .i64 ((rd_T48 l0 x7_1).f1)] 48 (0, 0)) (by (with_reducible repeat (first | refine blk_drewN ?_ _ | refine blk_drew ?_ | refine blk_alloc ?_ _)); exact BK216.out) hb)
              have n1_ := Aside0.mk (below_step (by repeat (first | (with_reducible first | exact HB.out | apply below_alloc | apply pw_below_drewN | apply below_drew1 | refine below_set ?_ GE216.out) | exact HB.out)) hb)
              clear BK216 HB
              have BK216 := n0_
              have HB := n1_
              clear n0_ n1_
              (try clear hb)
              (try clear hb2)
              (try clear hk)
              (try clear hi)
              refine hK.out _ _ ⟨(blk_cell BK216.out 0).trans rfl, (blk_cell BK216.out 1).trans rfl, (blk_cell BK216.out 2).trans rfl, ((HB.out.cell (World.block_lt_of_cell? w _ hw218_0)).trans hw218_0), ((HB.out.cell (World.block_lt_of_cell? w _ hw218_1)).trans hw218_1), ((HB.out.cell (World.block_lt_of_cell? w _ hw218_2)).trans hw218_2)⟩ (fun hHeld => ?_)
              clear hK K
              refine nz_ 14 ?_
              refine pz_ 3 15 HT_.out ?_
              refine pz_ 4 16 HT_.out ?_
              refine pz_ 5 17 HT_.out ?_
              refine tz_ 6 18 HT_.out HW_.out hHeld ?_
              refine pz_ 7 19 HT_.out ?_
              refine pz_ 8 20 HT_.out ?_
              refine pz_ 9 21 HT_.out ?_
              refine pz_ 10 22 HT_.out ?_
              refine tz_ 11 23 HT_.out HW_.out hHeld ?_
              refine pz_ 12 24 HT_.out ?_
              refine pz_ 13 25 HT_.out ?_
              refine pz_ 14 26 HT_.out ?_
              refine pz_ 15 27 HT_.out ?_
              refine tz_ 16 28 HT_.out HW_.out hHeld ?_
              refine pz_ 17 29 HT_.out ?_
              refine pz_ 18 30 HT_.out ?_
              refine pz_ 19 31 HT_.out ?_
              refine pz_ 20 32 HT_.out ?_
              refine pz_ 21 33 HT_.out ?_
              refine pz_ 22 34 HT_.out ?_
              refine pz_ 23 35 HT_.out ?_
              refine pz_ 24 36 HT_.out ?_
              refine pz_ 25 37 HT_.out ?_
              refine pz_ 26 38 HT_.out ?_
              refine pz_ 27 39 HT_.out ?_
              refine pz_ 29 41 HT_.out ?_
              refine tz_ 28 40 HT_.out HW_.out hHeld ?_
              refine tz_ 30 42 HT_.out HW_.out hHeld ?_
              refine one_ (i := 31) (N := some 43) #[true, true, true, true, true, true, true, true, true, true, true, true, true, true, true, true, true, true, true, true, true, true, true, true, true, true, true, true, true, true, true, true, false, false, false] rfl rfl (one_of HT_.out (by kernel_rfl)) (by decide) (fun K hK => ?_)
              refine goes_ Tryz.func49 (by kernel_rfl) rfl #[.agg #[.string ((rd_T48 l0 (ji26)).f0.f0), .string ((rd_T48 l0 (ji26)).f0.f1)], .agg #[.string ((rd_T48 l0 x7_1).f0.f0), .string ((rd_T48 l0 x7_1).f0.f1)]] (by rfl) rfl rfl (by (try simp only [List.map_toArray, List.map_cons, List.map_nil]); first | done | (simp only [hji26]; rfl) | rfl | (simp only [List.length_drop, List.length_take]; rfl)) ?_
              with_reducible refine (diff_order.calls k1 ((rd_T48 l0 (ji26)).f0.f0) ((rd_T48 l0 (ji26)).f0.f1) ((rd_T48 l0 x7_1).f0.f0) ((rd_T48 l0 x7_1).f0.f1) t219 _ A29.out).mono ?_
              rintro e w36 ⟨rfl, hb⟩
              refine ⟨_, rfl, ?_⟩
              have n0_ := Aside0.mk (blk_below (g := gb216) (o := .cells #[.string ((rd_T48 l0 x7_1).f0.f0), .string ((rd_T48 l0 x7_1).f0.f1), .int .i64 ((rd_T48 l0 x7_1).f1)] 48 (0, 0)) (by (with_reducible repeat (first | refine blk_drewN ?_ _ | refine blk_drew ?_ | refine blk_alloc ?_ _)); exact BK216.out) hb)
              have n1_ := Aside0.mk (below_step (by repeat (first | (with_reducible first | exact HB.out | apply below_alloc | apply pw_below_drewN | apply below_drew1 | refine below_set ?_ GE216.out) | exact HB.out)) hb)
              clear BK216 HB
              have BK216 := n0_
              have HB := n1_
              clear n0_ n1_
              (try clear hb)
              (try clear hb2)
              (try clear hk)
              (try clear hi)
              refine hK.out _ _ ⟨(blk_cell BK216.out 0).trans rfl, (blk_cell BK216.out 1).trans rfl, (blk_cell BK216.out 2).trans rfl, ((HB.out.cell (World.block_lt_of_cell? w _ hw218_0)).trans hw218_0), ((HB.out.cell (World.block_lt_of_cell? w _ hw218_1)).trans hw218_1), ((HB.out.cell (World.block_lt_of_cell? w _ hw218_2)).trans hw218_2)⟩ (fun hHeld => ?_)
              clear hK K
              refine nz_ 43 ?_
              refine pz_ 32 44 HT_.out ?_
              refine pz_ 33 45 HT_.out ?_
              refine pz_ 34 46 HT_.out ?_
              refine done_ (done_of HT_.out (by kernel_rfl)) ?_
              try go_wp2
              go_ret
              exact ⟨by first | rfl | (simp [errW_none, errW_some] <;> rfl) | (simp only [← hji26]; first | rfl | (simp [errW_none, errW_some] <;> rfl)) | (simp [*, errW_none, errW_some] <;> rfl), by repeat (first | (with_reducible first | exact HB.out | apply below_alloc | apply pw_below_drewN | apply below_drew1 | refine below_set ?_ GE216.out) | exact HB.out)⟩
             ·rw [if_neg c30] at H
              have c30b0 : decide (0 ≤ t219) = false := decide_eq_false c30
              clear c30
              have H' := Aside0.mk H
              clear H
              have p215 : 0 ≤ (x7_1 : Int) := of_decide_eq_true (by first | (with_reducible assumption) | assumption)
              have q215 : x7_1 < (l0.length : Int) := of_decide_eq_true (by first | (with_reducible assumption) | assumption)
              obtain ⟨ad215, e215, hx215_0, hx215_1, hx215_2⟩ := at_T48 HR0.out x7_1 p215 q215
              cases e215
              replace hx215_0 := (HB.out.cell (World.block_lt_of_cell? w _ hx215_0)).trans hx215_0
              replace hx215_1 := (HB.out.cell (World.block_lt_of_cell? w _ hx215_1)).trans hx215_1
              replace hx215_2 := (HB.out.cell (World.block_lt_of_cell? w _ hx215_2)).trans hx215_2
              replace p215 := eq_true p215
              replace q215 := eq_true q215
              try go_wp2_with (first | ((with_reducible refine gate_dst (N := 4) rfl ?_); refine box_event ?hg (N := 4) ?hd (cs := #[.string (⟨#[]⟩ : ByteArray), .string (⟨#[]⟩ : ByteArray), .int .i64 0]) (t := 48) ?hr ?_; (case hd => rfl); (case hg => rfl); (case hr => first | (go_simp; done) | (go_simp; rfl)); intro gb216 hg w37 hbox hb; have n0_ := Aside0.mk (below_step (by repeat (first | (with_reducible first | exact HB.out | apply below_alloc | apply pw_below_drewN | apply below_drew1) | exact HB.out)) hb); have n1_ := Aside0.mk (hbox); have n2_ := Aside0.mk ((by rw [hg]; exact (below_size (by repeat (first | (with_reducible first | exact HB.out | apply below_alloc | apply pw_below_drewN | apply below_drew1) | exact HB.out))) : w.heap.size ≤ gb216)); have n3_ := Aside0.mk ((by rw [hg]; exact (below_size (by repeat (first | (with_reducible first | exact HB.out | apply below_alloc | apply pw_below_drewN | apply below_drew1) | exact HB.out))) : w.heap.size ≤ gb216)); clear HB; have HB := n0_; have BK216 := n1_; have GW216 := n2_; have GE216 := n3_; clear n0_ n1_ n2_ n3_; clear hb hbox hg; have hcz38_0 : w37.cell? ⟨gb216, 0, none⟩ = some (.string (⟨#[]⟩ : ByteArray)) := (blk_cell BK216.out 0).trans rfl; have hcz38_1 : w37.cell? ⟨gb216, 1, none⟩ = some (.string (⟨#[]⟩ : ByteArray)) := (blk_cell BK216.out 1).trans rfl; have hcz38_2 : w37.cell? ⟨gb216, 2, none⟩ = some (.int .i64 0) := (blk_cell BK216.out 2).trans rfl; have hfz38_0 := blk_frozen BK216.out 0; have hfz38_1 := blk_frozen BK216.out 1; have hfz38_2 := blk_frozen BK216.out 2))
              have n0_ : Aside0 ((((w37.setCell ⟨gb216, 0, none⟩ (.string ((rd_T48 l0 x7_1).f0.f0))).setCell ⟨gb216, 1, none⟩ (.string ((rd_T48 l0 x7_1).f0.f1))).setCell ⟨gb216, 2, none⟩ (.int .i64 ((rd_T48 l0 x7_1).f1))).heap[gb216]? = some (.cells #[.string ((rd_T48 l0 x7_1).f0.f0), .string ((rd_T48 l0 x7_1).f0.f1), .int .i64 ((rd_T48 l0 x7_1).f1)] 48 (0, 0))) := ⟨by (with_reducible repeat (first | refine blk_drewN ?_ _ | refine blk_drew ?_ | refine blk_alloc ?_ _)); refine blk_put (cs := #[.string ((rd_T48 l0 x7_1).f0.f0), .string ((rd_T48 l0 x7_1).f0.f1), .int .i64 0]) ?_ 2 _ rfl; (with_reducible repeat (first | refine blk_drewN ?_ _ | refine blk_drew ?_ | refine blk_alloc ?_ _)); refine blk_put (cs := #[.string ((rd_T48 l0 x7_1).f0.f0), .string (⟨#[]⟩ : ByteArray), .int .i64 0]) ?_ 1 _ rfl; (with_reducible repeat (first | refine blk_drewN ?_ _ | refine blk_drew ?_ | refine blk_alloc ?_ _)); refine blk_put (cs := #[.string (⟨#[]⟩ : ByteArray), .string (⟨#[]⟩ : ByteArray), .int .i64 0]) ?_ 0 _ rfl; (with_reducible repeat (first | refine blk_drewN ?_ _ | refine blk_drew ?_ | refine blk_alloc ?_ _)); exact BK216.out⟩
              have n1_ : Aside0 (Below w.heap.size w (((w37.setCell ⟨gb216, 0, none⟩ (.string ((rd_T48 l0 x7_1).f0.f0))).setCell ⟨gb216, 1, none⟩ (.string ((rd_T48 l0 x7_1).f0.f1))).setCell ⟨gb216, 2, none⟩ (.int .i64 ((rd_T48 l0 x7_1).f1)))) := ⟨by repeat (first | (with_reducible first | exact HB.out | apply below_alloc | apply pw_below_drewN | apply below_drew1 | refine below_set ?_ GE216.out) | exact HB.out)⟩
              (try clear BK216)
              (try clear HB)
              generalize (((w37.setCell ⟨gb216, 0, none⟩ (.string ((rd_T48 l0 x7_1).f0.f0))).setCell ⟨gb216, 1, none⟩ (.string ((rd_T48 l0 x7_1).f0.f1))).setCell ⟨gb216, 2, none⟩ (.int .i64 ((rd_T48 l0 x7_1).f1))) = w39 at n0_ n1_ ⊢
              have BK216 := n0_
              have HB := n1_
              clear n0_ n1_
              have n0_ := Aside0.mk (blk_drew BK216.out)
              have n1_ := Aside0.mk (below_drew1 HB.out)
              clear BK216 HB
              have BK216 := n0_
              have HB := n1_
              clear n0_ n1_
              have p218 : 0 ≤ ((ji26) : Int) := of_decide_eq_true (by first | (with_reducible assumption) | assumption)
              have q218 : (ji26) < (l0.length : Int) := of_decide_eq_true (by first | (with_reducible assumption) | assumption)
              obtain ⟨ad218, e218, hx218_0, hx218_1, hx218_2⟩ := at_T48 HR0.out (ji26) p218 q218
              have hw218_2 := hx218_2
              have hw218_1 := hx218_1
              have hw218_0 := hx218_0
              obtain rfl : ad215 = ad218 := (by injection e218)
              replace hx218_0 := (HB.out.cell (World.block_lt_of_cell? w _ hx218_0)).trans hx218_0
              replace hx218_1 := (HB.out.cell (World.block_lt_of_cell? w _ hx218_1)).trans hx218_1
              replace hx218_2 := (HB.out.cell (World.block_lt_of_cell? w _ hx218_2)).trans hx218_2
              replace p218 := eq_true p218
              replace q218 := eq_true q218
              refine start_ (n := 35) (S := fun w' => w'.cell? ⟨gb216, 0, none⟩ = some (.string ((rd_T48 l0 x7_1).f0.f0)) ∧ w'.cell? ⟨gb216, 1, none⟩ = some (.string ((rd_T48 l0 x7_1).f0.f1)) ∧ w'.cell? ⟨gb216, 2, none⟩ = some (.int .i64 ((rd_T48 l0 x7_1).f1)) ∧ w'.cell? (ad215.add (((ji26)).toNat * 3)) = some (.string ((rd_T48 l0 (ji26)).f0.f0)) ∧ w'.cell? ⟨(ad215.add (((ji26)).toNat * 3)).block, (ad215.add (((ji26)).toNat * 3)).off + 1, none⟩ = some (.string ((rd_T48 l0 (ji26)).f0.f1)) ∧ w'.cell? ⟨(ad215.add (((ji26)).toNat * 3)).block, (ad215.add (((ji26)).toNat * 3)).off + 2, none⟩ = some (.int .i64 ((rd_T48 l0 (ji26)).f1))) (ds := []) #[false, false, false, false, false, false, false, false, false, false, false, false, false, false, false, false, false, false, false, false, false, false, false, false, false, false, false, false, false, false, false, false, false, false, false] (by kernel_rfl) rfl rfl ⟨(blk_cell BK216.out 0).trans rfl, (blk_cell BK216.out 1).trans rfl, (blk_cell BK216.out 2).trans rfl, ((HB.out.cell (World.block_lt_of_cell? w _ hw218_0)).trans hw218_0), ((HB.out.cell (World.block_lt_of_cell? w _ hw218_1)).trans hw218_1), ((HB.out.cell (World.block_lt_of_cell? w _ hw218_2)).trans hw218_2)⟩ (fun hHeld => ?_); refine with_tabW diff_Check.tab4 diff_Check.bits4 (fun HT_ HW_ => ?_)
              generalize w39.drew = w40 at BK216 HB hx218_0 hx218_1 hx218_2 hHeld ⊢
              refine pz_ 0 12 HT_.out ?_
              refine tz_ 1 13 HT_.out HW_.out hHeld ?_
              refine one_ (i := 2) (N := some 14) #[true, true, true, false, false, false, false, false, false, false, false, false, false, false, false, false, false, false, false, false, false, false, false, false, false, false, false, false, false, false, false, false, false, false, false] rfl rfl (one_of HT_.out (by kernel_rfl)) (by decide) (fun K hK => ?_)
              refine goes_ Tryz.func45 (by kernel_rfl) rfl #[.agg #[.string ((rd_T48 l0 x7_1).f0.f0), .string ((rd_T48 l0 x7_1).f0.f1)]] (by rfl) rfl rfl (by (try simp only [List.map_toArray, List.map_cons, List.map_nil]); first | done | rfl | (simp only [List.length_drop, List.length_take]; rfl)) ?_
              with_reducible refine (node_May.calls k1 ((rd_T48 l0 x7_1).f0.f0) ((rd_T48 l0 x7_1).f0.f1) true _ A5.out).mono ?_
              rintro e w41 ⟨rfl, hb⟩
              refine ⟨_, rfl, ?_⟩
              have n0_ := Aside0.mk (blk_below (g := gb216) (o := .cells #[.string ((rd_T48 l0 x7_1).f0.f0), .string ((rd_T48 l0 x7_1).f0.f1), .int .i64 ((rd_T48 l0 x7_1).f1)] 48 (0, 0)) (by (with_reducible repeat (first | refine blk_drewN ?_ _ | refine blk_drew ?_ | refine blk_alloc ?_ _)); exact BK216.out) hb)
              have n1_ := Aside0.mk (below_step (by repeat (first | (with_reducible first | exact HB.out | apply below_alloc | apply pw_below_drewN | apply below_drew1 | refine below_set ?_ GE216.out) | exact HB.out)) hb)
              clear BK216 HB
              have BK216 := n0_
              have HB := n1_
              clear n0_ n1_
              (try clear hb)
              (try clear hb2)
              (try clear hk)
              (try clear hi)
              refine hK.out _ _ ⟨(blk_cell BK216.out 0).trans rfl, (blk_cell BK216.out 1).trans rfl, (blk_cell BK216.out 2).trans rfl, ((HB.out.cell (World.block_lt_of_cell? w _ hw218_0)).trans hw218_0), ((HB.out.cell (World.block_lt_of_cell? w _ hw218_1)).trans hw218_1), ((HB.out.cell (World.block_lt_of_cell? w _ hw218_2)).trans hw218_2)⟩ (fun hHeld => ?_)
              clear hK K
              refine nz_ 14 ?_
              refine pz_ 3 15 HT_.out ?_
              refine pz_ 4 16 HT_.out ?_
              refine pz_ 5 17 HT_.out ?_
              refine tz_ 6 18 HT_.out HW_.out hHeld ?_
              refine pz_ 7 19 HT_.out ?_
              refine pz_ 8 20 HT_.out ?_
              refine pz_ 9 21 HT_.out ?_
              refine pz_ 10 22 HT_.out ?_
              refine tz_ 11 23 HT_.out HW_.out hHeld ?_
              refine pz_ 12 24 HT_.out ?_
              refine pz_ 13 25 HT_.out ?_
              refine pz_ 14 26 HT_.out ?_
              refine pz_ 15 27 HT_.out ?_
              refine tz_ 16 28 HT_.out HW_.out hHeld ?_
              refine pz_ 17 29 HT_.out ?_
              refine pz_ 18 30 HT_.out ?_
              refine pz_ 19 31 HT_.out ?_
              refine pz_ 20 32 HT_.out ?_
              refine pz_ 21 33 HT_.out ?_
              refine pz_ 22 34 HT_.out ?_
              refine pz_ 23 35 HT_.out ?_
              refine pz_ 24 36 HT_.out ?_
              refine pz_ 25 37 HT_.out ?_
              refine pz_ 26 38 HT_.out ?_
              refine pz_ 27 39 HT_.out ?_
              refine pz_ 29 41 HT_.out ?_
              refine tz_ 28 40 HT_.out HW_.out hHeld ?_
              refine tz_ 30 42 HT_.out HW_.out hHeld ?_
              refine one_ (i := 31) (N := some 43) #[true, true, true, true, true, true, true, true, true, true, true, true, true, true, true, true, true, true, true, true, true, true, true, true, true, true, true, true, true, true, true, true, false, false, false] rfl rfl (one_of HT_.out (by kernel_rfl)) (by decide) (fun K hK => ?_)
              refine goes_ Tryz.func49 (by kernel_rfl) rfl #[.agg #[.string ((rd_T48 l0 (ji26)).f0.f0), .string ((rd_T48 l0 (ji26)).f0.f1)], .agg #[.string ((rd_T48 l0 x7_1).f0.f0), .string ((rd_T48 l0 x7_1).f0.f1)]] (by rfl) rfl rfl (by (try simp only [List.map_toArray, List.map_cons, List.map_nil]); first | done | (simp only [hji26]; rfl) | rfl | (simp only [List.length_drop, List.length_take]; rfl)) ?_
              with_reducible refine (diff_order.calls k1 ((rd_T48 l0 (ji26)).f0.f0) ((rd_T48 l0 (ji26)).f0.f1) ((rd_T48 l0 x7_1).f0.f0) ((rd_T48 l0 x7_1).f0.f1) t219 _ A29.out).mono ?_
              rintro e w42 ⟨rfl, hb⟩
              refine ⟨_, rfl, ?_⟩
              have n0_ := Aside0.mk (blk_below (g := gb216) (o := .cells #[.string ((rd_T48 l0 x7_1).f0.f0), .string ((rd_T48 l0 x7_1).f0.f1), .int .i64 ((rd_T48 l0 x7_1).f1)] 48 (0, 0)) (by (with_reducible repeat (first | refine blk_drewN ?_ _ | refine blk_drew ?_ | refine blk_alloc ?_ _)); exact BK216.out) hb)
              have n1_ := Aside0.mk (below_step (by repeat (first | (with_reducible first | exact HB.out | apply below_alloc | apply pw_below_drewN | apply below_drew1 | refine below_set ?_ GE216.out) | exact HB.out)) hb)
              clear BK216 HB
              have BK216 := n0_
              have HB := n1_
              clear n0_ n1_
              (try clear hb)
              (try clear hb2)
              (try clear hk)
              (try clear hi)
              refine hK.out _ _ ⟨(blk_cell BK216.out 0).trans rfl, (blk_cell BK216.out 1).trans rfl, (blk_cell BK216.out 2).trans rfl, ((HB.out.cell (World.block_lt_of_cell? w _ hw218_0)).trans hw218_0), ((HB.out.cell (World.block_lt_of_cell? w _ hw218_1)).trans hw218_1), ((HB.out.cell (World.block_lt_of_cell? w _ hw218_2)).trans hw218_2)⟩ (fun hHeld => ?_)
              clear hK K
              refine nz_ 43 ?_
              refine pz_ 32 44 HT_.out ?_
              refine pz_ 33 45 HT_.out ?_
              refine pz_ 34 46 HT_.out ?_
              refine done_ (done_of HT_.out (by kernel_rfl)) ?_
              try go_wp2
              go_roundg k1
              case measure => have := HK1.out; omega
              case rel => exact ⟨(wrap64 (x7_1 + 1)), (by first | rfl | (simp; done) | (simp [*]; done)), H', ⟨by have := HK1.out; omega⟩, ⟨by repeat (first | (with_reducible first | exact HB.out | apply below_alloc | apply pw_below_drewN | apply below_drew1 | refine below_set ?_ GE216.out) | exact HB.out)⟩⟩
            ·rw [if_neg c28] at H
             exact absurd H (by simp)
           ·rw [if_neg c27] at H
            exact absurd H (by simp)
          ·rw [if_neg c25] at H
           have c25b0 : decide (0 < x7_1) = false := decide_eq_false c25
           clear c25
           have H' := Aside0.mk H
           clear H
           have p215 : 0 ≤ (x7_1 : Int) := of_decide_eq_true (by first | (with_reducible assumption) | assumption)
           have q215 : x7_1 < (l0.length : Int) := of_decide_eq_true (by first | (with_reducible assumption) | assumption)
           obtain ⟨ad215, e215, hx215_0, hx215_1, hx215_2⟩ := at_T48 HR0.out x7_1 p215 q215
           cases e215
           replace hx215_0 := (HB.out.cell (World.block_lt_of_cell? w _ hx215_0)).trans hx215_0
           replace hx215_1 := (HB.out.cell (World.block_lt_of_cell? w _ hx215_1)).trans hx215_1
           replace hx215_2 := (HB.out.cell (World.block_lt_of_cell? w _ hx215_2)).trans hx215_2
           replace p215 := eq_true p215
           replace q215 := eq_true q215
           try go_wp2_with (first | ((with_reducible refine gate_dst (N := 4) rfl ?_); refine box_event ?hg (N := 4) ?hd (cs := #[.string (⟨#[]⟩ : ByteArray), .string (⟨#[]⟩ : ByteArray), .int .i64 0]) (t := 48) ?hr ?_; (case hd => rfl); (case hg => rfl); (case hr => first | (go_simp; done) | (go_simp; rfl)); intro gb216 hg w43 hbox hb; have n0_ := Aside0.mk (below_step (by repeat (first | (with_reducible first | exact HB.out | apply below_alloc | apply pw_below_drewN | apply below_drew1) | exact HB.out)) hb); have n1_ := Aside0.mk (hbox); have n2_ := Aside0.mk ((by rw [hg]; exact (below_size (by repeat (first | (with_reducible first | exact HB.out | apply below_alloc | apply pw_below_drewN | apply below_drew1) | exact HB.out))) : w.heap.size ≤ gb216)); have n3_ := Aside0.mk ((by rw [hg]; exact (below_size (by repeat (first | (with_reducible first | exact HB.out | apply below_alloc | apply pw_below_drewN | apply below_drew1) | exact HB.out))) : w.heap.size ≤ gb216)); clear HB; have HB := n0_; have BK216 := n1_; have GW216 := n2_; have GE216 := n3_; clear n0_ n1_ n2_ n3_; clear hb hbox hg; have hcz44_0 : w43.cell? ⟨gb216, 0, none⟩ = some (.string (⟨#[]⟩ : ByteArray)) := (blk_cell BK216.out 0).trans rfl; have hcz44_1 : w43.cell? ⟨gb216, 1, none⟩ = some (.string (⟨#[]⟩ : ByteArray)) := (blk_cell BK216.out 1).trans rfl; have hcz44_2 : w43.cell? ⟨gb216, 2, none⟩ = some (.int .i64 0) := (blk_cell BK216.out 2).trans rfl; have hfz44_0 := blk_frozen BK216.out 0; have hfz44_1 := blk_frozen BK216.out 1; have hfz44_2 := blk_frozen BK216.out 2))
           have n0_ : Aside0 ((((w43.setCell ⟨gb216, 0, none⟩ (.string ((rd_T48 l0 x7_1).f0.f0))).setCell ⟨gb216, 1, none⟩ (.string ((rd_T48 l0 x7_1).f0.f1))).setCell ⟨gb216, 2, none⟩ (.int .i64 ((rd_T48 l0 x7_1).f1))).heap[gb216]? = some (.cells #[.string ((rd_T48 l0 x7_1).f0.f0), .string ((rd_T48 l0 x7_1).f0.f1), .int .i64 ((rd_T48 l0 x7_1).f1)] 48 (0, 0))) := ⟨by (with_reducible repeat (first | refine blk_drewN ?_ _ | refine blk_drew ?_ | refine blk_alloc ?_ _)); refine blk_put (cs := #[.string ((rd_T48 l0 x7_1).f0.f0), .string ((rd_T48 l0 x7_1).f0.f1), .int .i64 0]) ?_ 2 _ rfl; (with_reducible repeat (first | refine blk_drewN ?_ _ | refine blk_drew ?_ | refine blk_alloc ?_ _)); refine blk_put (cs := #[.string ((rd_T48 l0 x7_1).f0.f0), .string (⟨#[]⟩ : ByteArray), .int .i64 0]) ?_ 1 _ rfl; (with_reducible repeat (first | refine blk_drewN ?_ _ | refine blk_drew ?_ | refine blk_alloc ?_ _)); refine blk_put (cs := #[.string (⟨#[]⟩ : ByteArray), .string (⟨#[]⟩ : ByteArray), .int .i64 0]) ?_ 0 _ rfl; (with_reducible repeat (first | refine blk_drewN ?_ _ | refine blk_drew ?_ | refine blk_alloc ?_ _)); exact BK216.out⟩
           have n1_ : Aside0 (Below w.heap.size w (((w43.setCell ⟨gb216, 0, none⟩ (.string ((rd_T48 l0 x7_1).f0.f0))).setCell ⟨gb216, 1, none⟩ (.string ((rd_T48 l0 x7_1).f0.f1))).setCell ⟨gb216, 2, none⟩ (.int .i64 ((rd_T48 l0 x7_1).f1)))) := ⟨by repeat (first | (with_reducible first | exact HB.out | apply below_alloc | apply pw_below_drewN | apply below_drew1 | refine below_set ?_ GE216.out) | exact HB.out)⟩
           (try clear BK216)
           (try clear HB)
           generalize (((w43.setCell ⟨gb216, 0, none⟩ (.string ((rd_T48 l0 x7_1).f0.f0))).setCell ⟨gb216, 1, none⟩ (.string ((rd_T48 l0 x7_1).f0.f1))).setCell ⟨gb216, 2, none⟩ (.int .i64 ((rd_T48 l0 x7_1).f1))) = w45 at n0_ n1_ ⊢
           have BK216 := n0_
           have HB := n1_
           clear n0_ n1_
           have n0_ := Aside0.mk (blk_drew BK216.out)
           have n1_ := Aside0.mk (below_drew1 HB.out)
           clear BK216 HB
           have BK216 := n0_
           have HB := n1_
           clear n0_ n1_
           refine start_ (n := 35) (S := fun w' => w'.cell? ⟨gb216, 0, none⟩ = some (.string ((rd_T48 l0 x7_1).f0.f0)) ∧ w'.cell? ⟨gb216, 1, none⟩ = some (.string ((rd_T48 l0 x7_1).f0.f1)) ∧ w'.cell? ⟨gb216, 2, none⟩ = some (.int .i64 ((rd_T48 l0 x7_1).f1))) (ds := []) #[false, false, false, false, false, false, false, false, false, false, false, false, false, false, false, false, false, false, false, false, false, false, false, false, false, false, false, false, false, false, false, false, false, false, false] (by kernel_rfl) rfl rfl ⟨(blk_cell BK216.out 0).trans rfl, (blk_cell BK216.out 1).trans rfl, (blk_cell BK216.out 2).trans rfl⟩ (fun hHeld => ?_); refine with_tabW diff_Check.tab4 diff_Check.bits4 (fun HT_ HW_ => ?_)
           generalize w45.drew = w46 at BK216 HB hHeld ⊢
           refine pz_ 0 12 HT_.out ?_
           refine tz_ 1 13 HT_.out HW_.out hHeld ?_
           refine one_ (i := 2) (N := some 14) #[true, true, true, false, false, false, false, false, false, false, false, false, false, false, false, false, false, false, false, false, false, false, false, false, false, false, false, false, false, false, false, false, false, false, false] rfl rfl (one_of HT_.out (by kernel_rfl)) (by decide) (fun K hK => ?_)
           refine goes_ Tryz.func45 (by kernel_rfl) rfl #[.agg #[.string ((rd_T48 l0 x7_1).f0.f0), .string ((rd_T48 l0 x7_1).f0.f1)]] (by rfl) rfl rfl (by (try simp only [List.map_toArray, List.map_cons, List.map_nil]); first | done | rfl | (simp only [List.length_drop, List.length_take]; rfl)) ?_
           with_reducible refine (node_May.calls k1 ((rd_T48 l0 x7_1).f0.f0) ((rd_T48 l0 x7_1).f0.f1) true _ A5.out).mono ?_
           rintro e w47 ⟨rfl, hb⟩
           refine ⟨_, rfl, ?_⟩
           have n0_ := Aside0.mk (blk_below (g := gb216) (o := .cells #[.string ((rd_T48 l0 x7_1).f0.f0), .string ((rd_T48 l0 x7_1).f0.f1), .int .i64 ((rd_T48 l0 x7_1).f1)] 48 (0, 0)) (by (with_reducible repeat (first | refine blk_drewN ?_ _ | refine blk_drew ?_ | refine blk_alloc ?_ _)); exact BK216.out) hb)
           have n1_ := Aside0.mk (below_step (by repeat (first | (with_reducible first | exact HB.out | apply below_alloc | apply pw_below_drewN | apply below_drew1 | refine below_set ?_ GE216.out) | exact HB.out)) hb)
           clear BK216 HB
           have BK216 := n0_
           have HB := n1_
           clear n0_ n1_
           (try clear hb)
           (try clear hb2)
           (try clear hk)
           (try clear hi)
           refine hK.out _ _ ⟨(blk_cell BK216.out 0).trans rfl, (blk_cell BK216.out 1).trans rfl, (blk_cell BK216.out 2).trans rfl⟩ (fun hHeld => ?_)
           clear hK K
           refine nz_ 14 ?_
           refine pz_ 3 15 HT_.out ?_
           refine pz_ 4 16 HT_.out ?_
           refine pz_ 5 17 HT_.out ?_
           refine tz_ 6 18 HT_.out HW_.out hHeld ?_
           refine pz_ 7 19 HT_.out ?_
           refine pz_ 8 20 HT_.out ?_
           refine pz_ 9 21 HT_.out ?_
           refine pz_ 10 22 HT_.out ?_
           refine tz_ 11 23 HT_.out HW_.out hHeld ?_
           refine pz_ 12 24 HT_.out ?_
           refine pz_ 13 25 HT_.out ?_
           refine pz_ 14 26 HT_.out ?_
           refine pz_ 15 27 HT_.out ?_
           refine tz_ 16 28 HT_.out HW_.out hHeld ?_
           refine pz_ 17 29 HT_.out ?_
           refine pz_ 18 30 HT_.out ?_
           refine pz_ 19 31 HT_.out ?_
           refine pz_ 20 32 HT_.out ?_
           refine pz_ 21 33 HT_.out ?_
           refine pz_ 22 34 HT_.out ?_
           refine pu_ 23 35 HT_.out ?_
           refine pu_ 24 36 HT_.out ?_
           refine pu_ 25 37 HT_.out ?_
           refine pu_ 26 38 HT_.out ?_
           refine pu_ 27 39 HT_.out ?_
           refine pu_ 28 40 HT_.out ?_
           refine pu_ 29 41 HT_.out ?_
           refine pu_ 30 42 HT_.out ?_
           refine pu_ 31 43 HT_.out ?_
           refine pu_ 32 44 HT_.out ?_
           refine pz_ 33 45 HT_.out ?_
           refine pz_ 34 46 HT_.out ?_
           refine done_ (done_of HT_.out (by kernel_rfl)) ?_
           try go_wp2
           go_roundg k1
           case measure => have := HK1.out; omega
           case rel => exact ⟨(wrap64 (x7_1 + 1)), (by first | rfl | (simp; done) | (simp [*]; done)), H', ⟨by have := HK1.out; omega⟩, ⟨by repeat (first | (with_reducible first | exact HB.out | apply below_alloc | apply pw_below_drewN | apply below_drew1 | refine below_set ?_ GE216.out) | exact HB.out)⟩⟩
      ·replace c6 := Bool.eq_false_iff.mpr c6
       subst c6
       have H1 : (some 1) = some r := by rw [if_neg (show ¬ (false = true) by decide)] at H; exact H
       clear H
       have H := H1
       clear H1
       obtain rfl := Option.some.inj H
       have p215 : 0 ≤ (x7_1 : Int) := of_decide_eq_true (by first | (with_reducible assumption) | assumption)
       have q215 : x7_1 < (l0.length : Int) := of_decide_eq_true (by first | (with_reducible assumption) | assumption)
       obtain ⟨ad215, e215, hx215_0, hx215_1, hx215_2⟩ := at_T48 HR0.out x7_1 p215 q215
       cases e215
       replace hx215_0 := (HB.out.cell (World.block_lt_of_cell? w _ hx215_0)).trans hx215_0
       replace hx215_1 := (HB.out.cell (World.block_lt_of_cell? w _ hx215_1)).trans hx215_1
       replace hx215_2 := (HB.out.cell (World.block_lt_of_cell? w _ hx215_2)).trans hx215_2
       replace p215 := eq_true p215
       replace q215 := eq_true q215
       try go_wp2_with (first | ((with_reducible refine gate_dst (N := 4) rfl ?_); refine box_event ?hg (N := 4) ?hd (cs := #[.string (⟨#[]⟩ : ByteArray), .string (⟨#[]⟩ : ByteArray), .int .i64 0]) (t := 48) ?hr ?_; (case hd => rfl); (case hg => rfl); (case hr => first | (go_simp; done) | (go_simp; rfl)); intro gb216 hg w48 hbox hb; have n0_ := Aside0.mk (below_step (by repeat (first | (with_reducible first | exact HB.out | apply below_alloc | apply pw_below_drewN | apply below_drew1) | exact HB.out)) hb); have n1_ := Aside0.mk (hbox); have n2_ := Aside0.mk ((by rw [hg]; exact (below_size (by repeat (first | (with_reducible first | exact HB.out | apply below_alloc | apply pw_below_drewN | apply below_drew1) | exact HB.out))) : w.heap.size ≤ gb216)); have n3_ := Aside0.mk ((by rw [hg]; exact (below_size (by repeat (first | (with_reducible first | exact HB.out | apply below_alloc | apply pw_below_drewN | apply below_drew1) | exact HB.out))) : w.heap.size ≤ gb216)); clear HB; have HB := n0_; have BK216 := n1_; have GW216 := n2_; have GE216 := n3_; clear n0_ n1_ n2_ n3_; clear hb hbox hg; have hcz49_0 : w48.cell? ⟨gb216, 0, none⟩ = some (.string (⟨#[]⟩ : ByteArray)) := (blk_cell BK216.out 0).trans rfl; have hcz49_1 : w48.cell? ⟨gb216, 1, none⟩ = some (.string (⟨#[]⟩ : ByteArray)) := (blk_cell BK216.out 1).trans rfl; have hcz49_2 : w48.cell? ⟨gb216, 2, none⟩ = some (.int .i64 0) := (blk_cell BK216.out 2).trans rfl; have hfz49_0 := blk_frozen BK216.out 0; have hfz49_1 := blk_frozen BK216.out 1; have hfz49_2 := blk_frozen BK216.out 2))
       have n0_ : Aside0 ((((w48.setCell ⟨gb216, 0, none⟩ (.string ((rd_T48 l0 x7_1).f0.f0))).setCell ⟨gb216, 1, none⟩ (.string ((rd_T48 l0 x7_1).f0.f1))).setCell ⟨gb216, 2, none⟩ (.int .i64 ((rd_T48 l0 x7_1).f1))).heap[gb216]? = some (.cells #[.string ((rd_T48 l0 x7_1).f0.f0), .string ((rd_T48 l0 x7_1).f0.f1), .int .i64 ((rd_T48 l0 x7_1).f1)] 48 (0, 0))) := ⟨by (with_reducible repeat (first | refine blk_drewN ?_ _ | refine blk_drew ?_ | refine blk_alloc ?_ _)); refine blk_put (cs := #[.string ((rd_T48 l0 x7_1).f0.f0), .string ((rd_T48 l0 x7_1).f0.f1), .int .i64 0]) ?_ 2 _ rfl; (with_reducible repeat (first | refine blk_drewN ?_ _ | refine blk_drew ?_ | refine blk_alloc ?_ _)); refine blk_put (cs := #[.string ((rd_T48 l0 x7_1).f0.f0), .string (⟨#[]⟩ : ByteArray), .int .i64 0]) ?_ 1 _ rfl; (with_reducible repeat (first | refine blk_drewN ?_ _ | refine blk_drew ?_ | refine blk_alloc ?_ _)); refine blk_put (cs := #[.string (⟨#[]⟩ : ByteArray), .string (⟨#[]⟩ : ByteArray), .int .i64 0]) ?_ 0 _ rfl; (with_reducible repeat (first | refine blk_drewN ?_ _ | refine blk_drew ?_ | refine blk_alloc ?_ _)); exact BK216.out⟩
       have n1_ : Aside0 (Below w.heap.size w (((w48.setCell ⟨gb216, 0, none⟩ (.string ((rd_T48 l0 x7_1).f0.f0))).setCell ⟨gb216, 1, none⟩ (.string ((rd_T48 l0 x7_1).f0.f1))).setCell ⟨gb216, 2, none⟩ (.int .i64 ((rd_T48 l0 x7_1).f1)))) := ⟨by repeat (first | (with_reducible first | exact HB.out | apply below_alloc | apply pw_below_drewN | apply below_drew1 | refine below_set ?_ GE216.out) | exact HB.out)⟩
       (try clear BK216)
       (try clear HB)
       generalize (((w48.setCell ⟨gb216, 0, none⟩ (.string ((rd_T48 l0 x7_1).f0.f0))).setCell ⟨gb216, 1, none⟩ (.string ((rd_T48 l0 x7_1).f0.f1))).setCell ⟨gb216, 2, none⟩ (.int .i64 ((rd_T48 l0 x7_1).f1))) = w50 at n0_ n1_ ⊢
       have BK216 := n0_
       have HB := n1_
       clear n0_ n1_
       have n0_ := Aside0.mk (blk_drew BK216.out)
       have n1_ := Aside0.mk (below_drew1 HB.out)
       clear BK216 HB
       have BK216 := n0_
       have HB := n1_
       clear n0_ n1_
       refine start_ (n := 35) (S := fun w' => w'.cell? ⟨gb216, 0, none⟩ = some (.string ((rd_T48 l0 x7_1).f0.f0)) ∧ w'.cell? ⟨gb216, 1, none⟩ = some (.string ((rd_T48 l0 x7_1).f0.f1)) ∧ w'.cell? ⟨gb216, 2, none⟩ = some (.int .i64 ((rd_T48 l0 x7_1).f1))) (ds := []) #[false, false, false, false, false, false, false, false, false, false, false, false, false, false, false, false, false, false, false, false, false, false, false, false, false, false, false, false, false, false, false, false, false, false, false] (by kernel_rfl) rfl rfl ⟨(blk_cell BK216.out 0).trans rfl, (blk_cell BK216.out 1).trans rfl, (blk_cell BK216.out 2).trans rfl⟩ (fun hHeld => ?_); refine with_tabW diff_Check.tab4 diff_Check.bits4 (fun HT_ HW_ => ?_)
       generalize w50.drew = w51 at BK216 HB hHeld ⊢
       refine pz_ 0 12 HT_.out ?_
       refine tz_ 1 13 HT_.out HW_.out hHeld ?_
       refine one_ (i := 2) (N := some 14) #[true, true, true, false, false, false, false, false, false, false, false, false, false, false, false, false, false, false, false, false, false, false, false, false, false, false, false, false, false, false, false, false, false, false, false] rfl rfl (one_of HT_.out (by kernel_rfl)) (by decide) (fun K hK => ?_)
       refine goes_ Tryz.func45 (by kernel_rfl) rfl #[.agg #[.string ((rd_T48 l0 x7_1).f0.f0), .string ((rd_T48 l0 x7_1).f0.f1)]] (by rfl) rfl rfl (by (try simp only [List.map_toArray, List.map_cons, List.map_nil]); first | done | rfl | (simp only [List.length_drop, List.length_take]; rfl)) ?_
       with_reducible refine (node_May.calls k1 ((rd_T48 l0 x7_1).f0.f0) ((rd_T48 l0 x7_1).f0.f1) false _ A5.out).mono ?_
       rintro e w52 ⟨rfl, hb⟩
       refine ⟨_, rfl, ?_⟩
       have n0_ := Aside0.mk (blk_below (g := gb216) (o := .cells #[.string ((rd_T48 l0 x7_1).f0.f0), .string ((rd_T48 l0 x7_1).f0.f1), .int .i64 ((rd_T48 l0 x7_1).f1)] 48 (0, 0)) (by (with_reducible repeat (first | refine blk_drewN ?_ _ | refine blk_drew ?_ | refine blk_alloc ?_ _)); exact BK216.out) hb)
       have n1_ := Aside0.mk (below_step (by repeat (first | (with_reducible first | exact HB.out | apply below_alloc | apply pw_below_drewN | apply below_drew1 | refine below_set ?_ GE216.out) | exact HB.out)) hb)
       clear BK216 HB
       have BK216 := n0_
       have HB := n1_
       clear n0_ n1_
       (try clear hb)
       (try clear hb2)
       (try clear hk)
       (try clear hi)
       refine hK.out _ _ ⟨(blk_cell BK216.out 0).trans rfl, (blk_cell BK216.out 1).trans rfl, (blk_cell BK216.out 2).trans rfl⟩ (fun hHeld => ?_)
       clear hK K
       refine nz_ 14 ?_
       refine pz_ 3 15 HT_.out ?_
       refine pz_ 4 16 HT_.out ?_
       refine pu_ 5 17 HT_.out ?_
       refine pu_ 6 18 HT_.out ?_
       refine pu_ 7 19 HT_.out ?_
       refine pz_ 8 20 HT_.out ?_
       refine pz_ 9 21 HT_.out ?_
       refine pu_ 10 22 HT_.out ?_
       refine pu_ 11 23 HT_.out ?_
       refine pu_ 12 24 HT_.out ?_
       refine pz_ 13 25 HT_.out ?_
       refine pz_ 14 26 HT_.out ?_
       refine pu_ 15 27 HT_.out ?_
       refine pu_ 16 28 HT_.out ?_
       refine pu_ 17 29 HT_.out ?_
       refine pz_ 18 30 HT_.out ?_
       refine pz_ 19 31 HT_.out ?_
       refine pu_ 20 32 HT_.out ?_
       refine pu_ 21 33 HT_.out ?_
       refine pu_ 22 34 HT_.out ?_
       refine pu_ 23 35 HT_.out ?_
       refine pu_ 24 36 HT_.out ?_
       refine pu_ 25 37 HT_.out ?_
       refine pu_ 26 38 HT_.out ?_
       refine pu_ 27 39 HT_.out ?_
       refine pu_ 28 40 HT_.out ?_
       refine pu_ 29 41 HT_.out ?_
       refine pu_ 30 42 HT_.out ?_
       refine pu_ 31 43 HT_.out ?_
       refine pu_ 32 44 HT_.out ?_
       refine pu_ 33 45 HT_.out ?_
       refine pz_ 34 46 HT_.out ?_
       refine done_ (done_of HT_.out (by kernel_rfl)) ?_
       try go_wp2
       go_ret
       exact ⟨by first | rfl | (simp [errW_none, errW_some] <;> rfl) | (simp [*, errW_none, errW_some] <;> rfl), by repeat (first | (with_reducible first | exact HB.out | apply below_alloc | apply pw_below_drewN | apply below_drew1 | refine below_set ?_ GE216.out) | exact HB.out)⟩
     ·rw [if_neg c4] at H
      exact absurd H (by simp)
    ·rw [if_neg c3] at H
     exact absurd H (by simp)
   ·rw [if_neg c2] at H
    have c2b0 : decide (x7_1 < (l0.length : Int)) = false := decide_eq_false c2
    clear c2
    obtain rfl := Option.some.inj H
    go_wp2
    go_ret
    exact ⟨by first | rfl | (simp [errW_none, errW_some] <;> rfl) | (simp [*, errW_none, errW_some] <;> rfl), by repeat (first | (with_reducible first | exact HB.out | apply below_alloc | apply pw_below_drewN | apply below_drew1) | exact HB.out)⟩
end Go.Proofs.YtohdmmafjpjmfaaGreatDoor.Q
end
