/- Part 5 of this claim: several texts one behind the other: FnodeRead, NSet, Sort, NSort, NCells, NClone, NSetF, LOne, LRd, LFew, LHas, LSame, NOrd, NCheck, NFind, NSets. What each shows stands in its theorems; conditions: sizes of texts and lists, as the functions' definitions say. -/
import Derived.Test.YtnknjhdpjjddeaaDoorMNodeUnions3
import Derived.Test.YtnknjhdpjjddeaaDoorMNodeUnions0
import Derived.RegionTactic
import Derived.BigRegion
import Derived.ChangeAlike
import Derived.Deep.QuietTactic
import Derived.BigQuiet
import Derived.Deep.RegionHeld3
import Derived.Maps.OwnSet
import Derived.Maps.AppendAt
import Derived.DeepKeys4
import Derived.Shelf.SlSortCmp.NoneTotal
import Derived.Ground.SlsfProg
import Derived.Test.YtnknjhdpjjddeaaDoorProg
import Derived.Lib.LazyBuf
import Derived.ArgAppend
import Derived.Lib.SliceRun
import Derived.Test.YtnknjhdpjjddeaaDoorMNodeUnions1
import Derived.Test.YtnknjhdpjjddeaaDoorMNodeUnions4
section
namespace Go.Proofs.YtnknjhdpjjddeaaDoor.Q
open Go.Proofs.YtnknjhdpjjddeaaDoor.QB.D
open Go.RowKit Go.Proofs.YtnknjhdpjjddeaaDoorW.PrintWords Go.Proofs.YtnknjhdpjjddeaaDoorW.PrintLast Go.Proofs.YtnknjhdpjjddeaaDoorW.PrintMore
attribute [local go_sem] max2_int min2_int max_two min_two max_three min_three max_four min_four   -- for this text's walks alone
set_option linter.unusedVariables false
set_option linter.unusedSimpArgs false
attribute [local go_sem high] eqA23
/-! ### node_Read: function 15 -/
def node_Read.f (k : Nat) (a0 : ByteArray) : Option (ByteArray × ByteArray × Int) := (strings_Cut.f a0 (⟨#[64]⟩ : ByteArray)).bind fun bt165 => ((node_May.f k bt165.1 bt165.2.1).bind fun t168 => (if t168 = true then (some (bt165.1, bt165.2.1, 0)) else (some ((⟨#[]⟩ : ByteArray), (⟨#[]⟩ : ByteArray), 1))))
theorem node_Read.mono : ∀ a0 k, LeO (node_Read.f k a0) (node_Read.f (k + 1) a0) := by
  intro a0 k
  unfold node_Read.f
  repeat' first
      | (with_reducible exact node_May.mono _ _ _)
      | (with_reducible exact LeO.refl _)
      | (with_reducible exact LeO.none _)
      | (with_reducible refine LeO.ite ?_ ?_)
      | (with_reducible refine LeO.bind ?_ (fun _ => ?_))
      | exact node_May.mono _ _ _
      | exact LeO.none _
      | refine LeO.ite ?_ ?_
      | refine LeO.bind ?_ (fun _ => ?_)
set_option maxHeartbeats 8000000 in
set_option maxRecDepth 100000 in
theorem node_Read.calls (k : Nat) (a0 : ByteArray) (r1 : ByteArray) (r2 : ByteArray) (r3 : Int) (w : World) (h : node_Read.f k a0 = some (r1, r2, r3)) :
    Calls Tryd.prog 15 #[.string a0] w fun e w' => e = .returned (.tuple #[.agg #[.string r1, .string r2], .int .i64 r3]) ∧ Below w.heap.size w w' := by
  have hu23 := Tryd.underlying23
  have HB := Aside0.mk (Below.refl w.heap.size w)
  have H : ((strings_Cut.f a0 (⟨#[64]⟩ : ByteArray)).bind fun bt165 => ((node_May.f k bt165.1 bt165.2.1).bind fun t168 => (if t168 = true then (some (bt165.1, bt165.2.1, 0)) else (some ((⟨#[]⟩ : ByteArray), (⟨#[]⟩ : ByteArray), 1))))) = some (r1, r2, r3) := h
  clear h
  replace H := Option.bind_eq_some_iff.mp H
  obtain ⟨⟨t165, t166, t167⟩, A20, H⟩ := H
  replace H : ((node_May.f k t165 t166).bind fun t168 => (if t168 = true then (some (t165, t166, 0)) else (some ((⟨#[]⟩ : ByteArray), (⟨#[]⟩ : ByteArray), 1)))) = some (r1, r2, r3) := H
  have A2 := Aside0.mk A20
  clear A20
  replace H := Option.bind_eq_some_iff.mp H
  obtain ⟨t168, A30, H⟩ := H
  replace H : (if t168 = true then (some (t165, t166, 0)) else (some ((⟨#[]⟩ : ByteArray), (⟨#[]⟩ : ByteArray), 1))) = some (r1, r2, r3) := H
  have A3 := Aside0.mk A30
  clear A30
  by_cases c4 : t168 = true
  · subst c4
    have H1 : (some (t165, t166, 0)) = some (r1, r2, r3) := by rw [if_pos rfl] at H; exact H
    clear H
    have H := H1
    clear H1
    simp only [Option.some.injEq, Prod.mk.injEq] at H
    obtain ⟨rfl, rfl, rfl⟩ := H
    go_enter Tryd.func15, Tryd.ntmps15
    go_wp2_with (first | ((with_reducible refine gate_dst (N := 2) rfl ?_); refine box_event ?hg (N := 2) ?hd (cs := #[.string (⟨#[]⟩ : ByteArray), .string (⟨#[]⟩ : ByteArray)]) (t := 23) ?hr ?_; (case hd => rfl); (case hg => rfl); (case hr => first | (go_simp; done) | (go_simp; rfl)); intro gb163 hg w5 hbox hb; have n0_ := Aside0.mk (below_step (by repeat (first | (with_reducible first | exact HB.out | apply below_alloc | apply pw_below_drewN | apply below_drew1) | exact HB.out)) hb); have n1_ := Aside0.mk (hbox); have n2_ := Aside0.mk ((by rw [hg]; exact (below_size (by repeat (first | (with_reducible first | exact HB.out | apply below_alloc | apply pw_below_drewN | apply below_drew1) | exact HB.out))) : w.heap.size ≤ gb163)); have n3_ := Aside0.mk ((by rw [hg]; exact (below_size (by repeat (first | (with_reducible first | exact HB.out | apply below_alloc | apply pw_below_drewN | apply below_drew1) | exact HB.out))) : w.heap.size ≤ gb163)); clear HB; have HB := n0_; have BK163 := n1_; have GW163 := n2_; have GE163 := n3_; clear n0_ n1_ n2_ n3_; clear hb hbox hg) | ((with_reducible refine gate_dst (N := 4) rfl ?_); refine box_event ?hg (N := 4) ?hd (cs := #[.string (⟨#[]⟩ : ByteArray), .string (⟨#[]⟩ : ByteArray)]) (t := 23) ?hr ?_; (case hd => rfl); (case hg => rfl); (case hr => first | (go_simp; done) | (go_simp; rfl)); intro gb164 hg w6 hbox hb; have n0_ := Aside0.mk (blk_below (g := gb163) (o := .cells #[.string (⟨#[]⟩ : ByteArray), .string (⟨#[]⟩ : ByteArray)] 23 (0, 0)) (by (with_reducible repeat (first | refine blk_drewN ?_ _ | refine blk_drew ?_ | refine blk_alloc ?_ _)); exact BK163.out) hb); have n1_ := Aside0.mk (below_step (by repeat (first | (with_reducible first | exact HB.out | apply below_alloc | apply pw_below_drewN | apply below_drew1 | refine below_set ?_ GE163.out) | exact HB.out)) hb); have n2_ := Aside0.mk (hbox); have n3_ := Aside0.mk ((by rw [hg]; exact (below_size (by repeat (first | (with_reducible first | exact HB.out | apply below_alloc | apply pw_below_drewN | apply below_drew1 | refine below_set ?_ GE163.out) | exact HB.out))) : w.heap.size ≤ gb164)); have n4_ := Aside0.mk ((by rw [hg]; exact (below_size (by repeat (first | (with_reducible first | exact HB.out | apply below_alloc | apply pw_below_drewN | apply below_drew1 | refine below_set ?_ GE163.out) | exact HB.out))) : w.heap.size ≤ gb164)); have n5_ := Aside0.mk ((by rw [hg]; exact Nat.ne_of_lt (blk_lt (g := gb163) (o := .cells #[.string (⟨#[]⟩ : ByteArray), .string (⟨#[]⟩ : ByteArray)] 23 (0, 0)) (by (with_reducible repeat (first | refine blk_drewN ?_ _ | refine blk_drew ?_ | refine blk_alloc ?_ _)); exact BK163.out)) : gb163 ≠ gb164)); have n6_ := Aside0.mk ((by rw [hg]; exact Nat.ne_of_gt (blk_lt (g := gb163) (o := .cells #[.string (⟨#[]⟩ : ByteArray), .string (⟨#[]⟩ : ByteArray)] 23 (0, 0)) (by (with_reducible repeat (first | refine blk_drewN ?_ _ | refine blk_drew ?_ | refine blk_alloc ?_ _)); exact BK163.out)) : gb164 ≠ gb163)); clear BK163; clear HB; have BK163 := n0_; have HB := n1_; have BK164 := n2_; have GW164 := n3_; have GE164 := n4_; have NB163_164 := n5_; have NB164_163 := n6_; clear n0_ n1_ n2_ n3_ n4_ n5_ n6_; clear hb hbox hg) | ((with_reducible refine gate_callee (f := 31) rfl ?_); refine goesL_ (some 7) rfl rfl Tryd.func31 (by kernel_rfl) rfl #[.string a0, .string (⟨#[64]⟩ : ByteArray)] rfl (by (try simp only [List.map_toArray, List.map_cons, List.map_nil]); first | done | rfl | (simp only [List.length_drop, List.length_take]; rfl)) ?_; (with_reducible refine (strings_Cut.calls a0 (⟨#[64]⟩ : ByteArray) t165 t166 t167 _ A2.out).mono ?_); rintro e w' ⟨rfl, ⟨nd, rfl⟩⟩; refine ⟨_, rfl, ?_⟩; (try (rw [drewN_self w6]; generalize hq_ : World.drewN w6 _ = w6; have n0_ : Aside0 (w6.heap[gb163]? = some (.cells #[.string (⟨#[]⟩ : ByteArray), .string (⟨#[]⟩ : ByteArray)] 23 (0, 0))) := ⟨by rw [← hq_]; exact (by (with_reducible repeat (first | refine blk_drewN ?_ _ | refine blk_drew ?_ | refine blk_alloc ?_ _)); exact BK163.out)⟩; have n1_ : Aside0 (w6.heap[gb164]? = some (.cells #[.string (⟨#[]⟩ : ByteArray), .string (⟨#[]⟩ : ByteArray)] 23 (0, 0))) := ⟨by rw [← hq_]; exact (by (with_reducible repeat (first | refine blk_drewN ?_ _ | refine blk_drew ?_ | refine blk_alloc ?_ _)); exact BK164.out)⟩; have n2_ : Aside0 (Below w.heap.size w w6) := ⟨by rw [← hq_]; exact (by repeat (first | (with_reducible first | exact HB.out | apply below_alloc | apply pw_below_drewN | apply below_drew1 | refine below_set ?_ GE163.out | refine below_set ?_ GE164.out) | exact HB.out))⟩; clear BK163 BK164 HB hq_; have BK163 := n0_; have BK164 := n1_; have HB := n2_; clear n0_ n1_ n2_)); have hnb7 := NB164_163.out; have hnc7 := NB163_164.out; have hcz8_0 : w6.cell? ⟨gb164, 0, none⟩ = some (.string (⟨#[]⟩ : ByteArray)) := (blk_cell BK164.out 0).trans rfl; have hcz8_1 : w6.cell? ⟨gb164, 1, none⟩ = some (.string (⟨#[]⟩ : ByteArray)) := (blk_cell BK164.out 1).trans rfl; have hfz8_0 := blk_frozen BK164.out 0; have hfz8_1 := blk_frozen BK164.out 1) | ((with_reducible refine gate_callee (f := 10) rfl ?_); refine goesL_ (some 14) rfl rfl Tryd.func10 (by kernel_rfl) rfl #[.agg #[.string t165, .string t166]] rfl (by (try simp only [List.map_toArray, List.map_cons, List.map_nil]); first | done | rfl | (simp only [List.length_drop, List.length_take]; rfl)) ?_; (with_reducible refine (node_May.calls k t165 t166 true _ A3.out).mono ?_); rintro e w9 ⟨rfl, hb⟩; refine ⟨_, rfl, ?_⟩; have n0_ := Aside0.mk (blk_below (g := gb163) (o := .cells #[.string (⟨#[]⟩ : ByteArray), .string (⟨#[]⟩ : ByteArray)] 23 (0, 0)) (by (with_reducible repeat (first | refine blk_drewN ?_ _ | refine blk_drew ?_ | refine blk_alloc ?_ _)); refine blk_far ?_ NB163_164.out _; (with_reducible repeat (first | refine blk_drewN ?_ _ | refine blk_drew ?_ | refine blk_alloc ?_ _)); refine blk_far ?_ NB163_164.out _; (with_reducible repeat (first | refine blk_drewN ?_ _ | refine blk_drew ?_ | refine blk_alloc ?_ _)); exact BK163.out) hb); have n1_ := Aside0.mk (blk_below (g := gb164) (o := .cells #[.string t165, .string t166] 23 (0, 0)) (by (with_reducible repeat (first | refine blk_drewN ?_ _ | refine blk_drew ?_ | refine blk_alloc ?_ _)); refine blk_put (cs := #[.string t165, .string (⟨#[]⟩ : ByteArray)]) ?_ 1 _ rfl; (with_reducible repeat (first | refine blk_drewN ?_ _ | refine blk_drew ?_ | refine blk_alloc ?_ _)); refine blk_put (cs := #[.string (⟨#[]⟩ : ByteArray), .string (⟨#[]⟩ : ByteArray)]) ?_ 0 _ rfl; (with_reducible repeat (first | refine blk_drewN ?_ _ | refine blk_drew ?_ | refine blk_alloc ?_ _)); exact BK164.out) hb); have n2_ := Aside0.mk (below_step (by repeat (first | (with_reducible first | exact HB.out | apply below_alloc | apply pw_below_drewN | apply below_drew1 | refine below_set ?_ GE163.out | refine below_set ?_ GE164.out) | exact HB.out)) hb); clear BK163; clear BK164; clear HB; have BK163 := n0_; have BK164 := n1_; have HB := n2_; clear n0_ n1_ n2_; (try clear hb); (try clear hb2); (try clear hk); (try clear hi); have hcz10_0 : w9.cell? ⟨gb164, 0, none⟩ = some (.string t165) := (blk_cell BK164.out 0).trans rfl; have hcz10_1 : w9.cell? ⟨gb164, 1, none⟩ = some (.string t166) := (blk_cell BK164.out 1).trans rfl; have hfz10_0 := blk_frozen BK164.out 0; have hfz10_1 := blk_frozen BK164.out 1; have hcz11_0 : w9.cell? ⟨gb163, 0, none⟩ = some (.string (⟨#[]⟩ : ByteArray)) := (blk_cell BK163.out 0).trans rfl; have hcz11_1 : w9.cell? ⟨gb163, 1, none⟩ = some (.string (⟨#[]⟩ : ByteArray)) := (blk_cell BK163.out 1).trans rfl; have hfz11_0 := blk_frozen BK163.out 0; have hfz11_1 := blk_frozen BK163.out 1))
    refine bodyPost_ret (results_ct rfl _ _ gb163 23 #[.string t165, .string t166] (0, 0) _ rfl (by (with_reducible repeat (first | refine blk_drewN ?_ _ | refine blk_drew ?_ | refine blk_alloc ?_ _)); refine blk_put (cs := #[.string t165, .string (⟨#[]⟩ : ByteArray)]) ?_ 1 _ rfl; (with_reducible repeat (first | refine blk_drewN ?_ _ | refine blk_drew ?_ | refine blk_alloc ?_ _)); refine blk_put (cs := #[.string (⟨#[]⟩ : ByteArray), .string (⟨#[]⟩ : ByteArray)]) ?_ 0 _ rfl; (with_reducible repeat (first | refine blk_drewN ?_ _ | refine blk_drew ?_ | refine blk_alloc ?_ _)); exact BK163.out) Tryd.underlying23 rfl (by kernel_rfl)) rfl ?_
    exact ⟨by first | rfl | (simp [errW_none, errW_some] <;> rfl) | (simp [*, errW_none, errW_some] <;> rfl), by repeat (first | (with_reducible first | exact HB.out | apply below_alloc | apply pw_below_drewN | apply below_drew1 | refine below_set ?_ GE163.out | refine below_set ?_ GE164.out) | exact HB.out)⟩
  · replace c4 := Bool.eq_false_iff.mpr c4
    subst c4
    have H1 : (some ((⟨#[]⟩ : ByteArray), (⟨#[]⟩ : ByteArray), 1)) = some (r1, r2, r3) := by rw [if_neg (show ¬ (false = true) by decide)] at H; exact H
    clear H
    have H := H1
    clear H1
    simp only [Option.some.injEq, Prod.mk.injEq] at H
    obtain ⟨rfl, rfl, rfl⟩ := H
    go_enter Tryd.func15, Tryd.ntmps15
    go_wp2_with (first | ((with_reducible refine gate_dst (N := 2) rfl ?_); refine box_event ?hg (N := 2) ?hd (cs := #[.string (⟨#[]⟩ : ByteArray), .string (⟨#[]⟩ : ByteArray)]) (t := 23) ?hr ?_; (case hd => rfl); (case hg => rfl); (case hr => first | (go_simp; done) | (go_simp; rfl)); intro gb163 hg w12 hbox hb; have n0_ := Aside0.mk (below_step (by repeat (first | (with_reducible first | exact HB.out | apply below_alloc | apply pw_below_drewN | apply below_drew1) | exact HB.out)) hb); have n1_ := Aside0.mk (hbox); have n2_ := Aside0.mk ((by rw [hg]; exact (below_size (by repeat (first | (with_reducible first | exact HB.out | apply below_alloc | apply pw_below_drewN | apply below_drew1) | exact HB.out))) : w.heap.size ≤ gb163)); have n3_ := Aside0.mk ((by rw [hg]; exact (below_size (by repeat (first | (with_reducible first | exact HB.out | apply below_alloc | apply pw_below_drewN | apply below_drew1) | exact HB.out))) : w.heap.size ≤ gb163)); clear HB; have HB := n0_; have BK163 := n1_; have GW163 := n2_; have GE163 := n3_; clear n0_ n1_ n2_ n3_; clear hb hbox hg) | ((with_reducible refine gate_dst (N := 4) rfl ?_); refine box_event ?hg (N := 4) ?hd (cs := #[.string (⟨#[]⟩ : ByteArray), .string (⟨#[]⟩ : ByteArray)]) (t := 23) ?hr ?_; (case hd => rfl); (case hg => rfl); (case hr => first | (go_simp; done) | (go_simp; rfl)); intro gb164 hg w13 hbox hb; have n0_ := Aside0.mk (blk_below (g := gb163) (o := .cells #[.string (⟨#[]⟩ : ByteArray), .string (⟨#[]⟩ : ByteArray)] 23 (0, 0)) (by (with_reducible repeat (first | refine blk_drewN ?_ _ | refine blk_drew ?_ | refine blk_alloc ?_ _)); exact BK163.out) hb); have n1_ := Aside0.mk (below_step (by repeat (first | (with_reducible first | exact HB.out | apply below_alloc | apply pw_below_drewN | apply below_drew1 | refine below_set ?_ GE163.out) | exact HB.out)) hb); have n2_ := Aside0.mk (hbox); have n3_ := Aside0.mk ((by rw [hg]; exact (below_size (by repeat (first | (with_reducible first | exact HB.out | apply below_alloc | apply pw_below_drewN | apply below_drew1 | refine below_set ?_ GE163.out) | exact HB.out))) : w.heap.size ≤ gb164)); have n4_ := Aside0.mk ((by rw [hg]; exact (below_size (by repeat (first | (with_reducible first | exact HB.out | apply below_alloc | apply pw_below_drewN | apply below_drew1 | refine below_set ?_ GE163.out) | exact HB.out))) : w.heap.size ≤ gb164)); have n5_ := Aside0.mk ((by rw [hg]; exact Nat.ne_of_lt (blk_lt (g := gb163) (o := .cells #[.string (⟨#[]⟩ : ByteArray), .string (⟨#[]⟩ : ByteArray)] 23 (0, 0)) (by (with_reducible repeat (first | refine blk_drewN ?_ _ | refine blk_drew ?_ | refine blk_alloc ?_ _)); exact BK163.out)) : gb163 ≠ gb164)); have n6_ := Aside0.mk ((by rw [hg]; exact Nat.ne_of_gt (blk_lt (g := gb163) (o := .cells #[.string (⟨#[]⟩ : ByteArray), .string (⟨#[]⟩ : ByteArray)] 23 (0, 0)) (by (with_reducible repeat (first | refine blk_drewN ?_ _ | refine blk_drew ?_ | refine blk_alloc ?_ _)); exact BK163.out)) : gb164 ≠ gb163)); clear BK163; clear HB; have BK163 := n0_; have HB := n1_; have BK164 := n2_; have GW164 := n3_; have GE164 := n4_; have NB163_164 := n5_; have NB164_163 := n6_; clear n0_ n1_ n2_ n3_ n4_ n5_ n6_; clear hb hbox hg) | ((with_reducible refine gate_callee (f := 31) rfl ?_); refine goesL_ (some 7) rfl rfl Tryd.func31 (by kernel_rfl) rfl #[.string a0, .string (⟨#[64]⟩ : ByteArray)] rfl (by (try simp only [List.map_toArray, List.map_cons, List.map_nil]); first | done | rfl | (simp only [List.length_drop, List.length_take]; rfl)) ?_; (with_reducible refine (strings_Cut.calls a0 (⟨#[64]⟩ : ByteArray) t165 t166 t167 _ A2.out).mono ?_); rintro e w' ⟨rfl, ⟨nd, rfl⟩⟩; refine ⟨_, rfl, ?_⟩; (try (rw [drewN_self w13]; generalize hq_ : World.drewN w13 _ = w13; have n0_ : Aside0 (w13.heap[gb163]? = some (.cells #[.string (⟨#[]⟩ : ByteArray), .string (⟨#[]⟩ : ByteArray)] 23 (0, 0))) := ⟨by rw [← hq_]; exact (by (with_reducible repeat (first | refine blk_drewN ?_ _ | refine blk_drew ?_ | refine blk_alloc ?_ _)); exact BK163.out)⟩; have n1_ : Aside0 (w13.heap[gb164]? = some (.cells #[.string (⟨#[]⟩ : ByteArray), .string (⟨#[]⟩ : ByteArray)] 23 (0, 0))) := ⟨by rw [← hq_]; exact (by (with_reducible repeat (first | refine blk_drewN ?_ _ | refine blk_drew ?_ | refine blk_alloc ?_ _)); exact BK164.out)⟩; have n2_ : Aside0 (Below w.heap.size w w13) := ⟨by rw [← hq_]; exact (by repeat (first | (with_reducible first | exact HB.out | apply below_alloc | apply pw_below_drewN | apply below_drew1 | refine below_set ?_ GE163.out | refine below_set ?_ GE164.out) | exact HB.out))⟩; clear BK163 BK164 HB hq_; have BK163 := n0_; have BK164 := n1_; have HB := n2_; clear n0_ n1_ n2_)); have hnb14 := NB164_163.out; have hnc14 := NB163_164.out; have hcz15_0 : w13.cell? ⟨gb164, 0, none⟩ = some (.string (⟨#[]⟩ : ByteArray)) := (blk_cell BK164.out 0).trans rfl; have hcz15_1 : w13.cell? ⟨gb164, 1, none⟩ = some (.string (⟨#[]⟩ : ByteArray)) := (blk_cell BK164.out 1).trans rfl; have hfz15_0 := blk_frozen BK164.out 0; have hfz15_1 := blk_frozen BK164.out 1) | ((with_reducible refine gate_callee (f := 10) rfl ?_); refine goesL_ (some 14) rfl rfl Tryd.func10 (by kernel_rfl) rfl #[.agg #[.string t165, .string t166]] rfl (by (try simp only [List.map_toArray, List.map_cons, List.map_nil]); first | done | rfl | (simp only [List.length_drop, List.length_take]; rfl)) ?_; (with_reducible refine (node_May.calls k t165 t166 false _ A3.out).mono ?_); rintro e w16 ⟨rfl, hb⟩; refine ⟨_, rfl, ?_⟩; have n0_ := Aside0.mk (blk_below (g := gb163) (o := .cells #[.string (⟨#[]⟩ : ByteArray), .string (⟨#[]⟩ : ByteArray)] 23 (0, 0)) (by (with_reducible repeat (first | refine blk_drewN ?_ _ | refine blk_drew ?_ | refine blk_alloc ?_ _)); refine blk_far ?_ NB163_164.out _; (with_reducible repeat (first | refine blk_drewN ?_ _ | refine blk_drew ?_ | refine blk_alloc ?_ _)); refine blk_far ?_ NB163_164.out _; (with_reducible repeat (first | refine blk_drewN ?_ _ | refine blk_drew ?_ | refine blk_alloc ?_ _)); exact BK163.out) hb); have n1_ := Aside0.mk (blk_below (g := gb164) (o := .cells #[.string t165, .string t166] 23 (0, 0)) (by (with_reducible repeat (first | refine blk_drewN ?_ _ | refine blk_drew ?_ | refine blk_alloc ?_ _)); refine blk_put (cs := #[.string t165, .string (⟨#[]⟩ : ByteArray)]) ?_ 1 _ rfl; (with_reducible repeat (first | refine blk_drewN ?_ _ | refine blk_drew ?_ | refine blk_alloc ?_ _)); refine blk_put (cs := #[.string (⟨#[]⟩ : ByteArray), .string (⟨#[]⟩ : ByteArray)]) ?_ 0 _ rfl; (with_reducible repeat (first | refine blk_drewN ?_ _ | refine blk_drew ?_ | refine blk_alloc ?_ _)); exact BK164.out) hb); have n2_ := Aside0.mk (below_step (by repeat (first | (with_reducible first | exact HB.out | apply below_alloc | apply pw_below_drewN | apply below_drew1 | refine below_set ?_ GE163.out | refine below_set ?_ GE164.out) | exact HB.out)) hb); clear BK163; clear BK164; clear HB; have BK163 := n0_; have BK164 := n1_; have HB := n2_; clear n0_ n1_ n2_; (try clear hb); (try clear hb2); (try clear hk); (try clear hi); have hcz17_0 : w16.cell? ⟨gb163, 0, none⟩ = some (.string (⟨#[]⟩ : ByteArray)) := (blk_cell BK163.out 0).trans rfl; have hcz17_1 : w16.cell? ⟨gb163, 1, none⟩ = some (.string (⟨#[]⟩ : ByteArray)) := (blk_cell BK163.out 1).trans rfl; have hfz17_0 := blk_frozen BK163.out 0; have hfz17_1 := blk_frozen BK163.out 1))
    refine bodyPost_ret (results_ct rfl _ _ gb163 23 #[.string (⟨#[]⟩ : ByteArray), .string (⟨#[]⟩ : ByteArray)] (0, 0) _ rfl (by (with_reducible repeat (first | refine blk_drewN ?_ _ | refine blk_drew ?_ | refine blk_alloc ?_ _)); refine blk_put (cs := #[.string (⟨#[]⟩ : ByteArray), .string (⟨#[]⟩ : ByteArray)]) ?_ 1 _ rfl; (with_reducible repeat (first | refine blk_drewN ?_ _ | refine blk_drew ?_ | refine blk_alloc ?_ _)); refine blk_put (cs := #[.string (⟨#[]⟩ : ByteArray), .string (⟨#[]⟩ : ByteArray)]) ?_ 0 _ rfl; (with_reducible repeat (first | refine blk_drewN ?_ _ | refine blk_drew ?_ | refine blk_alloc ?_ _)); exact BK163.out) Tryd.underlying23 rfl (by kernel_rfl)) rfl ?_
    exact ⟨by first | rfl | (simp [errW_none, errW_some] <;> rfl) | (simp [*, errW_none, errW_some] <;> rfl), by repeat (first | (with_reducible first | exact HB.out | apply below_alloc | apply pw_below_drewN | apply below_drew1 | refine below_set ?_ GE163.out | refine below_set ?_ GE164.out) | exact HB.out)⟩
end Go.Proofs.YtnknjhdpjjddeaaDoor.Q
end

section
namespace Go.Proofs.YtnknjhdpjjddeaaDoor.Q
open Go.Proofs.YtnknjhdpjjddeaaDoor.QB.D
open Go Go.RowKit Go.Maps Go.Lib Go.Proofs.YtnknjhdpjjddeaaDoorW.PrintWords Go.Proofs.YtnknjhdpjjddeaaDoorW.PrintLast Go.Proofs.YtnknjhdpjjddeaaDoorW.PrintMore Gw
set_option linter.unusedVariables false
set_option linter.unusedSimpArgs false
set_option maxRecDepth 100000
theorem laid_all : laidOutB Tryd.prog = true := by kernel_rfl
theorem keyt_node : Tryd.prog.keyTypeAt 3 23 = true := by kernel_rfl
theorem keyr_node : 23 < Tryd.prog.types.size := Nat.le_of_ble_eq_true (by kernel_rfl)
theorem wide_node : (match Tryd.prog.underlying 23 with | some (.array _ _) | some (.struct _) => true | _ => false) = true := by kernel_rfl
theorem law_node : Keyed Tryd.prog 23 := Keyed.of_law (deep_law_laid laid_all (m := 3) (by omega) keyr_node keyt_node wide_node)
def nkey (x : S23) : Lit := .string (keyBytes [.string x.f0.data.toList, .string x.f1.data.toList])
theorem keyOf_node (x : S23) (hs : x.f0.size ≤ maxLen) (ht : x.f1.size ≤ maxLen) : keyOf Tryd.prog 23 (.agg #[.string x.f0, .string x.f1]) = some (nkey x) := by
  unfold keyOf
  rw [Tryd.underlying23]
  have h1 : Tryd.prog.keyType 23 = true := by kernel_rfl
  have h2 : Tryd.prog.cellsOf 23 = 2 := by kernel_rfl
  have h3 : Tryd.prog.cellsOf 9 = 1 := by kernel_rfl
  obtain ⟨m, h4⟩ : ∃ m, Tryd.prog.types.size = m + 1 := ⟨Tryd.prog.types.size - 1, by have := keyr_node; omega⟩
  have u9 := Tryd.underlying9
  rw [h4]
  simp [h1, Value.formed, Tryd.underlying23, h2, Program.keyLits, h3, u9, Value.cells, hs, ht, nkey]
abbrev NS (x : S23) : Prop := x.f0.size ≤ maxLen ∧ x.f1.size ≤ maxLen
theorem nkey_inj {x y : S23} (hx : NS x) (hy : NS y) : nkey x = nkey y ↔ x = y := by
  refine ⟨fun h => ?_, fun h => by rw [h]⟩
  have e1 := keyOf_node x hx.1 hx.2
  have e2 := keyOf_node y hy.1 hy.2
  rw [← h] at e2
  have e := keyOf_inj_deep (tiled_of_laidOut laid_all 3 _ (by
    simp only [isVar, Bool.and_eq_true, decide_eq_true_eq]
    refine ⟨keyr_node, ?_⟩
    simp [Tryd.underlying23, kindOk]) keyt_node) wide_node e1 e2
  simp only [Value.agg.injEq] at e
  cases x; cases y
  simpa using e
instance : DecidableEq S23 := fun a b => if h : a.f0 = b.f0 ∧ a.f1 = b.f1 then isTrue (by cases a; cases b; simp at h; rw [h.1, h.2]) else isFalse (fun e => h (by subst e; exact ⟨rfl, rfl⟩))
/-- The nodes of a list, each once, in the order of their first coming. -/
def ded (l : List S23) : List S23 := l.foldl (fun acc x => if x ∈ acc then acc else acc ++ [x]) []
theorem ded_snoc (l : List S23) (x : S23) : ded (l ++ [x]) = if x ∈ ded l then ded l else ded l ++ [x] := by
  unfold ded
  rw [List.foldl_append]
  rfl
theorem ded_take (l : List S23) (i : Nat) (hi : i < l.length) : ded (l.take (i + 1)) = if l[i] ∈ ded (l.take i) then ded (l.take i) else ded (l.take i) ++ [l[i]] := by
  rw [List.take_succ_eq_append_getElem hi, ded_snoc]
theorem ded_len (l : List S23) : ∀ i, i ≤ l.length → (ded (l.take i)).length ≤ i
  | 0, _ => by simp [ded]
  | i + 1, h => by
    have ih := ded_len l i (by omega)
    rw [ded_take l i (by omega)]
    split <;> simp <;> omega
theorem ded_mem (l : List S23) (x : S23) : ∀ i, i ≤ l.length → (x ∈ ded (l.take i) ↔ x ∈ l.take i)
  | 0, _ => by simp [ded]
  | i + 1, h => by
    have ih := ded_mem l x i (by omega)
    rw [ded_take l i (by omega), List.take_succ_eq_append_getElem (show i < l.length by omega), List.mem_append, List.mem_singleton]
    split
    · rename_i hm
      rw [ih]
      refine ⟨Or.inl, fun h => h.elim id fun e => ?_⟩
      subst e
      have h2 := ded_mem l l[i] i (by omega)
      exact h2.1 hm
    · rw [List.mem_append, List.mem_singleton, ih]
theorem nkey_lit (x : S23) : WideAt.IsKeyLit (nkey x) := by unfold nkey; simp [WideAt.IsKeyLit]
/-- The set of what was met. -/
structure Met (D : DataW Unit) (L : List S23) : Prop where
  map : IsMap D
  has : ∀ y, NS y → Maps.has D (nkey y) = decide (y ∈ L)
theorem Met.none : Met (.map []) [] := ⟨isMap_empty, fun y _ => by simp [Maps.has]⟩
theorem Met.put {D : DataW Unit} {L L' : List S23} (h : Met D L) (x : S23) (hx : NS x) (d : DataW Unit) (hL : ∀ y, y ∈ L' ↔ y = x ∨ y ∈ L) : Met (D.put (nkey x) d) L' := by
  refine ⟨h.map.put _ _, fun y hy => ?_⟩
  by_cases e : y = x
  · subst e
    rw [has_put_same h.map (nkey_lit _), decide_eq_true ((hL y).2 (Or.inl rfl))]
  · rw [has_put_other (fun h2 => e ((nkey_inj hy hx).1 h2)), h.has y hy]
    exact decide_eq_decide.2 ⟨fun h3 => (hL y).2 (Or.inr h3), fun h3 => ((hL y).1 h3).resolve_left e⟩
theorem zero_unit (w : World) : (zeroValue 55).run Tryd.prog w = .ok (.agg #[]) w := by kernel_rfl
set_option maxHeartbeats 4000000 in
set_option maxRecDepth 100000 in
theorem nset_go (k : Nat) (A0 : Option Addr) (c0 : Nat) (l0 : List S23) (w : World) (hr0 : Kd.C k23 w A0 l0.length l0) (hl : l0.length ≤ 4294967296) (hns : ∀ x ∈ l0, NS x) (may : S23 → Bool) (hmay : ∀ x ∈ l0, node_May.f k x.f0 x.f1 = some (may x))
    (srt r1 : List S23) (r2 : Int) (hT : l0.all may = true → r1 = srt ∧ r2 = 0) (hF : l0.all may = false → r1 = [] ∧ r2 = 1)
    (hsort : l0.all may = true → ∀ (W : World) (v : Value), Below w.heap.size w W → Kd.R k23 23 W w.heap.size (fun j => j ≠ w.heap.size) v (ded l0) → Calls Tryd.prog 36 #[v, .func (.func 26) #[] #[]] W fun e w' => e = .returned (.tuple #[]) ∧ Kd.R k23 23 w' w.heap.size (fun _ => True) v srt ∧ Below w.heap.size w w') :
    Calls Tryd.prog 22 #[.slice A0 l0.length c0] w fun e w' => ∃ v, e = .returned (.tuple #[v, .int .i64 r2]) ∧ Kd.R k23 23 w' w.heap.size (fun _ => True) v r1 ∧ Below w.heap.size w w' := by
  have hu23 := Tryd.underlying23
  have hmm := @run_makeMap Tryd.prog
  have HR0 := Aside0.mk hr0
  have HNS := Aside0.mk hns
  have HMAY := Aside0.mk hmay
  have HT := Aside0.mk hT
  have HF := Aside0.mk hF
  have HSORT := Aside0.mk hsort
  have hl1 : (l0.length : Int) ≤ 4294967296 := by omega
  clear hr0 hns hmay hT hF hsort
  go_enter Tryd.func22, Tryd.ntmps22
  go_wp2_with fail
  go_loopw [5, 13] (fun v5 v13 wr => ∃ i : Nat, i ≤ l0.length ∧ v13 = .int .i64 (i : Int) ∧ (∃ D, Aside0 (wr.ownsMap Tryd.prog 23 unitElem w.heap.size i D) ∧ Aside0 (Met D (ded (l0.take i)))) ∧ Aside0 (Kd.R k23 23 wr w.heap.size (fun j => j ≠ w.heap.size) v5 (ded (l0.take i))) ∧ Aside0 (Below w.heap.size w wr) ∧ w.heap.size + 1 ≤ wr.heap.size ∧ Aside0 ((l0.take i).all may = true)) (fun _ v13 _ => l0.length - (RowKit.intOf v13).toNat)
  case atStart => exact ⟨0, Nat.zero_le _, rfl, ⟨_, ⟨World.ownsMap_made _ _ _ _⟩, ⟨Met.none⟩⟩, ⟨Kd.R_nil _ _ _ _ _⟩, ⟨below_alloc (Below.refl _ _) _⟩, by simp, ⟨rfl⟩⟩
  case round =>
    obtain ⟨i, hi, rfl, ⟨D, HM, HD⟩, HO, HB, hws, HA⟩ := hrel
    by_cases hil : i < l0.length
    · have j1 : (i : Int) < (l0.length : Int) := by omega
      have hdi : decide ((i : Int) < (l0.length : Int)) = true := decide_eq_true j1
      obtain ⟨x, hx⟩ : ∃ x, x = l0[i] := ⟨_, rfl⟩
      have hmem : x ∈ l0 := by rw [hx]; exact List.getElem_mem hil
      obtain ⟨ad, e0, hx0, hx1⟩ := at_T23 HR0.out (i : Int) (by omega) (by omega)
      have hrd : rd_T23 l0 (i : Int) = x := by rw [hx]; simp [rd_T23, List.getD_eq_getElem?_getD, List.getElem?_eq_getElem hil]
      rw [hrd, Int.toNat_natCast] at hx0 hx1
      cases e0
      replace hx0 := (HB.out.cell (World.block_lt_of_cell? w _ hx0)).trans hx0
      replace hx1 := (HB.out.cell (World.block_lt_of_cell? w _ hx1)).trans hx1
      have HX := Aside0.mk hx
      have hma := HMAY.out x hmem
      have hnx := HNS.out x hmem
      have hkey := keyOf_node x hnx.1 hnx.2
      have hhas := HD.out.has x hnx
      have hdt := ded_take l0 i hil
      have htk : l0.take (i + 1) = l0.take i ++ [x] := by rw [hx]; exact List.take_succ_eq_append_getElem hil
      rw [← hx] at hdt
      have HHAS := Aside0.mk hhas
      have HDT := Aside0.mk hdt
      have HTK := Aside0.mk htk
      have HMEM := Aside0.mk hmem
      obtain ⟨bm, hbm⟩ : ∃ b, b = may x := ⟨_, rfl⟩
      rw [← hbm] at hma
      have CM := fun w => node_May.calls k x.f0 x.f1 bm w hma
      have HBM := Aside0.mk hbm
      clear hx hrd hhas hdt htk hbm hmem hma
      go_wp2_with fail
      with_reducible refine (CM _).mono ?_
      rintro e w5 ⟨rfl, hb5⟩
      have hg5 := grown_of_below hb5 none
      have HM5 := Aside0.mk ((HM.out.alloc (.cells #[.string x.f0, .string x.f1] 23 (0, 0))).kept hg5 (by simp))
      have HO5 := Aside0.mk (Kd.R_below (Kd.R_alloc HO.out (.cells #[.string x.f0, .string x.f1] 23 (0, 0))) hb5)
      have HB5 := Aside0.mk (below_step (below_alloc HB.out (.cells #[.string x.f0, .string x.f1] 23 (0, 0))) hb5)
      have n0 : w5.cell? ⟨wr.heap.size, 0, none⟩ = some (.string x.f0) := (hb5.cell (p := ⟨wr.heap.size, 0, none⟩) (by simp)).trans (by simp [go_sem])
      have n1 : w5.cell? ⟨wr.heap.size, 1, none⟩ = some (.string x.f1) := (hb5.cell (p := ⟨wr.heap.size, 1, none⟩) (by simp)).trans (by simp [go_sem])
      have hz5 : wr.heap.size + 1 ≤ w5.heap.size := by have := hb5.size; simp at this; omega
      clear hg5 hb5 CM
      cases bm
      · have hfa : l0.all may = false := by
          rw [List.all_eq_false]
          exact ⟨x, HMEM.out, by rw [← HBM.out]; decide⟩
        obtain ⟨rfl, rfl⟩ := HF.out hfa
        clear hfa
        go_wp2
        go_ret2
        exact ⟨_, rfl, Kd.R_nil _ _ _ _ _, HB5.out⟩
      · obtain ⟨bh, hbh⟩ : ∃ b, b = Maps.has D (nkey x) := ⟨_, rfl⟩
        have HBH := Aside0.mk hbh
        clear hbh
        have n0' : ∀ o, (w5.alloc o).cell? ⟨wr.heap.size, 0, none⟩ = some (.string x.f0) := fun o => Lib.cell?_alloc_some _ n0
        have n1' : ∀ o, (w5.alloc o).cell? ⟨wr.heap.size, 1, none⟩ = some (.string x.f1) := fun o => Lib.cell?_alloc_some _ n1
        have hvr := Kd.R_lt HO.out
        have hva : some w.heap.size ≠ u5.ownBlock := Kd.R_away HO.out (fun j hj => hj)
        have hne : some wr.heap.size ≠ u5.ownBlock := fun e => absurd (hvr _ e.symm) (by omega)
        have HVA := Aside0.mk hva
        have HNE := Aside0.mk hne
        have hlen := ded_len l0 i hi
        have LEN := Aside0.mk hlen
        clear hvr hva hne hlen
        cases bh
        · -- a new node
          have hnew : x ∉ ded (l0.take i) := by
            have h := HHAS.out
            rw [← HBH.out] at h
            exact of_decide_eq_false h.symm
          have hdn : ded (l0.take (i + 1)) = ded (l0.take i) ++ [x] := by rw [HDT.out, if_neg hnew]
          have HDN := Aside0.mk hdn
          clear hdn hnew
          go_wp2_with (first
            | (at_lookup; refine wpList_lookup_own_unit _ rfl _ _ 54 rfl 23 55 law_node Tryd.underlying54 (zero_unit _) w.heap.size i _ rfl HM5.out _ _ rfl hkey ?_; rw [← HBH.out])
            | ((with_reducible refine gate_dst (N := 8) rfl ?_); refine box_event ?hg (N := 8) ?hd (cs := #[]) (t := 55) ?hr ?_; (case hd => rfl); (case hg => rfl); (case hr => first | (go_simp; done) | (go_simp; rfl)); intro gb hg w6 hbox hb6; have n0_6 : w6.cell? ⟨wr.heap.size, 0, none⟩ = some (.string x.f0) := (hb6.cell (p := ⟨wr.heap.size, 0, none⟩) (by simp; omega)).trans n0; have n1_6 : w6.cell? ⟨wr.heap.size, 1, none⟩ = some (.string x.f1) := (hb6.cell (p := ⟨wr.heap.size, 1, none⟩) (by simp; omega)).trans n1; have HM6 := Aside0.mk (HM5.out.kept (grown_of_below hb6 none) (by simp)); have HO6 := Aside0.mk (Kd.R_below HO5.out hb6); have HB6 := Aside0.mk (below_step HB5.out hb6); have hz6 : w5.heap.size ≤ w6.heap.size := hb6.size; clear hb6 hg hbox)
            | ((with_reducible refine gate_builtin (b := .append) (xs := #[.tmp 28, .tmp 30]) rfl ?_); at_builtin; refine Kd.R_append k23 (w0 := w) w.heap.size rfl (.tmp 28) (.tmp 30) 37 23 (.agg #[(.string ⟨#[]⟩), (.string ⟨#[]⟩)]) 32 rfl Tryd.underlying37 info23 rfl (by decide) (by omega) u5 (ded (l0.take i)) x [.string x.f0, .string x.f1] (fun j => j ≠ w.heap.size) (fun _ => False) rfl rfl ?aP (fun _ hk => hk.elim) ?aF ?aO ?aB ?aS ?aL ?_; (case aP => exact k23_mkM _ _ _ x); (case aB => exact HB6.out); (case aF => exact (fun j hj => by have := HB5.out.size; omega)); (case aO => exact HO6.out); (case aS => exact HB6.out.size); (case aL => have := LEN.out; omega); intro v7 w7 ho7 hb7 hg7 hat7; have n0_7 : w7.cell? ⟨wr.heap.size, 0, none⟩ = some (.string x.f0) := (World.cell?_of_block (hg7.block wr.heap.size (by omega) HNE.out)).trans n0_6; have n1_7 : w7.cell? ⟨wr.heap.size, 1, none⟩ = some (.string x.f1) := (World.cell?_of_block (hg7.block wr.heap.size (by omega) HNE.out)).trans n1_6; have HM7 := Aside0.mk (HM6.out.kept hg7 HVA.out); have HO7 := Aside0.mk ho7; have HB7 := Aside0.mk hb7; have hz7 := hg7.size; clear ho7 hb7 hg7 hat7)
            | (at_mapUpdate; refine wpList_mapUpdate_own _ rfl _ _ _ 54 rfl 23 55 law_node Tryd.underlying54 (unitElem (H := Unit)) w.heap.size i _ rfl HM7.out (by unfold maxLen; omega) _ _ _ rfl rfl hkey _ [] unitElem_mk ?_; intro w8 hown8 hgrow8)
            | fail)
          have HO8 := Aside0.mk (Kd.R_step HO7.out (fun j hj hlt => hgrow8.block j hlt (by simp; exact hj)))
          have HB8 := Aside0.mk (pw_below_grown HB7.out _ HB7.out.size hgrow8 (fun j hj => by cases hj; exact Nat.le_refl _))
          have hz8 := hgrow8.size
          go_roundw
          case rel => exact ⟨i + 1, by omega, by go_num, ⟨_, ⟨hown8⟩, ⟨HD.out.put x hnx _ (fun y => by rw [HDN.out, List.mem_append, List.mem_singleton]; exact Or.comm)⟩⟩, ⟨by rw [HDN.out]; exact HO8.out⟩, HB8, by omega, ⟨by rw [HTK.out, List.all_append, HA.out]; simp [← HBM.out]⟩⟩
          case measure => simp [RowKit.intOf]; omega
        · -- one that was met
          have hold : x ∈ ded (l0.take i) := by
            have h := HHAS.out
            rw [← HBH.out] at h
            exact of_decide_eq_true h.symm
          have hdn : ded (l0.take (i + 1)) = ded (l0.take i) := by rw [HDT.out, if_pos hold]
          have HDN := Aside0.mk hdn
          have HOLD := Aside0.mk hold
          clear hdn hold
          go_wp2_with (first
            | (at_lookup; refine wpList_lookup_own_unit _ rfl _ _ 54 rfl 23 55 law_node Tryd.underlying54 (zero_unit _) w.heap.size i _ rfl HM5.out _ _ rfl hkey ?_; rw [← HBH.out])
            | ((with_reducible refine gate_dst (N := 8) rfl ?_); refine box_event ?hg (N := 8) ?hd (cs := #[]) (t := 55) ?hr ?_; (case hd => rfl); (case hg => rfl); (case hr => first | (go_simp; done) | (go_simp; rfl)); intro gb hg w6 hbox hb6; have n0_6 : w6.cell? ⟨wr.heap.size, 0, none⟩ = some (.string x.f0) := (hb6.cell (p := ⟨wr.heap.size, 0, none⟩) (by simp; omega)).trans n0; have n1_6 : w6.cell? ⟨wr.heap.size, 1, none⟩ = some (.string x.f1) := (hb6.cell (p := ⟨wr.heap.size, 1, none⟩) (by simp; omega)).trans n1; have HM6 := Aside0.mk (HM5.out.kept (grown_of_below hb6 none) (by simp)); have HO6 := Aside0.mk (Kd.R_below HO5.out hb6); have HB6 := Aside0.mk (below_step HB5.out hb6); have hz6 : w5.heap.size ≤ w6.heap.size := hb6.size; clear hb6 hg hbox)
            | (at_mapUpdate; refine wpList_mapUpdate_own _ rfl _ _ _ 54 rfl 23 55 law_node Tryd.underlying54 (unitElem (H := Unit)) w.heap.size i _ rfl HM6.out (by unfold maxLen; omega) _ _ _ rfl rfl hkey _ [] unitElem_mk ?_; intro w8 hown8 hgrow8)
            | fail)
          have HO8 := Aside0.mk (Kd.R_step HO6.out (fun j hj hlt => hgrow8.block j hlt (by simp; exact hj)))
          have HB8 := Aside0.mk (pw_below_grown HB6.out _ HB6.out.size hgrow8 (fun j hj => by cases hj; exact Nat.le_refl _))
          have hz8 := hgrow8.size
          go_roundw
          case rel => exact ⟨i + 1, by omega, by go_num, ⟨_, ⟨hown8⟩, ⟨HD.out.put x hnx _ (fun y => by rw [HDN.out]; exact ⟨Or.inr, fun h => h.elim (fun e => by rw [e]; exact HOLD.out) id⟩)⟩⟩, ⟨by rw [HDN.out]; exact HO8.out⟩, HB8, by omega, ⟨by rw [HTK.out, List.all_append, HA.out]; simp [← HBM.out]⟩⟩
          case measure => simp [RowKit.intOf]; omega
    · obtain rfl : i = l0.length := by omega
      have hdi : decide ((l0.length : Int) < (l0.length : Int)) = false := decide_eq_false (by omega)
      have hall : l0.all may = true := by have := HA.out; rwa [List.take_length] at this
      obtain ⟨rfl, rfl⟩ := HT.out hall
      have ho := HO.out
      rw [List.take_length] at ho
      have CS := fun W hW hR => HSORT.out hall W u5 hW hR
      have HO9 := Aside0.mk ho
      clear ho hall
      go_wp2_with fail
      refine (CS _ HB.out HO9.out).mono ?_
      rintro e w6 ⟨rfl, ho6, hb6⟩
      have HO6 := Aside0.mk ho6
      have HB6 := Aside0.mk hb6
      clear ho6 hb6
      go_wp2
      go_ret2
      exact ⟨_, rfl, HO6.out, HB6.out⟩
end Go.Proofs.YtnknjhdpjjddeaaDoor.Q
end

section
namespace Go.Proofs
open Go.Shelf
def Tryd.sortNode_ren : Go.Shelf.Ren := ⟨fun | 6 => 36 | 15 => 51 | 14 => 50 | 28 => 74 | 29 => 75 | 20 => 66 | 21 => 67 | 22 => 68 | 23 => 69 | 24 => 70 | 25 => 71 | 26 => 72 | 27 => 73 | 46 => 89 | 47 => 90 | 48 => 91 | 49 => 92 | 50 => 93 | 57 => 100 | n => n, fun | 22 => 37 | 24 => 23 | 25 => 49 | 3 => 3 | 39 => 77 | 0 => 0 | 53 => 92 | 55 => 94 | 4 => 4 | 46 => 86 | 45 => 85 | 50 => 73 | 5 => 5 | 9 => 9 | 66 => 102 | 70 => 106 | 76 => 114 | 77 => 115 | n => n, fun | n => n⟩
theorem Tryd.sortNode : Go.Proofs.SlLaysF0.n6 Tryd.prog Tryd.sortNode_ren := {
  mixed := by kernel_rfl
  f6 := ⟨Tryd.f36.name, by decide, Tryd.func36.trans (congrArg some (by kernel_rfl))⟩
  f14 := ⟨Tryd.f50.name, by decide, Tryd.func50.trans (congrArg some (by kernel_rfl))⟩
  f15 := Tryd.func51.trans (congrArg some (by kernel_rfl))
  f20 := ⟨Tryd.f66.name, by decide, Tryd.func66.trans (congrArg some (by kernel_rfl))⟩
  f21 := ⟨Tryd.f67.name, by decide, Tryd.func67.trans (congrArg some (by kernel_rfl))⟩
  f22 := ⟨Tryd.f68.name, by decide, Tryd.func68.trans (congrArg some (by kernel_rfl))⟩
  f23 := ⟨Tryd.f69.name, by decide, Tryd.func69.trans (congrArg some (by kernel_rfl))⟩
  f24 := ⟨Tryd.f70.name, by decide, Tryd.func70.trans (congrArg some (by kernel_rfl))⟩
  f25 := ⟨Tryd.f71.name, by decide, Tryd.func71.trans (congrArg some (by kernel_rfl))⟩
  f26 := ⟨Tryd.f72.name, by decide, Tryd.func72.trans (congrArg some (by kernel_rfl))⟩
  f27 := ⟨Tryd.f73.name, by decide, Tryd.func73.trans (congrArg some (by kernel_rfl))⟩
  f28 := Tryd.func74.trans (congrArg some (by kernel_rfl))
  f29 := Tryd.func75.trans (congrArg some (by kernel_rfl))
  f46 := ⟨Tryd.f89.name, by decide, Tryd.func89.trans (congrArg some (by kernel_rfl))⟩
  f47 := Tryd.func90.trans (congrArg some (by kernel_rfl))
  f48 := Tryd.func91.trans (congrArg some (by kernel_rfl))
  f49 := ⟨Tryd.f92.name, by decide, Tryd.func92.trans (congrArg some (by kernel_rfl))⟩
  f50 := ⟨Tryd.f93.name, by decide, Tryd.func93.trans (congrArg some (by kernel_rfl))⟩
  f57 := ⟨Tryd.f100.name, by decide, Tryd.func100.trans (congrArg some (by kernel_rfl))⟩
  t0 := Tryd.underlying0
  a0 := Tryd.isAgg0
  z0 := Tryd.sizeOf0
  v0 := Tryd.zeroValue0
  t3 := Tryd.underlying3
  a3 := Tryd.isAgg3
  z3 := Tryd.sizeOf3
  v3 := Tryd.zeroValue3
  t4 := Tryd.underlying4
  a4 := Tryd.isAgg4
  z4 := Tryd.sizeOf4
  v4 := Tryd.zeroValue4
  t5 := Tryd.underlying5
  a5 := Tryd.isAgg5
  z5 := Tryd.sizeOf5
  v5 := Tryd.zeroValue5
  t9 := Tryd.underlying9
  a9 := Tryd.isAgg9
  z9 := Tryd.sizeOf9
  v9 := Tryd.zeroValue9
  t22 := Tryd.underlying37
  a22 := Tryd.isAgg37
  z22 := Tryd.sizeOf37
  v22 := Tryd.zeroValue37
  t25 := Tryd.underlying49
  a25 := Tryd.isAgg49
  z25 := Tryd.sizeOf49
  v25 := Tryd.zeroValue49
  t39 := Tryd.underlying77
  a39 := Tryd.isAgg77
  z39 := Tryd.sizeOf77
  v39 := Tryd.zeroValue77
  t45 := Tryd.underlying85
  a45 := Tryd.isAgg85
  z45 := Tryd.sizeOf85
  v45 := Tryd.zeroValue85
  t46 := Tryd.underlying86
  a46 := Tryd.isAgg86
  z46 := Tryd.sizeOf86
  v46 := Tryd.zeroValue86
  t50 := Tryd.underlying73
  a50 := Tryd.isAgg73
  z50 := Tryd.sizeOf73
  v50 := Tryd.zeroValue73
  t53 := Tryd.underlying92
  a53 := Tryd.isAgg92
  z53 := Tryd.sizeOf92
  v53 := Tryd.zeroValue92
  t55 := Tryd.underlying94
  a55 := Tryd.isAgg94
  z55 := Tryd.sizeOf94
  v55 := Tryd.zeroValue94
  t66 := Tryd.underlying102
  a66 := Tryd.isAgg102
  z66 := Tryd.sizeOf102
  v66 := Tryd.zeroValue102
  t70 := Tryd.underlying106
  a70 := Tryd.isAgg106
  z70 := Tryd.sizeOf106
  v70 := Tryd.zeroValue106
  t76 := Tryd.underlying114
  a76 := Tryd.isAgg114
  z76 := Tryd.sizeOf114
  v76 := Tryd.zeroValue114
  t77 := Tryd.underlying115
  a77 := Tryd.isAgg115
  z77 := Tryd.sizeOf115
  v77 := Tryd.zeroValue115 }
end Go.Proofs
end

section
namespace Go.Proofs.YtnknjhdpjjddeaaDoor.Q
open Go.Proofs.YtnknjhdpjjddeaaDoor.QB.D
open Go Go.RowKit Go.Maps Go.Lib Go.Sort Go.Proofs.YtnknjhdpjjddeaaDoorW.PrintWords Go.Proofs.YtnknjhdpjjddeaaDoorW.PrintLast Go.Proofs.YtnknjhdpjjddeaaDoorW.PrintMore Gw
set_option linter.unusedVariables false
set_option linter.unusedSimpArgs false
abbrev GoodN (x : S23) : Prop := Tiny x.f0 ∧ Tiny x.f1 ∧ isVersion (bs x.f1) = true
abbrev GN := { x : S23 // GoodN x }
instance : Inhabited GN := ⟨⟨⟨⟨#[]⟩, ⟨#[118, 48, 46, 48, 46, 48]⟩⟩, by unfold Tiny; decide, by unfold Tiny; decide, by decide +kernel⟩⟩
def np (x : S23) : NP := (bs x.f0, bs x.f1)
theorem np_inj {x y : S23} (h : np x = np y) : x = y := by
  cases x; cases y
  simp only [np, Prod.mk.injEq] at h
  rw [bs_inj h.1, bs_inj h.2]
def ordN (x y : S23) : Int := nodC (np x) (np y)
theorem ordN_to : TO GoodN ordN := by
  have h := nodC_to
  refine ⟨fun a b => h.tri _ _, fun a b ha hb => h.sym _ _ ha.2.2 hb.2.2, fun a b ha hb => ?_, fun a b d ha hb hd => h.tr _ _ _ ha.2.2 hb.2.2 hd.2.2⟩
  show nodC _ _ = 0 ↔ _
  rw [h.eq _ _ ha.2.2 hb.2.2]
  exact ⟨np_inj, fun e => by rw [e]⟩
def encN (x : GN) : List Value := [.string x.1.f0, .string x.1.f1]
def cfN (x y : GN) : Int := ordN x.1 y.1
theorem ltN (x y : GN) : ltOf cfN x y = decide (cfN x y < 0) := rfl
theorem swoN : SWO (ltOf cfN) where
  irrefl x := by
    rw [ltN, decide_eq_false_iff_not]
    have := (ordN_to.eq x.1 x.1 x.2 x.2).2 rfl
    unfold cfN; omega
  trans x y z h1 h2 := by
    rw [ltN, decide_eq_true_eq] at *
    exact ordN_to.tr _ _ _ x.2 y.2 z.2 h1 h2
  ntrans x y z h1 h2 := by
    rw [ltN, decide_eq_false_iff_not] at *
    have s1 := ordN_to.sym x.1 y.1 x.2 y.2
    have s2 := ordN_to.sym y.1 z.1 y.2 z.2
    have s3 := ordN_to.sym x.1 z.1 x.2 z.2
    unfold cfN at *
    have := (ordN_to.le z.1 y.1 x.1 z.2 y.2 x.2 (by omega) (by omega)).1
    omega
theorem totN (x y : GN) (h1 : ltOf cfN x y = false) (h2 : ltOf cfN y x = false) : x = y := by
  rw [ltN, decide_eq_false_iff_not] at *
  have s1 := ordN_to.sym x.1 y.1 x.2 y.2
  unfold cfN at *
  exact Subtype.ext ((ordN_to.eq x.1 y.1 x.2 y.2).1 (by omega))
theorem vparts_of {s : ByteArray} (h : isVersion (bs s) = true) : vparts (bs s) = some (vOf (bs s)) := by
  rw [← vparts_some] at h
  obtain ⟨v, hv⟩ := Option.isSome_iff_exists.1 h
  unfold vOf
  rw [hv]
  rfl
theorem orderD_val (x y : S23) (hx : GoodN x) (hy : GoodN y) : QB.D.node_order.f 9 x.f0 x.f1 y.f0 y.f1 = some (ordN x y) := by
  unfold QB.D.node_order.f
  by_cases h : (x.f0.toList == y.f0.toList && x.f1.toList == y.f1.toList) = true
  · rw [if_pos h]
    rw [str_eq, str_eq, Bool.and_eq_true, decide_eq_true_eq, decide_eq_true_eq] at h
    have e : x = y := by cases x; cases y; simp only at h; rw [h.1, h.2]
    subst e
    exact congrArg some ((ordN_to.eq x x hx hx).2 rfl).symm
  · rw [if_neg h]
    have hv : QB.D.version_Cmp.f x.f1 y.f1 = some (verC (vOf (bs x.f1)) (vOf (bs y.f1)), 0) := by
      unfold QB.D.version_Cmp.f
      rw [if_pos ⟨hx.2.1, hy.2.1⟩, vparts_of hx.2.2, vparts_of hy.2.2]
      rfl
    rw [hv, QB.D.octcmp_val]
    simp only [Option.bind_some]
    rw [QB.D.or2_val]
    rfl
theorem cmpLaysN (blk off size : Nat) (w : World) : CmpLays Tryd.prog 26 #[] encN 2 cfN blk off size w := fun _ _ _ _ x y =>
  (QB.D.node_order.calls 9 x.1.f0 x.1.f1 y.1.f0 y.1.f1 _ _ (orderD_val x.1 y.1 x.2 y.2)).mono fun e w' h => ⟨h.1, h.2.grows⟩
theorem isAggN (w : World) : (isAgg 23).run Tryd.prog w = .ok true w := by kernel_rfl
theorem sizeN (w : World) : (Go.sizeOf 23).run Tryd.prog w = .ok 2 w := by kernel_rfl
def cellsN (xs : List S23) : List Value := xs.flatMap (fun x => [Value.string x.f0, Value.string x.f1])
theorem cellsN_get : ∀ (xs : List S23) (j : Nat), (cellsN xs)[j]? = (xs[j / 2]?).map (fun x => if j % 2 = 0 then Value.string x.f0 else Value.string x.f1) := by
  intro xs
  induction xs with
  | nil => intro j; simp [cellsN]
  | cons x xs ih =>
    intro j
    match j with
    | 0 => simp [cellsN]
    | 1 => simp [cellsN]
    | j + 2 =>
      show ([Value.string x.f0, Value.string x.f1] ++ cellsN xs)[j + 2]? = _
      rw [List.getElem?_append_right (by simp)]
      simp only [List.length_cons, List.length_nil, Nat.zero_add, Nat.add_sub_cancel, Nat.reduceAdd]
      rw [ih j, show (j + 2) / 2 = j / 2 + 1 by omega, show (j + 2) % 2 = j % 2 by omega, List.getElem?_cons_succ]
theorem cellsN_len : ∀ xs, (cellsN xs).length = xs.length * 2
  | [] => rfl
  | x :: xs => by
    show ([Value.string x.f0, Value.string x.f1] ++ cellsN xs).length = _
    rw [List.length_append, cellsN_len xs]; simp; omega
theorem reps_node {w : World} {base : Nat} {ok : Nat → Prop} {xs : List S23} {inner : List Value} (h : Reps (k23.M w base ok) k23.sz xs inner) : inner = cellsN xs := by
  obtain ⟨hl, hp⟩ := h
  have hl2 : inner.length = xs.length * 2 := hl
  apply List.ext_getElem?
  intro j
  rw [cellsN_get]
  by_cases hj : j < xs.length * 2
  · have h2 : j / 2 < xs.length := by omega
    have hm := hp (j / 2) _ (List.getElem?_eq_getElem h2)
    have ho := k23_openM hm
    rw [List.getElem?_eq_getElem h2, Option.map_some]
    have h3 : inner[j]? = ((inner.drop (j / 2 * 2)).take 2)[j % 2]? := by
      rw [List.getElem?_take_of_lt (by omega), List.getElem?_drop, show j / 2 * 2 + j % 2 = j by omega]
    rw [h3]
    have ho' : (inner.drop (j / 2 * 2)).take 2 = [.string xs[j / 2].f0, .string xs[j / 2].f1] := ho
    rw [ho']
    rcases Nat.mod_two_eq_zero_or_one j with e | e <;> rw [e] <;> rfl
  · rw [List.getElem?_eq_none (by omega), List.getElem?_eq_none (by omega)]
    rfl
theorem node_reps (w : World) (base : Nat) (ok : Nat → Prop) (xs : List S23) : Reps (k23.M w base ok) k23.sz xs (cellsN xs) := by
  refine ⟨cellsN_len xs, fun j p hj => ?_⟩
  obtain ⟨hjl, rfl⟩ := List.getElem?_eq_some_iff.1 hj
  have e : ((cellsN xs).drop (j * 2)).take 2 = [.string xs[j].f0, .string xs[j].f1] := by
    apply List.ext_getElem?
    intro t
    rcases Nat.lt_or_ge t 2 with h | h
    · rw [List.getElem?_take_of_lt h, List.getElem?_drop, cellsN_get, show (j * 2 + t) / 2 = j by omega, List.getElem?_eq_getElem hjl, Option.map_some]
      match t, h with
      | 0, _ => rw [if_pos (by omega)]; rfl
      | 1, _ => rw [if_neg (by omega)]; rfl
    · rw [List.getElem?_eq_none (by rw [List.length_take]; omega), List.getElem?_eq_none (by simp; omega)]
  show k23.M w base ok xs[j] (((cellsN xs).drop (j * 2)).take 2)
  rw [e]
  exact k23_mkM _ _ _ _
theorem flat_cells (G : List GN) (j : Nat) (hj : j < G.length * 2) : some (flatK encN 2 G.toArray)[j]! = (cellsN (G.map Subtype.val))[j]? := by
  have h2 : j / 2 < G.length := by omega
  rw [get_flatK _ _ _ _ (by simpa using hj), cellsN_get, List.getElem?_map, List.getElem?_eq_getElem h2, Option.map_some, Option.map_some]
  have : G.toArray[j / 2]! = G[j / 2] := by simp [h2]
  rw [this]
  rcases Nat.mod_two_eq_zero_or_one j with e | e <;> rw [e] <;> rfl
theorem sortW_block (enc : GN → List Value) (w : World) (g m : Nat) (d : Array GN) (os : Array Obj) (cur : Array Value) (e : TypeId) (hg : w.heap[g]? = some (.cells cur e (0, 0))) :
    (sortWorldK enc 2 w g 0 m d os).heap[g]? = some (.cells (putCells id 0 (flatK enc 2 d) cur) e (0, 0)) := by
  have hlt : g < w.heap.size := by
    rcases Nat.lt_or_ge g w.heap.size with h | h
    · exact h
    · rw [Array.getElem?_eq_none h] at hg; cases hg
  unfold sortWorldK grow putRowK putRow mapBlock Sort.ahead
  simp only []
  rw [Array.getElem?_append_left (by simpa using hlt), Array.getElem?_modify, if_pos rfl, hg]
  rfl
theorem sortW_below (enc : GN → List Value) (w : World) (g m : Nat) (d : Array GN) (os : Array Obj) (b : Nat) (hb : b ≤ g) (hg : g < w.heap.size) : Below b w (sortWorldK enc 2 w g 0 m d os) := by
  unfold sortWorldK grow putRowK putRow mapBlock Sort.ahead
  refine ⟨rfl, rfl, rfl, by simp, fun k hk => ?_⟩
  simp only []
  rw [Array.getElem?_append_left (by simp; omega), Array.getElem?_modify, if_neg (by omega)]
theorem take_put (cur : Array Value) (F : Array Value) (h : F.size ≤ cur.size) : (putCells id 0 F cur).toList.take F.size = F.toList := by
  apply List.ext_getElem?
  intro j
  rcases Nat.lt_or_ge j F.size with hj | hj
  · rw [List.getElem?_take_of_lt hj, Array.getElem?_toList, Array.getElem?_toList]
    simp only [putCells, Array.getElem?_mapIdx]
    rw [Array.getElem?_eq_getElem (show j < cur.size by omega), Option.map_some, if_pos (by omega), Array.getElem?_eq_getElem hj]
    simp [hj]
  · rw [List.getElem?_eq_none (by simp; omega), List.getElem?_eq_none (by simpa using hj)]
theorem enc_len (x : GN) : (encN x).length = 2 := rfl
theorem enc_one (x : GN) : ∀ v ∈ encN x, v.oneCell' = true := fun v hv => by simp [encN] at hv; rcases hv with rfl | rfl <;> rfl
theorem sort_calls (L S : List S23) (hL : ∀ x ∈ L, GoodN x) (hn : L.length ≤ 4294967296) (hS : S.Perm L) (hS2 : S.Pairwise (fun x y => ordN x y ≤ 0)) (W : World) (base b0 : Nat) (ok ok' : Nat → Prop) (v : Value) (hR : Kd.R k23 23 W base ok v L) (hok' : ∀ k, ok k → ok' k) (hb0 : b0 ≤ base) :
    Calls Tryd.prog 36 #[v, .func (.func 26) #[] #[]] W fun e w' => e = .returned (.tuple #[]) ∧ Kd.R k23 23 w' base ok' v S ∧ Below b0 W w' := by
  obtain ⟨hok, inner, ho, hr⟩ := hR
  obtain rfl := reps_node hr
  obtain ⟨_, ⟨rfl, hz⟩ | ⟨g, cap, cur, rfl, hg, hcell, hc1, hc2, hc3, hc4⟩⟩ := ho
  · have hL0 : L = [] := List.length_eq_zero_iff.1 hz
    subst hL0
    have hS0 : S = [] := List.Perm.eq_nil hS
    subst hS0
    refine (AnyF.slices_SortFunc_none Tryd.sortNode none 0 (.func (.func 26) #[] #[]) W).mono ?_
    rintro e w' ⟨rfl, rfl⟩
    exact ⟨rfl, Kd.R_nil _ _ _ _ _, Below.refl _ _⟩
  · obtain ⟨G, rfl⟩ : ∃ G : List GN, G.map Subtype.val = L := ⟨L.attach.map (fun x => ⟨x.1, hL x.1 x.2⟩), by simp [List.map_map, Function.comp_def, List.attach_map_subtype_val]⟩
    have hgl : g < W.heap.size := by
      rcases Nat.lt_or_ge g W.heap.size with h | h
      · exact h
      · rw [Array.getElem?_eq_none h] at hcell; cases hcell
    rw [List.length_map] at *
    have hsz2 : (cellsN (G.map Subtype.val)).length = G.length * 2 := by rw [cellsN_len, List.length_map]
    have hH : HoldsK encN 2 W g 0 G.toArray := by
      intro j hj
      have hj' : j < G.length * 2 := by simpa using hj
      refine ⟨?_, blk_frozen hcell _⟩
      rw [blk_cell hcell, Nat.zero_add]
      show cur[j]? = some (flatK encN 2 G.toArray)[j]!
      rw [flat_cells G j hj', ← hc4]
      rw [show k23.sz = 2 from rfl, List.getElem?_take_of_lt hj', Array.getElem?_toList]
    have eg : ∀ args w, (callFunc 26 args).run Tryd.prog w = .ok (.enter 26 args) w := enters_of Tryd.func26 (by kernel_rfl) rfl
    have hcon := AnyQ.slices_SortFunc_total Tryd.sortNode 2 isAggN sizeN encN enc_len enc_one cfN swoN 26 #[] g 0 cap G.toArray W eg (cmpLaysN _ _ _ _) hH hgl (by simp; omega) totN
    refine Calls.mono hcon ?_
    rintro e w' ⟨rfl, n, os, rfl⟩
    refine ⟨rfl, ?_, sortW_below _ _ _ _ _ _ _ (by omega) hgl⟩
    have hM1 : (G.mergeSort fun x y => !(ltOf cfN) y x).Perm G := List.mergeSort_perm _ _
    have hM2 : (G.mergeSort fun x y => !(ltOf cfN) y x).Pairwise (fun x y => (!(ltOf cfN) y x) = true) := by
      refine List.pairwise_mergeSort (le := fun x y => !(ltOf cfN) y x) (fun a b c h1 h2 => ?_) (fun a b => ?_) G
      · simp only [Bool.not_eq_true'] at *
        exact swoN.ntrans _ _ _ h2 h1
      · simp only [ltN]
        have := ordN_to.sym a.1 b.1 a.2 b.2
        unfold cfN
        by_cases h : ordN b.1 a.1 < 0
        · rw [decide_eq_true h, decide_eq_false (by omega)]; rfl
        · rw [decide_eq_false h]; rfl
    have hSM : S = (G.mergeSort fun x y => !(ltOf cfN) y x).map Subtype.val := by
      refine List.Perm.eq_of_pairwise (le := fun x y => ordN x y ≤ 0) ?_ hS2 ?_ (hS.trans (hM1.map _).symm)
      · intro a b ha hb h1 h2
        have ga := hL a (hS.mem_iff.1 ha)
        have gb : GoodN b := by obtain ⟨y, _, rfl⟩ := List.mem_map.1 hb; exact y.2
        have := ordN_to.sym a b ga gb
        exact (ordN_to.eq a b ga gb).1 (by omega)
      · refine List.pairwise_map.2 (hM2.imp ?_)
        intro x y h
        simp only [Bool.not_eq_true', ltN, decide_eq_false_iff_not] at h
        have := ordN_to.sym x.1 y.1 x.2 y.2
        unfold cfN at h
        omega
    have hlM := hM1.length_eq
    generalize hMM : (G.mergeSort fun x y => !(ltOf cfN) y x) = M at hSM hlM
    have hfs : (flatK encN 2 M.toArray).size = G.length * 2 := by simp [hlM]
    have hSl : S.length = G.length := by rw [hSM, List.length_map, hlM]
    refine ⟨fun k hk => hok' k (hok k hk), cellsN S, ?_, ?_⟩
    · refine ⟨by rw [cellsN_len]; rfl, Or.inr ⟨g, cap, putCells id 0 (flatK encN 2 M.toArray) cur, by rw [hSl], hg, sortW_block _ _ _ _ _ _ _ _ hcell, by rw [hSl]; exact hc1, hc2, by simp [putCells]; exact hc3, ?_⟩⟩
      rw [show S.length * k23.sz = (flatK encN 2 M.toArray).size by rw [hfs, hSl]; rfl, take_put _ _ (by rw [hfs, hc3]; exact Nat.mul_le_mul_right _ hc1)]
      apply List.ext_getElem?
      intro j
      by_cases hj : j < G.length * 2
      · rw [hSM, ← flat_cells M j (by omega), Array.getElem?_toList, Array.getElem?_eq_getElem (by omega)]
        simp [hfs, hj]
      · rw [List.getElem?_eq_none (by simp; omega), List.getElem?_eq_none (by rw [cellsN_len]; omega)]
    · exact node_reps _ _ _ _
end Go.Proofs.YtnknjhdpjjddeaaDoor.Q
end

section
namespace Go.Proofs.YtnknjhdpjjddeaaDoor.Q
open Go.Proofs.YtnknjhdpjjddeaaDoor.QB.D
open Go Go.RowKit Go.Lib Go.Proofs.YtnknjhdpjjddeaaDoorW.PrintWords Go.Proofs.YtnknjhdpjjddeaaDoorW.PrintLast Go.Proofs.YtnknjhdpjjddeaaDoorW.PrintMore Gw
set_option linter.unusedVariables false
set_option linter.unusedSimpArgs false
theorem C_cells {w : World} {A : Option Addr} {xs : List S23} (h : Kd.C k23 w A xs.length xs) : ∀ b, A = some b → ∀ j u, (cellsN xs)[j]? = some u → w.cell? (b.add j) = some u := by
  intro b hb j u hu
  rw [cellsN_get] at hu
  obtain ⟨x, hx, rfl⟩ := Option.map_eq_some_iff.1 hu
  obtain ⟨hl, hxx⟩ := List.getElem?_eq_some_iff.1 hx
  obtain ⟨ad, e, hc⟩ := h.2.2 (by omega)
  rw [hb] at e
  injection e with e
  subst e
  obtain ⟨c, hcl, hk, hcell⟩ := hc (j / 2) x hx
  have ho := k23_open hk
  subst ho
  have hs : k23.sz = 2 := rfl
  rw [hs] at hcell
  rcases Nat.mod_two_eq_zero_or_one j with e | e
  · rw [if_pos e]
    have := hcell 0 _ rfl
    rwa [show j / 2 * 2 + 0 = j by omega] at this
  · rw [if_neg (by omega)]
    have := hcell 1 _ rfl
    rwa [show j / 2 * 2 + 1 = j by omega] at this
theorem R_of_cells {w : World} {base : Nat} {ok : Nat → Prop} {v : Value} {xs : List S23} (ho : w.ownsRow base 23 2 v xs.length (cellsN xs)) (hok : ∀ k, v.ownBlock = some k → ok k) : Kd.R k23 23 w base ok v xs := ⟨hok, cellsN xs, ho, node_reps _ _ _ _⟩
theorem cellsN_snoc (xs : List S23) (x : S23) : cellsN xs ++ [.string x.f0, .string x.f1] = cellsN (xs ++ [x]) := by unfold cellsN; rw [List.flatMap_append]; rfl
set_option maxHeartbeats 4000000 in
set_option maxRecDepth 100000 in
theorem clone_calls (A0 : Option Addr) (c0 : Nat) (l0 : List S23) (w : World) (hr0 : Kd.C k23 w A0 l0.length l0) (hl0 : l0.length ≤ 4294967296) :
    Calls Tryd.prog 35 #[.slice A0 l0.length c0] w fun e w' => ∃ v, e = .returned v ∧ Kd.R k23 23 w' w.heap.size (fun _ => True) v l0 ∧ Below w.heap.size w w' := by
  have HR0 := Aside0.mk hr0
  clear hr0
  cases A0 with
  | none =>
    have hn : l0 = [] := by
      cases l0 with
      | nil => rfl
      | cons x r => obtain ⟨ad, e, _⟩ := at_T23 HR0.out 0 (by omega) (by simp); cases e
    subst hn
    have hq := fun w => Go.Lib.run_eql_slice_nil (P := Tryd.prog) w 37 23 none 0 c0 0 0 Tryd.underlying37
    simp only [Option.isNone_none] at hq
    simp only [List.length_nil]
    go_enter Tryd.func35, Tryd.ntmps35
    go_wp2
    go_ret
    exact ⟨_, rfl, Kd.R_nil _ _ _ _ _, Below.refl _ _⟩
  | some ad =>
    have hq := fun w => Go.Lib.run_eql_slice_nil (P := Tryd.prog) w 37 23 (some ad) l0.length c0 0 0 Tryd.underlying37
    simp only [Option.isNone_some] at hq
    go_enter Tryd.func35, Tryd.ntmps35
    go_wp2_with (first
      | ((with_reducible refine gate_dst (N := 5) rfl ?_); refine Kd.R_lit k23 _ 23 ?hg (N := 5) ?hd (xs := ([] : List S23)) (inner := []) (ok := fun _ => True) (okp := fun _ => True) ?hr ?hp (fun _ hk => hk) trivial (Below.refl _ _) (Nat.le_refl _) (by simp) ?_; (case hd => rfl); (case hg => rfl); (case hr => first | (go_simp; done) | (go_simp; rfl)); (case hp => exact Reps.none _ _); intro v5 w5 ho5 hb5 hg_ hnew_; clear hg_ hnew_; have HO5 := Aside0.mk ho5; have HB5 := Aside0.mk hb5; clear ho5 hb5)
      | ((with_reducible refine gate_builtin (b := .append) (xs := #[.tmp 5, .tmp 6]) rfl ?_); at_builtin; refine Kd.R_append_rows k23 (w0 := w) w.heap.size rfl (.tmp 5) (.tmp 6) 37 23 (.agg #[(.string ⟨#[]⟩), (.string ⟨#[]⟩)]) 32 rfl Tryd.underlying37 info23 rfl (by decide) (by omega) v5 [] l0 _ _ _ (fun _ => True) (fun _ => False) rfl rfl ?aO ?aR (fun _ _ h => h) (fun _ h => h.elim) ?aF ?aB ?aS ?aL ?_; (case aR => exact Kd.C_below HR0.out HB5.out); (case aB => exact HB5.out); (case aF => exact (fun _ _ => trivial)); (case aO => exact HO5.out); (case aS => exact HB5.out.size); (case aL => simp; omega); intro v7 w7 ho7 hb7 hg7 hat7; have HO7 := Aside0.mk ho7; have HB7 := Aside0.mk hb7; clear ho7 hb7 hg7 hat7)
      | fail)
    go_ret
    exact ⟨_, rfl, HO7.out, HB7.out⟩
end Go.Proofs.YtnknjhdpjjddeaaDoor.Q
end

section
namespace Go.Proofs.YtnknjhdpjjddeaaDoor.Q
open Go.Proofs.YtnknjhdpjjddeaaDoor.QB.D
open Go Go.RowKit Go.Maps Go.Lib Go.Proofs.YtnknjhdpjjddeaaDoorW.PrintWords Go.Proofs.YtnknjhdpjjddeaaDoorW.PrintLast Go.Proofs.YtnknjhdpjjddeaaDoorW.PrintMore Gw
set_option linter.unusedVariables false
set_option linter.unusedSimpArgs false
theorem elements_from (s : ByteArray) (hs : Tiny s) : ∀ (k i : Nat), ((parts 47 (bs s)).map ofB).length ≤ i + k → i ≤ ((parts 47 (bs s)).map ofB).length →
    path_Elements.l0 (k + 1) ((parts 47 (bs s)).map ofB) ((parts 47 (bs s)).map ofB) (((parts 47 (bs s)).map ofB).length : Int) (i : Int) = some (if ((parts 47 (bs s)).drop i).all isElem then ((parts 47 (bs s)).map ofB, 0) else ([], 1)) := by
  have hsm : Small s := by unfold Tiny at hs; unfold Small; omega
  obtain ⟨hl, hx⟩ := parts_small hsm 47
  have hlen : ((parts 47 (bs s)).map ofB).length = (parts 47 (bs s)).length := List.length_map _
  have hall : ∀ (i : Nat) (hi : i < (parts 47 (bs s)).length), path_element.f (((parts 47 (bs s)).map ofB)[i]'(by rw [hlen]; exact hi)) = some (isElem (parts 47 (bs s))[i]) := by
    intro i hi
    have h2 := hx (((parts 47 (bs s)).map ofB)[i]'(by rw [hlen]; exact hi)) (List.getElem_mem _)
    unfold path_element.f
    rw [if_pos (by unfold Tiny at *; omega), List.getElem_map, bs_ofB (parts_oct (bs_oct s) _ (List.getElem_mem hi))]
  intro k
  induction k with
  | zero =>
    intro i h1 h2
    have e : i = (parts 47 (bs s)).length := by omega
    subst e
    unfold path_Elements.l0
    rw [if_neg (by omega), List.drop_length]
    rfl
  | succ k ih =>
    intro i h1 h2
    unfold path_Elements.l0
    by_cases hi : i < (parts 47 (bs s)).length
    · rw [if_pos (by omega), if_pos (by omega), if_pos (by omega)]
      have hr : rdOf ByteArray.empty ((parts 47 (bs s)).map ofB) (i : Int) = ((parts 47 (bs s)).map ofB)[i]'(by rw [hlen]; exact hi) := by
        simp [rdOf, List.getD_eq_getElem?_getD, List.getElem?_eq_getElem hi]
      rw [hr, hall i hi, List.drop_eq_getElem_cons hi, List.all_cons, Option.bind_some]
      cases he : isElem (parts 47 (bs s))[i]
      · rfl
      · rw [if_pos rfl, Bool.true_and, show wrap64 ((i : Int) + 1) = ((i + 1 : Nat) : Int) by unfold wrap64; unfold Tiny at hs; omega]
        exact ih (i + 1) (by omega) (by omega)
    · have e : i = (parts 47 (bs s)).length := by omega
      rw [if_neg (by omega), List.drop_eq_nil_of_le (by omega)]
      rfl
theorem path_May_val (k : Nat) (s : ByteArray) (hs : Tiny s) (hk : s.size + 2 ≤ k) : path_May.f k s = some (isPath (bs s)) := by
  obtain ⟨j, rfl⟩ : ∃ j, k = j + 1 := ⟨k - 1, by omega⟩
  have hl := parts_len s 47
  unfold path_May.f path_Elements.f octet_Parts.f
  rw [if_pos ⟨hs, by decide, by decide⟩, Option.bind_some]
  have h := elements_from s hs j 0 (by omega) (Nat.zero_le _)
  rw [show (47 : Int).toNat = 47 from rfl, show ((0 : Nat) : Int) = 0 from rfl] at *
  rw [h, Option.bind_some, List.drop_zero]
  unfold isPath
  cases (parts 47 (bs s)).all isElem <;> rfl
theorem version_May_val (s : ByteArray) (hs : Tiny s) : version_May.f s = some (isVersion (bs s)) := by
  unfold version_May.f version_Split.f
  rw [if_pos hs, Option.bind_some, ← vparts_some]
  cases vparts (bs s) <;> rfl
abbrev TinyN (x : S23) : Prop := Tiny x.f0 ∧ Tiny x.f1
def mayN (x : S23) : Bool := isNode (np x)
theorem node_May_val (k : Nat) (x : S23) (hx : TinyN x) (hk : x.f0.size + 2 ≤ k) : node_May.f k x.f0 x.f1 = some (mayN x) := by
  unfold node_May.f
  rw [path_May_val k _ hx.1 hk, version_May_val _ hx.2]
  show _ = some (isPath (bs x.f0) && isVersion (bs x.f1))
  cases isPath (bs x.f0) <;> rfl
theorem mayN_good {x : S23} (hx : TinyN x) (hm : mayN x = true) : GoodN x := by
  unfold mayN isNode np at hm
  rw [Bool.and_eq_true] at hm
  exact ⟨hx.1, hx.2, hm.2⟩
def insN (x : S23) : List S23 → List S23
  | [] => [x]
  | y :: r => if ordN x y ≤ 0 then x :: y :: r else y :: insN x r
def sortN (l : List S23) : List S23 := l.foldr insN []
theorem insN_perm (x : S23) : ∀ l, (insN x l).Perm (x :: l)
  | [] => List.Perm.refl _
  | y :: r => by
    unfold insN
    split
    · exact List.Perm.refl _
    · exact ((insN_perm x r).cons y).trans (List.Perm.swap x y r)
theorem sortN_perm : ∀ l, (sortN l).Perm l
  | [] => List.Perm.refl _
  | x :: l => (insN_perm x _).trans ((sortN_perm l).cons x)
theorem insN_sorted (x : S23) (hx : GoodN x) : ∀ l, (∀ y ∈ l, GoodN y) → l.Pairwise (fun x y => ordN x y ≤ 0) → (insN x l).Pairwise (fun x y => ordN x y ≤ 0)
  | [], _, _ => List.pairwise_singleton _ _
  | y :: r, hg, hp => by
    have gy := hg y List.mem_cons_self
    rw [List.pairwise_cons] at hp
    unfold insN
    split
    · rename_i h
      refine List.pairwise_cons.2 ⟨fun z hz => ?_, List.pairwise_cons.2 hp⟩
      rcases List.mem_cons.1 hz with rfl | hz
      · exact h
      · exact (ordN_to.le x y z hx gy (hg z (List.mem_cons_of_mem _ hz)) h (hp.1 z hz)).1
    · rename_i h
      refine List.pairwise_cons.2 ⟨fun z hz => ?_, insN_sorted x hx r (fun z hz => hg z (List.mem_cons_of_mem _ hz)) hp.2⟩
      rcases List.mem_cons.1 ((insN_perm x r).mem_iff.1 hz) with rfl | hz
      · have := ordN_to.sym z y hx gy
        omega
      · exact hp.1 z hz
theorem sortN_sorted : ∀ l, (∀ y ∈ l, GoodN y) → (sortN l).Pairwise (fun x y => ordN x y ≤ 0)
  | [], _ => List.Pairwise.nil
  | x :: l, hg => insN_sorted x (hg x List.mem_cons_self) _ (fun y hy => hg y (List.mem_cons_of_mem _ ((sortN_perm l).mem_iff.1 hy))) (sortN_sorted l (fun y hy => hg y (List.mem_cons_of_mem _ hy)))
def setN (l : List S23) : List S23 := sortN (ded l)
def node_Set.f (l : List S23) : Option (List S23 × Int) := if l.length ≤ 4294967296 ∧ (∀ x ∈ l, TinyN x) then some (if l.all mayN then (setN l, 0) else ([], 1)) else none
theorem node_Set.calls (A0 : Option Addr) (c0 : Nat) (l0 : List S23) (r1 : List S23) (r2 : Int) (w : World) (hr0 : Kd.C k23 w A0 l0.length l0) (hc0 : l0.length ≤ c0) (h : node_Set.f l0 = some (r1, r2)) :
    Calls Tryd.prog 22 #[.slice A0 l0.length c0] w fun e w' => ∃ v, e = .returned (.tuple #[v, .int .i64 r2]) ∧ Kd.R k23 23 w' w.heap.size (fun _ => True) v r1 ∧ Below w.heap.size w w' := by
  unfold node_Set.f at h
  by_cases hc : l0.length ≤ 4294967296 ∧ (∀ x ∈ l0, TinyN x)
  · rw [if_pos hc] at h
    obtain ⟨hl, ht⟩ := hc
    have hdm : ∀ x ∈ ded l0, x ∈ l0 := fun x hx => by
      have := (ded_mem l0 x l0.length (Nat.le_refl _)).1
      rw [List.take_length] at this
      exact this hx
    have hdl : (ded l0).length ≤ l0.length := by
      have := ded_len l0 l0.length (Nat.le_refl _)
      rwa [List.take_length] at this
    by_cases ha : l0.all mayN = true
    · rw [if_pos ha, Option.some.injEq, Prod.mk.injEq] at h
      obtain ⟨rfl, rfl⟩ := h
      have hg : ∀ x ∈ ded l0, GoodN x := fun x hx => mayN_good (ht x (hdm x hx)) (List.all_eq_true.1 ha x (hdm x hx))
      refine nset_go 8589934592 A0 c0 l0 w hr0 hl (fun x hx => ?_) mayN (fun x hx => node_May_val _ x (ht x hx) ?_) (setN l0) _ _ (fun _ => ⟨rfl, rfl⟩) (fun hf => absurd ha (by rw [hf]; decide)) (fun _ W v hW hR => ?_)
      · have := ht x hx; unfold TinyN Tiny at this; unfold NS maxLen; omega
      · have := ht x hx; unfold TinyN Tiny at this; omega
      · refine (sort_calls (ded l0) (setN l0) hg (by omega) (sortN_perm _) (sortN_sorted _ hg) W w.heap.size w.heap.size _ (fun _ => True) v hR (fun _ _ => trivial) (Nat.le_refl _)).mono ?_
        rintro e w' ⟨rfl, h1, h2⟩
        exact ⟨rfl, h1, hW.trans h2⟩
    · rw [if_neg ha, Option.some.injEq, Prod.mk.injEq] at h
      obtain ⟨rfl, rfl⟩ := h
      refine nset_go 8589934592 A0 c0 l0 w hr0 hl (fun x hx => ?_) mayN (fun x hx => node_May_val _ x (ht x hx) ?_) [] _ _ (fun hf => absurd hf ha) (fun _ => ⟨rfl, rfl⟩) (fun hf => absurd hf ha)
      · have := ht x hx; unfold TinyN Tiny at this; unfold NS maxLen; omega
      · have := ht x hx; unfold TinyN Tiny at this; omega
  · rw [if_neg hc] at h
    cases h
end Go.Proofs.YtnknjhdpjjddeaaDoor.Q
end

section
namespace Go.Proofs.YtnknjhdpjjddeaaDoor.Q
open Go.Proofs.YtnknjhdpjjddeaaDoor.QB.D
open Go Go.RowKit Go.Lib Go.Proofs.YtnknjhdpjjddeaaDoorW.PrintWords Go.Proofs.YtnknjhdpjjddeaaDoorW.PrintLast Go.Proofs.YtnknjhdpjjddeaaDoorW.PrintMore Gw
set_option linter.unusedVariables false
set_option linter.unusedSimpArgs false
def few (s : ByteArray) : ByteArray := if (s.size : Int) > 400 then s.extract 0 400 else s
theorem few_size (s : ByteArray) : (few s).size ≤ 400 := by
  unfold few
  split
  · rw [ByteArray.size_extract]; omega
  · omega
theorem Few_val (s : ByteArray) : graftwoodlaw01_Few.f s = some (few s) := by
  unfold graftwoodlaw01_Few.f few
  split
  · rw [if_pos (by omega), if_pos (by omega)]
  · rfl
theorem One_val (a b : ByteArray) : graftwoodlaw05_One.f a b = some (few a, few b) := by
  unfold graftwoodlaw05_One.f
  rw [Few_val, Few_val]
  rfl
/-- A node of texts of no more than 400 octets. -/
abbrev Brief (x : S23) : Prop := x.f0.size ≤ 400 ∧ x.f1.size ≤ 400
theorem Brief.tiny {x : S23} (h : Brief x) : TinyN x := by unfold TinyN Tiny; omega
def oneN (x : S23) : S23 := ⟨few x.f0, few x.f1⟩
theorem oneN_brief (x : S23) : Brief (oneN x) := ⟨few_size _, few_size _⟩
theorem rd_nat {l : List S23} {i : Nat} (hi : i < l.length) : rd_T23 l (i : Int) = l[i] := by simp [rd_T23, List.getD_eq_getElem?_getD, List.getElem?_eq_getElem hi]
theorem node_eqb (x y : S23) : (x.f0.toList == y.f0.toList && x.f1.toList == y.f1.toList) = decide (x = y) := by
  rw [str_eq, str_eq]
  by_cases h : x = y
  · subst h; simp
  · rw [decide_eq_false h]
    by_cases h0 : x.f0 = y.f0
    · have h1 : x.f1 ≠ y.f1 := fun h1 => h (by cases x; cases y; simp only at h0 h1; rw [h0, h1])
      simp [h0, h1]
    · simp [h0]
def fewN (l : List S23) : List S23 := (l.take 24).map oneN
theorem few_l0 (l : List S23) : ∀ (n i k : Nat), 24 ≤ i + n → i ≤ 24 → n + 1 ≤ k → graftwoodlaw05_Few.l0 k l ((l.take i).map oneN) (i : Int) = some (fewN l) := by
  intro n
  induction n with
  | zero =>
    intro i k h1 h2 hk
    obtain ⟨j, rfl⟩ : ∃ j, k = j + 1 := ⟨k - 1, by omega⟩
    have e : i = 24 := by omega
    subst e
    simp only [graftwoodlaw05_Few.l0]
    by_cases h : ((24 : Nat) : Int) < (l.length : Int)
    · rw [if_pos h, if_neg (by omega)]; rfl
    · rw [if_neg h]; rfl
  | succ n ih =>
    intro i k h1 h2 hk
    obtain ⟨j, rfl⟩ : ∃ j, k = j + 1 := ⟨k - 1, by omega⟩
    by_cases h : i < l.length
    · by_cases h24 : i < 24
      · simp only [graftwoodlaw05_Few.l0]
        have hx : (l.take i).map oneN ++ [(⟨few l[i].f0, few l[i].f1⟩ : S23)] = (l.take (i + 1)).map oneN := by
          rw [List.take_succ_eq_append_getElem h, List.map_append]; rfl
        rw [if_pos (by omega), if_pos (by omega), if_pos (by omega), rd_nat h, One_val]
        simp only [Option.bind_some]
        rw [if_pos (by rw [List.length_map, List.length_take]; omega), hx, show wrap64 ((i : Int) + 1) = ((i + 1 : Nat) : Int) by unfold wrap64; omega]
        exact ih (i + 1) j (by omega) (by omega) (by omega)
      · exact ih i (j + 1) (by omega) h2 (by omega)
    · simp only [graftwoodlaw05_Few.l0]
      rw [if_neg (by omega)]
      unfold fewN
      rw [List.take_of_length_le (by omega : l.length ≤ i), List.take_of_length_le (by omega : l.length ≤ 24)]
theorem fewN_val (l : List S23) (k : Nat) (hk : 30 ≤ k) : graftwoodlaw05_Few.f k l = some (fewN l) := few_l0 l 24 0 k (by omega) (by omega) (by omega)
theorem fewN_len (l : List S23) : (fewN l).length ≤ 24 := by unfold fewN; rw [List.length_map, List.length_take]; omega
theorem fewN_brief (l : List S23) : ∀ x ∈ fewN l, Brief x := fun x hx => by
  obtain ⟨y, _, rfl⟩ := List.mem_map.1 hx
  exact oneN_brief y
theorem has_l0 (l : List S23) (t : S23) (hl : l.length ≤ 4294967296) : ∀ (n i k : Nat), l.length ≤ i + n → i ≤ l.length → n + 1 ≤ k → graftwoodref05_Has.l0 k l (i : Int) t.f0 t.f1 = some (decide (t ∈ l.drop i)) := by
  intro n
  induction n with
  | zero =>
    intro i k h1 h2 hk
    obtain ⟨j, rfl⟩ : ∃ j, k = j + 1 := ⟨k - 1, by omega⟩
    have e : i = l.length := by omega
    subst e
    simp only [graftwoodref05_Has.l0]
    rw [if_neg (by omega), List.drop_length]
    rfl
  | succ n ih =>
    intro i k h1 h2 hk
    obtain ⟨j, rfl⟩ : ∃ j, k = j + 1 := ⟨k - 1, by omega⟩
    by_cases h : i < l.length
    · simp only [graftwoodref05_Has.l0]
      rw [if_pos (by omega), if_pos (by omega), rd_nat h, node_eqb, List.drop_eq_getElem_cons h]
      by_cases e : l[i] = t
      · rw [decide_eq_true e, if_pos rfl, decide_eq_true (by rw [e]; exact List.mem_cons_self)]
      · rw [decide_eq_false e, if_neg (by decide), show wrap64 ((i : Int) + 1) = ((i + 1 : Nat) : Int) by unfold wrap64; omega, ih (i + 1) j (by omega) (by omega) (by omega)]
        exact congrArg some (decide_eq_decide.2 ⟨fun h => List.mem_cons_of_mem _ h, fun h => (List.mem_cons.1 h).resolve_left (fun e2 => e e2.symm)⟩)
    · exact ih i (j + 1) (by omega) h2 (by omega)
theorem has_val (l : List S23) (t : S23) (hl : l.length ≤ 4294967296) (k : Nat) (hk : l.length + 1 ≤ k) : graftwoodref05_Has.f k l t.f0 t.f1 = some (decide (t ∈ l)) := by
  have h := has_l0 l t hl l.length 0 k (by omega) (Nat.zero_le _) hk
  rw [List.drop_zero] at h
  exact h
theorem same_l0 (l m : List S23) (hl : l.length ≤ 4294967296) (hm : l.length = m.length) : ∀ (n i k : Nat), l.length ≤ i + n → i ≤ l.length → n + 1 ≤ k → graftwoodref05_Same.l0 k l m (i : Int) = some (decide (l.drop i = m.drop i)) := by
  intro n
  induction n with
  | zero =>
    intro i k h1 h2 hk
    obtain ⟨j, rfl⟩ : ∃ j, k = j + 1 := ⟨k - 1, by omega⟩
    have e : i = l.length := by omega
    subst e
    simp only [graftwoodref05_Same.l0]
    rw [if_neg (by omega), List.drop_length, List.drop_eq_nil_of_le (by omega)]
    rfl
  | succ n ih =>
    intro i k h1 h2 hk
    obtain ⟨j, rfl⟩ : ∃ j, k = j + 1 := ⟨k - 1, by omega⟩
    by_cases h : i < l.length
    · have h' : i < m.length := by omega
      simp only [graftwoodref05_Same.l0]
      have hn : (!(l[i].f0.toList == m[i].f0.toList) || !(l[i].f1.toList == m[i].f1.toList)) = !decide (l[i] = m[i]) := by rw [← node_eqb, Bool.not_and]
      rw [if_pos (by omega), if_pos (by omega), if_pos (by omega), rd_nat h, rd_nat h', hn, List.drop_eq_getElem_cons h, List.drop_eq_getElem_cons h']
      by_cases e : l[i] = m[i]
      · rw [decide_eq_true e, if_neg (by decide), show wrap64 ((i : Int) + 1) = ((i + 1 : Nat) : Int) by unfold wrap64; omega, ih (i + 1) j (by omega) (by omega) (by omega)]
        exact congrArg some (decide_eq_decide.2 ⟨fun h => by rw [e, h], fun h => (List.cons.inj h).2⟩)
      · rw [decide_eq_false e, if_pos (by decide), decide_eq_false (fun h => e (List.cons.inj h).1)]
    · exact ih i (j + 1) (by omega) h2 (by omega)
theorem same_val (l m : List S23) (hl : l.length ≤ 4294967296) (k : Nat) (hk : l.length + 1 ≤ k) : graftwoodref05_Same.f k l m = some (decide (l = m)) := by
  unfold graftwoodref05_Same.f
  by_cases h : l.length = m.length
  · rw [if_pos (by omega)]
    have h2 := same_l0 l m hl h l.length 0 k (by omega) (Nat.zero_le _) hk
    rw [List.drop_zero, List.drop_zero] at h2
    exact h2
  · rw [if_neg (by omega), decide_eq_false (fun e => h (by rw [e]))]
theorem order_val (k : Nat) (x y : S23) (hx : GoodN x) (hy : GoodN y) : node_order.f (k + 3) x.f0 x.f1 y.f0 y.f1 = some (ordN x y) := by
  unfold node_order.f
  by_cases h : (x.f0.toList == y.f0.toList && x.f1.toList == y.f1.toList) = true
  · rw [if_pos h]
    rw [str_eq, str_eq, Bool.and_eq_true, decide_eq_true_eq, decide_eq_true_eq] at h
    have e : x = y := by cases x; cases y; simp only at h; rw [h.1, h.2]
    subst e
    exact congrArg some ((ordN_to.eq x x hx hx).2 rfl).symm
  · rw [if_neg h]
    have hv : version_Cmp.f x.f1 y.f1 = some (verC (vOf (bs x.f1)) (vOf (bs y.f1)), 0) := by
      unfold version_Cmp.f
      rw [if_pos ⟨hx.2.1, hy.2.1⟩, vparts_of hx.2.2, vparts_of hy.2.2]
      rfl
    rw [hv, octcmp_val]
    simp only [Option.bind_some]
    rw [or2_val]
    rfl
/-- Nodes that may be, each behind the one ahead. -/
def chk : Option S23 → List S23 → Bool
  | _, [] => true
  | p, x :: r => mayN x && (match p with | none => true | some q => decide (ordN q x < 0)) && chk (some x) r
def okI : Bool → Int
  | true => 0
  | false => 1
def checkN (l : List S23) : Bool := chk none l
theorem check_l0 (l : List S23) (hl : l.length ≤ 4294967296) (ht : ∀ x ∈ l, TinyN x) : ∀ (n i k : Nat) (p : Option S23), l.length ≤ i + n → i ≤ l.length → n + 4294967300 ≤ k →
    (p = if i = 0 then none else l[i - 1]?) → (∀ q, p = some q → mayN q = true) →
    node_Check.l0 k l l (l.length : Int) (i : Int) = some (okI (chk p (l.drop i))) := by
  intro n
  induction n with
  | zero =>
    intro i k p h1 h2 hk hp hq
    obtain ⟨j, rfl⟩ : ∃ j, k = j + 1 := ⟨k - 1, by omega⟩
    have e : i = l.length := by omega
    subst e
    simp only [node_Check.l0]
    rw [if_neg (by omega), List.drop_length]
    cases p <;> rfl
  | succ n ih =>
    intro i k p h1 h2 hk hp hq
    obtain ⟨j, rfl⟩ : ∃ j, k = j + 1 := ⟨k - 1, by omega⟩
    by_cases hi : i < l.length
    · have hm := List.getElem_mem hi
      have htx := ht _ hm
      have hrd : rd_T23 l (i : Int) = l[i] := by simp [rd_T23, List.getD_eq_getElem?_getD, List.getElem?_eq_getElem hi]
      have hmv := node_May_val j l[i] htx (by have := htx.1; unfold Tiny at this; omega)
      simp only [node_Check.l0]
      rw [if_pos (by omega), if_pos (by omega), if_pos (by omega), hrd, hmv, List.drop_eq_getElem_cons hi]
      simp only [Option.bind_some, chk]
      by_cases hmx : mayN l[i] = true
      case neg =>
        rw [Bool.not_eq_true] at hmx
        rw [hmx]
        rfl
      case pos =>
        rw [hmx]
        simp only [if_true, Bool.true_and]
        have hw : wrap64 ((i : Int) + 1) = ((i + 1 : Nat) : Int) := by unfold wrap64; omega
        have ih' := ih (i + 1) j (some l[i]) (by omega) (by omega) (by omega) (by rw [if_neg (by omega)]; simp [List.getElem?_eq_getElem hi]) (fun q h => by injection h with h; rw [← h]; exact hmx)
        by_cases h0 : i = 0
        · subst h0
          rw [if_pos rfl] at hp
          subst hp
          rw [if_neg (by omega), hw, ih']
          rfl
        · rw [if_neg h0, List.getElem?_eq_getElem (by omega)] at hp
          subst hp
          have hi1 : i - 1 < l.length := by omega
          have hw1 : wrap64 ((i : Int) - 1) = ((i - 1 : Nat) : Int) := by unfold wrap64; omega
          have hrd1 : rd_T23 l ((i - 1 : Nat) : Int) = l[i - 1] := by simp [rd_T23, List.getD_eq_getElem?_getD, List.getElem?_eq_getElem hi1]
          have gx := mayN_good (ht _ (List.getElem_mem hi1)) (hq _ rfl)
          have gy := mayN_good htx hmx
          obtain ⟨j3, rfl⟩ : ∃ j3, j = j3 + 3 := ⟨j - 3, by omega⟩
          rw [if_pos (by omega), hw1, if_pos (by omega), if_pos (by omega), hrd1, order_val j3 _ _ gx gy]
          simp only [Option.bind_some]
          by_cases hc : ordN l[i - 1] l[i] < 0
          · rw [if_neg (by omega), hw, ih', decide_eq_true hc]
            rfl
          · rw [if_pos (by omega), decide_eq_false hc]
            rfl
    · exact ih i (j + 1) p (by omega) h2 (by omega) hp hq
theorem check_val (l : List S23) (hl : l.length ≤ 4294967296) (ht : ∀ x ∈ l, TinyN x) (k : Nat) (hk : 8589934600 ≤ k) : node_Check.f k l = some (okI (checkN l)) := by
  have h := check_l0 l hl ht l.length 0 k none (by omega) (Nat.zero_le _) (by omega) rfl (fun q h => by cases h)
  rw [List.drop_zero] at h
  exact h
theorem chk_facts : ∀ (l : List S23) (p : Option S23), chk p l = true → l.all mayN = true
  | [], _, _ => rfl
  | x :: r, p, h => by
    simp only [chk, Bool.and_eq_true] at h
    rw [List.all_cons, h.1.1, chk_facts r _ h.2]
    rfl
theorem bel_next {w : World} {o : Obj} {W W2 : World} {R : Prop} (h : Below (w.heap.size + 1) (w.alloc o) W ∧ R) (hb : Below W.heap.size W W2) : Below (w.heap.size + 1) (w.alloc o) W2 := h.1.trans (hb.mono (by have := h.1.size; simp at this; omega))
/-- How many are ahead of a node. -/
def ahead (l : List S23) (t : S23) : Nat := (l.filter (fun x => decide (ordN x t < 0))).length
theorem ahead_val (l : List S23) (t : S23) (i : Nat) (hi : i ≤ l.length) (h1 : ∀ a (ha : a < l.length), a < i → ordN l[a] t < 0) (h2 : ∀ a (ha : a < l.length), i ≤ a → 0 ≤ ordN l[a] t) : ahead l t = i := by
  unfold ahead
  have e : l = l.take i ++ l.drop i := (List.take_append_drop i l).symm
  have f1 : (l.take i).filter (fun x => decide (ordN x t < 0)) = l.take i := by
    rw [List.filter_eq_self]
    intro x hx
    obtain ⟨a, ha, rfl⟩ := List.getElem_of_mem hx
    rw [List.length_take] at ha
    rw [List.getElem_take, decide_eq_true_eq]
    exact h1 a (by omega) (by omega)
  have f2 : (l.drop i).filter (fun x => decide (ordN x t < 0)) = [] := by
    rw [List.filter_eq_nil_iff]
    intro x hx
    obtain ⟨a, ha, rfl⟩ := List.getElem_of_mem hx
    rw [List.length_drop] at ha
    rw [List.getElem_drop, decide_eq_true_eq]
    have := h2 (i + a) (by omega) (by omega)
    omega
  conv => lhs; rw [e]
  rw [List.filter_append, f1, f2, List.append_nil, List.length_take]
  omega
theorem found_val (l : List S23) (t : S23) (hg : ∀ x ∈ l, GoodN x) (gt : GoodN t) (hs : l.Pairwise (fun x y => ordN x y < 0)) (i : Nat) (h1 : ∀ a (ha : a < l.length), a < i → ordN l[a] t < 0) (h2 : ∀ a (ha : a < l.length), i ≤ a → 0 ≤ ordN l[a] t) :
    (t ∈ l) ↔ ∃ h : i < l.length, ordN l[i] t = 0 := by
  constructor
  · intro hm
    obtain ⟨a, ha, rfl⟩ := List.getElem_of_mem hm
    have h0 : ordN l[a] l[a] = 0 := (ordN_to.eq _ _ (hg _ (List.getElem_mem ha)) (hg _ (List.getElem_mem ha))).2 rfl
    rcases Nat.lt_trichotomy a i with h | h | h
    · have := h1 a ha h; omega
    · subst h; exact ⟨ha, h0⟩
    · have h3 := List.pairwise_iff_getElem.1 hs i a (by omega) ha h
      have h4 := h2 i (by omega) (Nat.le_refl _)
      omega
  · rintro ⟨h, h0⟩
    have := (ordN_to.eq _ _ (hg _ (List.getElem_mem h)) gt).1 h0
    rw [← this]
    exact List.getElem_mem h
set_option maxHeartbeats 4000000 in
set_option maxRecDepth 100000 in
theorem bsearch (A0 : Option Addr) (c0 : Nat) (l0 : List S23) (t : S23) (w : World) (hr0 : Kd.C k23 w A0 l0.length l0) (hl0 : l0.length ≤ 4294967296) (hg : ∀ x ∈ l0, GoodN x) (gt : GoodN t)
    (hs : l0.Pairwise (fun x y => ordN x y < 0)) :
    Calls Tryd.prog 49 #[.slice A0 l0.length c0, .agg #[.string t.f0, .string t.f1], .func (.func 26) #[] #[]] w fun e w' => e = .returned (.tuple #[.int .i64 (ahead l0 t : Nat), .bool (decide (t ∈ l0))]) ∧ Below w.heap.size w w' := by
  have hu23 := Tryd.underlying23
  have HR0 := Aside0.mk hr0
  have HG := Aside0.mk hg
  have HS := Aside0.mk hs
  have q0 : (l0.length : Int) ≤ 4294967296 := by omega
  clear hr0 hg hs
  go_enter Tryd.func49, Tryd.ntmps49
  go_wp2_with fail
  go_loopw [9, 10] (fun v9 v10 wr => ∃ i j : Nat, i ≤ j ∧ j ≤ l0.length ∧ v9 = .int .i64 (i : Int) ∧ v10 = .int .i64 (j : Int) ∧ Aside0 (Below (w.heap.size + 1) (w.alloc (.cells #[.string t.f0, .string t.f1] 23 (0, 0))) wr) ∧ Aside0 ((∀ a (ha : a < l0.length), a < i → ordN l0[a] t < 0) ∧ (∀ a (ha : a < l0.length), j ≤ a → 0 ≤ ordN l0[a] t))) (fun v9 v10 _ => (RowKit.intOf v10).toNat - (RowKit.intOf v9).toNat)
  case atStart => exact ⟨0, l0.length, Nat.zero_le _, Nat.le_refl _, rfl, rfl, ⟨by have := Below.refl (w.heap.size + 1) (w.alloc (.cells #[.string t.f0, .string t.f1] 23 (0, 0))); exact this⟩, ⟨fun a ha h => by omega, fun a ha h => by omega⟩⟩
  case round =>
    obtain ⟨i, j, hij, hj, rfl, rfl, HB, HI⟩ := hrel
    by_cases hlt : i < j
    · have hd : decide ((i : Int) < (j : Int)) = true := decide_eq_true (by omega)
      have hsum : wrap64 ((i : Int) + (j : Int)) = ((i + j : Nat) : Int) := by unfold wrap64; omega
      obtain ⟨m, hmq⟩ : ∃ m : Nat, ((i : Int) + (j : Int)) / 2 = (m : Int) := ⟨(i + j) / 2, by omega⟩
      have hml : m < l0.length := by omega
      have hml' : (m : Int) < (l0.length : Int) := by omega
      obtain ⟨ad, e0, hx0, hx1⟩ := at_T23 HR0.out (m : Int) (by omega) (by omega)
      have hrd : rd_T23 l0 (m : Int) = l0[m] := by simp [rd_T23, List.getD_eq_getElem?_getD, List.getElem?_eq_getElem hml]
      rw [hrd, Int.toNat_natCast] at hx0 hx1
      cases e0
      have hov := order_val 6 l0[m] t (HG.out _ (List.getElem_mem hml)) gt
      have CO := fun w => node_order.calls 9 l0[m].f0 l0[m].f1 t.f0 t.f1 _ w hov
      obtain ⟨cv, hcv⟩ : ∃ cv, cv = ordN l0[m] t := ⟨_, rfl⟩
      rw [← hcv] at CO
      have HCV := Aside0.mk hcv
      obtain ⟨x, hx⟩ : ∃ x, x = l0[m] := ⟨_, rfl⟩
      rw [← hx] at CO hx0 hx1
      have hb0 := World.block_lt_of_cell? w _ hx0
      have hb1 := World.block_lt_of_cell? w _ hx1
      have KS : ∀ w', Below (w.heap.size + 1) (w.alloc (.cells #[.string t.f0, .string t.f1] 23 (0, 0))) w' → (fun w' => Below (w.heap.size + 1) (w.alloc (.cells #[.string t.f0, .string t.f1] 23 (0, 0))) w' ∧ w'.cell? (ad.add (m * 2)) = some (.string x.f0) ∧ w'.cell? ⟨(ad.add (m * 2)).block, (ad.add (m * 2)).off + 1, none⟩ = some (.string x.f1) ∧ w'.cell? ⟨w.heap.size, 0, none⟩ = some (.string t.f0) ∧ w'.cell? ⟨w.heap.size, 1, none⟩ = some (.string t.f1)) w' := fun w' h =>
        ⟨h, (h.cell (Nat.lt_succ_of_lt hb0)).trans (Lib.cell?_alloc_some _ hx0), (h.cell (Nat.lt_succ_of_lt hb1)).trans (Lib.cell?_alloc_some _ hx1), (h.cell (p := ⟨w.heap.size, 0, none⟩) (Nat.lt_succ_self _)).trans (by simp [go_sem]), (h.cell (p := ⟨w.heap.size, 1, none⟩) (Nat.lt_succ_self _)).trans (by simp [go_sem])⟩
      have hwr : w.heap.size + 1 ≤ wr.heap.size := by have := HB.out.size; simp at this; omega
      clear hcv hx hrd hov hx0 hx1
      go_wp2_with fail
      go_region_held3 (fun w' => Below (w.heap.size + 1) (w.alloc (.cells #[.string t.f0, .string t.f1] 23 (0, 0))) w' ∧ w'.cell? (ad.add (m * 2)) = some (.string x.f0) ∧ w'.cell? ⟨(ad.add (m * 2)).block, (ad.add (m * 2)).off + 1, none⟩ = some (.string x.f1) ∧ w'.cell? ⟨w.heap.size, 0, none⟩ = some (.string t.f0) ∧ w'.cell? ⟨w.heap.size, 1, none⟩ = some (.string t.f1))
        (first
          | exact KS _ (below_drew HB.out)
          | exact KS _ (bel_next (by assumption) hb9)
          | exact KS _ (And.left ‹Below (w.heap.size + 1) _ _ ∧ _›))
        (first
          | (go_at_call 26; with_reducible refine (CO _).mono ?_; rintro e w'' ⟨rfl, hb9⟩))
      have HB9 := Aside0.mk (And.left ‹Below (w.heap.size + 1) _ w'' ∧ _›)
      rename_i hHeldZ
      clear hHeldZ hb9 KS
      have hir := HI.out
      have hpw := List.pairwise_iff_getElem.1 HS.out
      have hgg := fun a (ha : a < l0.length) => HG.out _ (List.getElem_mem ha)
      by_cases hc : cv < 0
      · have hcd : decide (cv < 0) = true := decide_eq_true hc
        have HI2 : Aside0 ((∀ a (ha : a < l0.length), a < m + 1 → ordN l0[a] t < 0) ∧ (∀ a (ha : a < l0.length), j ≤ a → 0 ≤ ordN l0[a] t)) := ⟨⟨fun a ha h => by
          by_cases e : a = m
          · subst e; rw [← HCV.out]; exact hc
          · exact ordN_to.tr _ _ _ (hgg a ha) (hgg m hml) gt (hpw a m ha hml (by omega)) (by rw [← HCV.out]; exact hc), hir.2⟩⟩
        clear hir hpw hgg
        go_wp2
        go_roundw
        case rel => exact ⟨m + 1, j, by omega, hj, by go_num, rfl, HB9, HI2⟩
        case measure => simp [RowKit.intOf]; omega
      · have hcd : decide (cv < 0) = false := decide_eq_false hc
        have HI2 : Aside0 ((∀ a (ha : a < l0.length), a < i → ordN l0[a] t < 0) ∧ (∀ a (ha : a < l0.length), m ≤ a → 0 ≤ ordN l0[a] t)) := ⟨⟨hir.1, fun a ha h => by
          by_cases e : a = m
          · subst e; rw [← HCV.out]; omega
          · have h1 := hpw m a hml ha (by omega)
            refine Int.not_lt.1 (fun h2 => hc ?_)
            rw [HCV.out]
            exact ordN_to.tr _ _ _ (hgg m hml) (hgg a ha) gt h1 h2⟩⟩
        clear hir hpw hgg
        go_wp2
        go_roundw
        case rel => exact ⟨i, m, by omega, by omega, rfl, by go_num, HB9, HI2⟩
        case measure => simp [RowKit.intOf]; omega
    · obtain rfl : i = j := by omega
      have hd : decide ((i : Int) < (i : Int)) = false := decide_eq_false (by omega)
      have hav := ahead_val l0 t i hj HI.out.1 HI.out.2
      have hfv := found_val l0 t HG.out gt HS.out i HI.out.1 HI.out.2
      have HAV := Aside0.mk hav
      have HFV := Aside0.mk hfv
      clear hav hfv
      by_cases hil : i < l0.length
      · have hjd : decide ((i : Int) < (l0.length : Int)) = true := decide_eq_true (by omega)
        have hml : i < l0.length := hil
        have hml' : (i : Int) < (l0.length : Int) := by omega
        obtain ⟨ad, e0, hx0, hx1⟩ := at_T23 HR0.out (i : Int) (by omega) (by omega)
        have hrd : rd_T23 l0 (i : Int) = l0[i] := by simp [rd_T23, List.getD_eq_getElem?_getD, List.getElem?_eq_getElem hml]
        rw [hrd, Int.toNat_natCast] at hx0 hx1
        cases e0
        have hov := order_val 6 l0[i] t (HG.out _ (List.getElem_mem hml)) gt
        have CO := fun w => node_order.calls 9 l0[i].f0 l0[i].f1 t.f0 t.f1 _ w hov
        obtain ⟨cv, hcv⟩ : ∃ cv, cv = ordN l0[i] t := ⟨_, rfl⟩
        rw [← hcv] at CO
        have HCV := Aside0.mk hcv
        obtain ⟨x, hx⟩ : ∃ x, x = l0[i] := ⟨_, rfl⟩
        rw [← hx] at CO hx0 hx1
        have hb0 := World.block_lt_of_cell? w _ hx0
        have hb1 := World.block_lt_of_cell? w _ hx1
        have KS : ∀ w', Below (w.heap.size + 1) (w.alloc (.cells #[.string t.f0, .string t.f1] 23 (0, 0))) w' → (fun w' => Below (w.heap.size + 1) (w.alloc (.cells #[.string t.f0, .string t.f1] 23 (0, 0))) w' ∧ w'.cell? (ad.add (i * 2)) = some (.string x.f0) ∧ w'.cell? ⟨(ad.add (i * 2)).block, (ad.add (i * 2)).off + 1, none⟩ = some (.string x.f1) ∧ w'.cell? ⟨w.heap.size, 0, none⟩ = some (.string t.f0) ∧ w'.cell? ⟨w.heap.size, 1, none⟩ = some (.string t.f1)) w' := fun w' h =>
          ⟨h, (h.cell (Nat.lt_succ_of_lt hb0)).trans (Lib.cell?_alloc_some _ hx0), (h.cell (Nat.lt_succ_of_lt hb1)).trans (Lib.cell?_alloc_some _ hx1), (h.cell (p := ⟨w.heap.size, 0, none⟩) (Nat.lt_succ_self _)).trans (by simp [go_sem]), (h.cell (p := ⟨w.heap.size, 1, none⟩) (Nat.lt_succ_self _)).trans (by simp [go_sem])⟩
        have hwr : w.heap.size + 1 ≤ wr.heap.size := by have := HB.out.size; simp at this; omega
        clear hcv hx hrd hov hx0 hx1
        go_wp2_with fail
        go_region_held3 (fun w' => Below (w.heap.size + 1) (w.alloc (.cells #[.string t.f0, .string t.f1] 23 (0, 0))) w' ∧ w'.cell? (ad.add (i * 2)) = some (.string x.f0) ∧ w'.cell? ⟨(ad.add (i * 2)).block, (ad.add (i * 2)).off + 1, none⟩ = some (.string x.f1) ∧ w'.cell? ⟨w.heap.size, 0, none⟩ = some (.string t.f0) ∧ w'.cell? ⟨w.heap.size, 1, none⟩ = some (.string t.f1))
          (first
            | exact KS _ (below_drew HB.out)
            | exact KS _ (bel_next (by assumption) hb9)
            | exact KS _ (And.left ‹Below (w.heap.size + 1) _ _ ∧ _›))
          (first
            | (go_at_call 26; with_reducible refine (CO _).mono ?_; rintro e w'' ⟨rfl, hb9⟩))
        have HB9 := Aside0.mk (And.left ‹Below (w.heap.size + 1) _ w'' ∧ _›)
        rename_i hHeldZ
        clear hHeldZ hb9 KS
        have hbel : Aside0 (Below w.heap.size w w'') := ⟨(below_alloc (Below.refl _ _) _).trans (HB9.out.mono (Nat.le_succ _))⟩
        cases hc : (cv == 0)
        · have hz : ¬ (t ∈ l0) := fun h => by
            obtain ⟨h3, h4⟩ := HFV.out.1 h
            rw [← HCV.out] at h4
            rw [h4] at hc
            exact absurd hc (by decide)
          have HZ := Aside0.mk hz
          clear hz
          go_wp2
          go_ret2
          exact ⟨by rw [HAV.out, decide_eq_false HZ.out]; rfl, hbel.out⟩
        · have hz : t ∈ l0 := HFV.out.2 ⟨hml, by rw [← HCV.out]; simpa using hc⟩
          have HZ := Aside0.mk hz
          clear hz
          go_wp2
          go_ret2
          exact ⟨by rw [HAV.out, decide_eq_true HZ.out]; rfl, hbel.out⟩
      · have hjd : decide ((i : Int) < (l0.length : Int)) = false := decide_eq_false (by omega)
        have HZ : Aside0 (¬ (t ∈ l0)) := ⟨fun h => by obtain ⟨h3, _⟩ := HFV.out.1 h; omega⟩
        have hbel : Aside0 (Below w.heap.size w wr) := ⟨(below_alloc (Below.refl _ _) _).trans (HB.out.mono (Nat.le_succ _))⟩
        have mixed : Tryd.prog.follows Departure.mixedOrders = true := by kernel_rfl
        go_wp2_with fail
        go_quiet (fail)
        go_wp2
        go_ret2
        exact ⟨by rw [HAV.out, decide_eq_false HZ.out]; rfl, by repeat (with_reducible first | exact hbel.out | refine pw_below_drewN ?_ _ | refine below_drew ?_)⟩
theorem chk_sorted : ∀ (l : List S23) (p : Option S23), (∀ x ∈ l, TinyN x) → (∀ q, p = some q → GoodN q) → chk p l = true → l.Pairwise (fun x y => ordN x y < 0) ∧ (∀ q, p = some q → ∀ x ∈ l, ordN q x < 0)
  | [], _, _, _, _ => ⟨List.Pairwise.nil, fun _ _ x hx => by cases hx⟩
  | x :: r, p, ht, hp, h => by
    simp only [chk, Bool.and_eq_true] at h
    have gx := mayN_good (ht x List.mem_cons_self) h.1.1
    have ih := chk_sorted r (some x) (fun y hy => ht y (List.mem_cons_of_mem _ hy)) (fun q e => by injection e with e; rw [← e]; exact gx) h.2
    have hxr := ih.2 x rfl
    refine ⟨List.pairwise_cons.2 ⟨hxr, ih.1⟩, fun q e y hy => ?_⟩
    subst e
    have h1 : ordN q x < 0 := of_decide_eq_true h.1.2
    rcases List.mem_cons.1 hy with rfl | hy
    · exact h1
    · have gy : GoodN y := mayN_good (ht y (List.mem_cons_of_mem _ hy)) (List.all_eq_true.1 (chk_facts r _ h.2) y hy)
      exact ordN_to.tr _ _ _ (hp q rfl) gx gy h1 (hxr y hy)
theorem check_good {l : List S23} (ht : ∀ x ∈ l, TinyN x) (h : checkN l = true) : (∀ x ∈ l, GoodN x) ∧ l.Pairwise (fun x y => ordN x y < 0) :=
  ⟨fun x hx => mayN_good (ht x hx) (List.all_eq_true.1 (chk_facts l _ h) x hx), (chk_sorted l none ht (fun q e => by cases e) h).1⟩
def node_find.f (l : List S23) (a b : ByteArray) : Option (Int × Bool × Int) := if l.length ≤ 4294967296 ∧ (∀ x ∈ l, TinyN x) ∧ TinyN ⟨a, b⟩ then some (if checkN l = true ∧ mayN ⟨a, b⟩ = true then ((ahead l ⟨a, b⟩ : Nat), decide ((⟨a, b⟩ : S23) ∈ l), 0) else (0, false, 1)) else none
set_option maxHeartbeats 4000000 in
set_option maxRecDepth 100000 in
theorem node_find.calls (A0 : Option Addr) (c0 : Nat) (l0 : List S23) (a1_0 a1_1 : ByteArray) (r1 : Int) (r2 : Bool) (r3 : Int) (w : World) (hr0 : Kd.C k23 w A0 l0.length l0) (hc0 : l0.length ≤ c0) (h : node_find.f l0 a1_0 a1_1 = some (r1, r2, r3)) :
    Calls Tryd.prog 34 #[.slice A0 l0.length c0, .agg #[.string a1_0, .string a1_1]] w fun e w' => e = .returned (.tuple #[.int .i64 r1, .bool r2, .int .i64 r3]) ∧ Below w.heap.size w w' := by
  unfold node_find.f at h
  split at h
  case isFalse => cases h
  case isTrue hc =>
    obtain ⟨hl0, ht0, htt⟩ := hc
    have HR0 := Aside0.mk hr0
    have hu23 := Tryd.underlying23
    have e0 := check_val l0 hl0 ht0 8589934600 (Nat.le_refl _)
    have m0 := node_May_val 8589934600 ⟨a1_0, a1_1⟩ htt (by have := htt.1; unfold Tiny at this; simp only [] at *; omega)
    simp only [] at m0
    by_cases hk : checkN l0 = true
    · rw [hk] at e0
      have CK0 := fun (W : World) (h : Kd.C k23 W A0 l0.length l0) => node_Check.calls 8589934600 A0 c0 l0 0 W h hc0 e0
      by_cases hm : mayN ⟨a1_0, a1_1⟩ = true
      · rw [if_pos ⟨hk, hm⟩, Option.some.injEq, Prod.mk.injEq, Prod.mk.injEq] at h
        obtain ⟨rfl, rfl, rfl⟩ := h
        rw [hm] at m0
        have CM := fun w => node_May.calls 8589934600 a1_0 a1_1 true w m0
        have hgd := check_good ht0 hk
        have CB := fun (W : World) (h : Kd.C k23 W A0 l0.length l0) => bsearch A0 c0 l0 ⟨a1_0, a1_1⟩ W h hl0 hgd.1 (mayN_good htt hm) hgd.2
        generalize (ahead l0 ⟨a1_0, a1_1⟩ : Nat) = r1 at CB ⊢
        generalize decide ((⟨a1_0, a1_1⟩ : S23) ∈ l0) = r2 at CB ⊢
        simp only [] at CB
        clear e0 m0 hgd ht0 htt hk hm hr0
        go_enter Tryd.func34, Tryd.ntmps34
        go_wp2_with fail
        refine (CK0 _ (Kd.C_alloc HR0.out _)).mono ?_
        rintro e w1 ⟨rfl, hb1⟩
        have HB1 : Aside0 (Below w.heap.size w w1) := ⟨(below_alloc (Below.refl _ _) _).trans (hb1.mono (by simp))⟩
        have n0 : w1.cell? ⟨w.heap.size, 0, none⟩ = some (.string a1_0) := (hb1.cell (p := ⟨w.heap.size, 0, none⟩) (by simp)).trans (by simp [go_sem])
        have n1 : w1.cell? ⟨w.heap.size, 1, none⟩ = some (.string a1_1) := (hb1.cell (p := ⟨w.heap.size, 1, none⟩) (by simp)).trans (by simp [go_sem])
        have hz1 : w.heap.size < w1.heap.size := by have := hb1.size; simp at this; omega
        clear hb1 CK0
        go_wp2_with fail
        refine (CM _).mono ?_
        rintro e w2 ⟨rfl, hb2⟩
        have HB2 : Aside0 (Below w.heap.size w w2) := ⟨HB1.out.trans (hb2.mono HB1.out.size)⟩
        have p0 : w2.cell? ⟨w.heap.size, 0, none⟩ = some (.string a1_0) := (hb2.cell (p := ⟨w.heap.size, 0, none⟩) hz1).trans n0
        have p1 : w2.cell? ⟨w.heap.size, 1, none⟩ = some (.string a1_1) := (hb2.cell (p := ⟨w.heap.size, 1, none⟩) hz1).trans n1
        clear hb2 CM
        go_wp2_with fail
        refine (CB _ (Kd.C_below HR0.out HB2.out)).mono ?_
        rintro e w3 ⟨rfl, hb3⟩
        have HB3 : Aside0 (Below w.heap.size w w3) := ⟨HB2.out.trans (hb3.mono HB2.out.size)⟩
        clear hb3 CB
        go_wp2
        go_ret3
        exact ⟨rfl, HB3.out⟩
      · rw [if_neg (fun h => hm h.2), Option.some.injEq, Prod.mk.injEq, Prod.mk.injEq] at h
        obtain ⟨rfl, rfl, rfl⟩ := h
        rw [Bool.not_eq_true] at hm
        rw [hm] at m0
        have CM := fun w => node_May.calls 8589934600 a1_0 a1_1 false w m0
        clear e0 m0 ht0 htt hk hm hr0
        go_enter Tryd.func34, Tryd.ntmps34
        go_wp2_with fail
        refine (CK0 _ (Kd.C_alloc HR0.out _)).mono ?_
        rintro e w1 ⟨rfl, hb1⟩
        have HB1 : Aside0 (Below w.heap.size w w1) := ⟨(below_alloc (Below.refl _ _) _).trans (hb1.mono (by simp))⟩
        have n0 : w1.cell? ⟨w.heap.size, 0, none⟩ = some (.string a1_0) := (hb1.cell (p := ⟨w.heap.size, 0, none⟩) (by simp)).trans (by simp [go_sem])
        have n1 : w1.cell? ⟨w.heap.size, 1, none⟩ = some (.string a1_1) := (hb1.cell (p := ⟨w.heap.size, 1, none⟩) (by simp)).trans (by simp [go_sem])
        have hz1 : w.heap.size < w1.heap.size := by have := hb1.size; simp at this; omega
        clear hb1 CK0
        go_wp2_with fail
        refine (CM _).mono ?_
        rintro e w2 ⟨rfl, hb2⟩
        have HB2 : Aside0 (Below w.heap.size w w2) := ⟨HB1.out.trans (hb2.mono HB1.out.size)⟩
        have p0 : w2.cell? ⟨w.heap.size, 0, none⟩ = some (.string a1_0) := (hb2.cell (p := ⟨w.heap.size, 0, none⟩) hz1).trans n0
        have p1 : w2.cell? ⟨w.heap.size, 1, none⟩ = some (.string a1_1) := (hb2.cell (p := ⟨w.heap.size, 1, none⟩) hz1).trans n1
        clear hb2 CM
        go_wp2
        go_ret3
        exact ⟨rfl, HB2.out⟩
    · rw [if_neg (fun h => hk h.1), Option.some.injEq, Prod.mk.injEq, Prod.mk.injEq] at h
      obtain ⟨rfl, rfl, rfl⟩ := h
      rw [Bool.not_eq_true] at hk
      rw [hk] at e0
      have CK0 := fun (W : World) (h : Kd.C k23 W A0 l0.length l0) => node_Check.calls 8589934600 A0 c0 l0 1 W h hc0 e0
      clear e0 m0 ht0 htt hk hr0
      go_enter Tryd.func34, Tryd.ntmps34
      go_wp2_with fail
      refine (CK0 _ (Kd.C_alloc HR0.out _)).mono ?_
      rintro e w1 ⟨rfl, hb1⟩
      have HB1 : Aside0 (Below w.heap.size w w1) := ⟨(below_alloc (Below.refl _ _) _).trans (hb1.mono (by simp))⟩
      have n0 : w1.cell? ⟨w.heap.size, 0, none⟩ = some (.string a1_0) := (hb1.cell (p := ⟨w.heap.size, 0, none⟩) (by simp)).trans (by simp [go_sem])
      have n1 : w1.cell? ⟨w.heap.size, 1, none⟩ = some (.string a1_1) := (hb1.cell (p := ⟨w.heap.size, 1, none⟩) (by simp)).trans (by simp [go_sem])
      have hz1 : w.heap.size < w1.heap.size := by have := hb1.size; simp at this; omega
      clear hb1 CK0
      go_wp2
      go_ret3
      exact ⟨rfl, HB1.out⟩
structure IsSet (l : List S23) : Prop where
  good : ∀ x ∈ l, GoodN x
  may : ∀ x ∈ l, mayN x = true
  lt : l.Pairwise (fun x y => ordN x y < 0)
theorem ordN_self {x : S23} (h : GoodN x) : ordN x x = 0 := (ordN_to.eq x x h h).2 rfl
theorem ordN_ne {x y : S23} (hx : GoodN x) (h : ordN x y < 0) : x ≠ y := fun e => by
  subst e
  rw [ordN_self hx] at h
  omega
theorem IsSet.nodup {l : List S23} (h : IsSet l) : l.Nodup := List.Pairwise.imp_of_mem (fun hx _ hxy => ordN_ne (h.good _ hx) hxy) h.lt
theorem IsSet.nil : IsSet [] := ⟨fun x h => by (cases h), fun x h => by (cases h), List.Pairwise.nil⟩
theorem IsSet.tail {x : S23} {l : List S23} (h : IsSet (x :: l)) : IsSet l := ⟨fun y hy => h.good y (List.mem_cons_of_mem _ hy), fun y hy => h.may y (List.mem_cons_of_mem _ hy), (List.pairwise_cons.1 h.lt).2⟩
/-- Two sets with the same nodes are the same list. -/
theorem IsSet.ext : ∀ {l m : List S23}, IsSet l → IsSet m → (∀ x, x ∈ l ↔ x ∈ m) → l = m
  | [], [], _, _, _ => rfl
  | [], y :: m, _, _, h => absurd ((h y).2 List.mem_cons_self) (by simp)
  | x :: l, [], _, _, h => absurd ((h x).1 List.mem_cons_self) (by simp)
  | x :: l, y :: m, hl, hm, h => by
    have gx := hl.good x List.mem_cons_self
    have gy := hm.good y List.mem_cons_self
    have e : x = y := by
      rcases List.mem_cons.1 ((h x).1 List.mem_cons_self) with e | e
      · exact e
      · rcases List.mem_cons.1 ((h y).2 List.mem_cons_self) with e2 | e2
        · exact e2.symm
        · have h1 := (List.pairwise_cons.1 hm.lt).1 x e
          have h2 := (List.pairwise_cons.1 hl.lt).1 y e2
          have := ordN_to.sym x y gx gy
          omega
    subst e
    have hx1 : x ∉ l := (List.nodup_cons.1 hl.nodup).1
    have hx2 : x ∉ m := (List.nodup_cons.1 hm.nodup).1
    rw [IsSet.ext hl.tail hm.tail (fun z => ⟨fun hz => by
      rcases List.mem_cons.1 ((h z).1 (List.mem_cons_of_mem _ hz)) with e | e
      · subst e; exact absurd hz hx1
      · exact e, fun hz => by
      rcases List.mem_cons.1 ((h z).2 (List.mem_cons_of_mem _ hz)) with e | e
      · subst e; exact absurd hz hx2
      · exact e⟩)]
theorem IsSet.filter {l : List S23} (h : IsSet l) (p : S23 → Bool) : IsSet (l.filter p) :=
  ⟨fun x hx => h.good x (List.mem_filter.1 hx).1, fun x hx => h.may x (List.mem_filter.1 hx).1, h.lt.filter p⟩
theorem chk_of : ∀ (l : List S23) (p : Option S23), (∀ x ∈ l, mayN x = true) → l.Pairwise (fun x y => ordN x y < 0) → (∀ q, p = some q → ∀ x ∈ l, ordN q x < 0) → chk p l = true
  | [], p, _, _, _ => by cases p <;> rfl
  | x :: r, p, hm, hs, hp => by
    rw [List.pairwise_cons] at hs
    simp only [chk, Bool.and_eq_true]
    refine ⟨⟨hm x List.mem_cons_self, ?_⟩, chk_of r (some x) (fun y hy => hm y (List.mem_cons_of_mem _ hy)) hs.2 (fun q e y hy => by injection e with e; rw [← e]; exact hs.1 y hy)⟩
    cases p with
    | none => rfl
    | some q => exact decide_eq_true (hp q rfl x List.mem_cons_self)
theorem check_set {l : List S23} (ht : ∀ x ∈ l, TinyN x) : checkN l = true ↔ IsSet l :=
  ⟨fun h => ⟨(check_good ht h).1, fun x hx => List.all_eq_true.1 (chk_facts l _ h) x hx, (check_good ht h).2⟩, fun h => chk_of l none h.may h.lt (fun q e => by cases e)⟩
theorem IsSet.check {l : List S23} (h : IsSet l) : checkN l = true := chk_of l none h.may h.lt (fun q e => by cases e)
theorem mem_ded (l : List S23) (x : S23) : x ∈ ded l ↔ x ∈ l := by
  have h := ded_mem l x l.length (Nat.le_refl _)
  rwa [List.take_length] at h
theorem mem_setN (l : List S23) (x : S23) : x ∈ setN l ↔ x ∈ l := (sortN_perm _).mem_iff.trans (mem_ded l x)
theorem ded_nodup : ∀ (l : List S23), (ded l).Nodup := by
  intro l
  have h : ∀ (l acc : List S23), acc.Nodup → (l.foldl (fun acc x => if x ∈ acc then acc else acc ++ [x]) acc).Nodup := by
    intro l
    induction l with
    | nil => intro acc h; exact h
    | cons x r ih =>
      intro acc h
      rw [List.foldl_cons]
      refine ih _ ?_
      split
      · exact h
      · rename_i hx
        refine List.nodup_append.2 ⟨h, List.nodup_cons.2 ⟨by simp, List.nodup_nil⟩, fun a ha b hb => ?_⟩
        simp at hb
        subst hb
        intro e
        subst e
        exact hx ha
  exact h l [] List.nodup_nil
theorem setN_set {l : List S23} (ht : ∀ x ∈ l, TinyN x) (hm : ∀ x ∈ l, mayN x = true) : IsSet (setN l) := by
  have hg : ∀ x ∈ setN l, GoodN x := fun x hx => mayN_good (ht x ((mem_setN l x).1 hx)) (hm x ((mem_setN l x).1 hx))
  refine ⟨hg, fun x hx => hm x ((mem_setN l x).1 hx), ?_⟩
  have hnd : (setN l).Nodup := (sortN_perm _).nodup_iff.2 (ded_nodup l)
  have hs := sortN_sorted (ded l) (fun y hy => mayN_good (ht y ((mem_ded l y).1 hy)) (hm y ((mem_ded l y).1 hy)))
  refine List.Pairwise.imp_of_mem (fun hx hy h => ?_) (List.Pairwise.and hs hnd)
  have := ordN_to.eq _ _ (hg _ hx) (hg _ hy)
  rcases Int.lt_or_eq_of_le h.1 with h1 | h1
  · exact h1
  · exact absurd (this.1 h1) h.2
theorem split_ahead (t : S23) (gt : GoodN t) : ∀ (l : List S23), (∀ x ∈ l, GoodN x) → l.Pairwise (fun x y => ordN x y < 0) →
    l.take (ahead l t) = l.filter (fun x => decide (ordN x t < 0)) ∧ l.drop (ahead l t) = l.filter (fun x => !decide (ordN x t < 0))
  | [], _, _ => ⟨by simp, by simp⟩
  | x :: r, hg, hs => by
    rw [List.pairwise_cons] at hs
    have ih := split_ahead t gt r (fun y hy => hg y (List.mem_cons_of_mem _ hy)) hs.2
    by_cases h : ordN x t < 0
    · have e : ahead (x :: r) t = ahead r t + 1 := by unfold ahead; rw [List.filter_cons_of_pos (by simp [h])]; rfl
      rw [e, List.take_succ_cons, List.drop_succ_cons, ih.1, ih.2, List.filter_cons_of_pos (by simp [h]), List.filter_cons_of_neg (by simp [h])]
      exact ⟨rfl, rfl⟩
    · have hn : ∀ y ∈ r, ¬ ordN y t < 0 := fun y hy h2 => h (ordN_to.tr x y t (hg x List.mem_cons_self) (hg y (List.mem_cons_of_mem _ hy)) gt (hs.1 y hy) h2)
      have f0 : (x :: r).filter (fun x => decide (ordN x t < 0)) = [] := by
        rw [List.filter_eq_nil_iff]
        intro y hy
        rcases List.mem_cons.1 hy with rfl | hy
        · simp only [decide_eq_true_eq]; exact h
        · simp only [decide_eq_true_eq]; exact hn y hy
      have e : ahead (x :: r) t = 0 := by unfold ahead; rw [f0]; rfl
      rw [e, f0]
      refine ⟨rfl, ?_⟩
      rw [List.drop_zero]
      refine (List.filter_eq_self.2 fun y hy => ?_).symm
      rcases List.mem_cons.1 hy with rfl | hy
      · simp [h]
      · simp [hn y hy]
/-- The reference's set with a node. -/
def rwithN (l : List S23) (t : S23) : List S23 := l.filter (fun x => decide (ordN x t < 0)) ++ [t] ++ l.filter (fun x => decide (ordN t x < 0))
theorem mem_rwithN {l : List S23} {t : S23} (hg : ∀ x ∈ l, GoodN x) (gt : GoodN t) (x : S23) : x ∈ rwithN l t ↔ x ∈ l ∨ x = t := by
  unfold rwithN
  simp only [List.mem_append, List.mem_filter, List.mem_singleton, decide_eq_true_eq]
  constructor
  · rintro ((h | h) | h)
    · exact Or.inl h.1
    · exact Or.inr h
    · exact Or.inl h.1
  · rintro (h | h)
    · have h1 := ordN_to.sym x t (hg x h) gt
      have h2 := ordN_to.eq x t (hg x h) gt
      rcases ordN_to.tri x t with e | e | e
      · exact Or.inl (Or.inl ⟨h, by omega⟩)
      · exact Or.inl (Or.inr (h2.1 e))
      · exact Or.inr ⟨h, by omega⟩
    · exact Or.inl (Or.inr h)
theorem rwithN_set {l : List S23} {t : S23} (h : IsSet l) (gt : GoodN t) (mt : mayN t = true) : IsSet (rwithN l t) := by
  refine ⟨fun x hx => ?_, fun x hx => ?_, ?_⟩
  · rcases (mem_rwithN h.good gt x).1 hx with e | e
    · exact h.good x e
    · subst e; exact gt
  · rcases (mem_rwithN h.good gt x).1 hx with e | e
    · exact h.may x e
    · subst e; exact mt
  · unfold rwithN
    rw [List.pairwise_append, List.pairwise_append]
    refine ⟨⟨h.lt.filter _, List.pairwise_singleton _ _, fun a ha b hb => ?_⟩, h.lt.filter _, fun a ha b hb => ?_⟩
    · simp only [List.mem_singleton] at hb
      subst hb
      exact of_decide_eq_true (List.mem_filter.1 ha).2
    · have hb1 := List.mem_filter.1 hb
      have hb2 : ordN t b < 0 := of_decide_eq_true hb1.2
      rcases List.mem_append.1 ha with ha | ha
      · have ha1 := List.mem_filter.1 ha
        exact ordN_to.tr a t b (h.good a ha1.1) gt (h.good b hb1.1) (of_decide_eq_true ha1.2) hb2
      · simp only [List.mem_singleton] at ha
        subst ha
        exact hb2
/-- The reference's set of a list. -/
def rsetN (l : List S23) : List S23 := l.foldl rwithN []
theorem rsetN_facts (l : List S23) (ht : ∀ x ∈ l, TinyN x) (hm : ∀ x ∈ l, mayN x = true) : ∀ (acc : List S23), IsSet acc → IsSet (l.foldl rwithN acc) ∧ ∀ x, x ∈ l.foldl rwithN acc ↔ x ∈ acc ∨ x ∈ l := by
  induction l with
  | nil => intro acc h; exact ⟨h, fun x => by simp⟩
  | cons y r ih =>
    intro acc h
    have my := hm y List.mem_cons_self
    have gy := mayN_good (ht y List.mem_cons_self) my
    rw [List.foldl_cons]
    have h2 := ih (fun x hx => ht x (List.mem_cons_of_mem _ hx)) (fun x hx => hm x (List.mem_cons_of_mem _ hx)) _ (rwithN_set h gy my)
    refine ⟨h2.1, fun x => (h2.2 x).trans ?_⟩
    rw [mem_rwithN h.good gy, List.mem_cons, or_assoc]
theorem setN_ref {l : List S23} (ht : ∀ x ∈ l, TinyN x) (hm : ∀ x ∈ l, mayN x = true) : setN l = rsetN l := by
  have h2 := rsetN_facts l ht hm [] IsSet.nil
  exact (setN_set ht hm).ext h2.1 (fun x => (mem_setN l x).trans (by rw [show rsetN l = l.foldl rwithN [] from rfl, h2.2 x]; simp))
end Go.Proofs.YtnknjhdpjjddeaaDoor.Q
end
