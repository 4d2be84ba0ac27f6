/- Part 6 of this claim: several texts one behind the other: FnodeMay, FnodeCmp, Fwhyorder, NDef, LOne, LFew18, LRd, LCon, LHas, LSame, NMayV, KChk, NOrd, YIs, NCmp, NKey. What each shows stands in its theorems; conditions: sizes of texts and lists, as the functions' definitions say. -/
import Derived.Test.YtodkjmbmlobihaaDoorMWhyChain5
import Derived.Test.YtodkjmbmlobihaaDoorMWhyChain0
import Derived.Test.YtodkjmbmlobihaaDoorMWhyChain1
import Derived.Test.YtodkjmbmlobihaaDoorMWhyChain2
import Derived.Sort.WalkB12
import Derived.Lib.Walk
import Derived.WalkKit
import Derived.Deep.LoopGhost
import Derived.Test.YtodkjmbmlobihaaDoorMWhyChain3
import Derived.RegionTactic
import Derived.BigRegion
import Derived.ChangeAlike
import Derived.Deep.QuietTactic
import Derived.BigQuiet
import Derived.Deep.RegionHeld3
import Derived.Maps.OwnSet
import Derived.Maps.AppendAt
import Derived.DeepKeys4
section
namespace Go.Proofs.YtodkjmbmlobihaaDoor.Q
open Go.Proofs.YtodkjmbmlobihaaDoor.QB.D
open Go.RowKit Go.Proofs.YtodkjmbmlobihaaDoorW.PrintWords Go.Proofs.YtodkjmbmlobihaaDoorW.PrintLast Go.Proofs.YtodkjmbmlobihaaDoorW.PrintMore
attribute [local go_sem] max2_int min2_int max_two min_two max_three min_three max_four min_four   -- for this text's walks alone
set_option linter.unusedVariables false
set_option linter.unusedSimpArgs false
/-! ### node_May: function 18 -/
def node_May.f (k : Nat) (a0_0 : ByteArray) (a0_1 : ByteArray) : Option (Bool) := (path_May.f k a0_0).bind fun t136 => (if t136 = true then ((version_May.f a0_1).bind fun t137 => (some t137)) else (some false))
theorem node_May.mono : ∀ a0 a1 k, LeO (node_May.f k a0 a1) (node_May.f (k + 1) a0 a1) := by
  intro a0 a1 k
  unfold node_May.f
  repeat' first
      | (with_reducible exact path_May.mono _ _)
      | (with_reducible exact LeO.refl _)
      | (with_reducible exact LeO.none _)
      | (with_reducible refine LeO.ite ?_ ?_)
      | (with_reducible refine LeO.bind ?_ (fun _ => ?_))
      | exact path_May.mono _ _
      | exact LeO.none _
      | refine LeO.ite ?_ ?_
      | refine LeO.bind ?_ (fun _ => ?_)
set_option maxHeartbeats 8000000 in
set_option maxRecDepth 100000 in
theorem node_May.calls (k : Nat) (a0_0 : ByteArray) (a0_1 : ByteArray) (r : Bool) (w : World) (h : node_May.f k a0_0 a0_1 = some r) :
    Calls Tryd.prog 18 #[.agg #[.string a0_0, .string a0_1]] w fun e w' => e = .returned (.bool r) ∧ Below w.heap.size w w' := by
  have hu24 := Tryd.underlying24
  have HB := Aside0.mk (Below.refl w.heap.size w)
  have H : ((path_May.f k a0_0).bind fun t136 => (if t136 = true then ((version_May.f a0_1).bind fun t137 => (some t137)) else (some false))) = some r := h
  clear h
  replace H := Option.bind_eq_some_iff.mp H
  obtain ⟨t136, A20, H⟩ := H
  replace H : (if t136 = true then ((version_May.f a0_1).bind fun t137 => (some t137)) else (some false)) = some r := H
  have A2 := Aside0.mk A20
  clear A20
  by_cases c3 : t136 = true
  · subst c3
    have H1 : ((version_May.f a0_1).bind fun t137 => (some t137)) = some r := by rw [if_pos rfl] at H; exact H
    clear H
    have H := H1
    clear H1
    replace H := Option.bind_eq_some_iff.mp H
    obtain ⟨t137, A40, H⟩ := H
    replace H : (some t137) = some r := H
    have A4 := Aside0.mk A40
    clear A40
    obtain rfl := Option.some.inj H
    go_enter Tryd.func18, Tryd.ntmps18
    go_wp2_with (first | ((with_reducible refine gate_dst (N := 1) rfl ?_); refine box_event ?hg (N := 1) ?hd (cs := #[.string a0_0, .string a0_1]) (t := 24) ?hr ?_; (case hd => rfl); (case hg => rfl); (case hr => first | (go_simp; done) | (go_simp; rfl)); intro gb135 hg w5 hbox hb; have n0_ := Aside0.mk (below_step (by repeat (first | (with_reducible first | exact HB.out | apply below_alloc | apply pw_below_drewN | apply below_drew1) | exact HB.out)) hb); have n1_ := Aside0.mk (hbox); have n2_ := Aside0.mk ((by rw [hg]; exact (below_size (by repeat (first | (with_reducible first | exact HB.out | apply below_alloc | apply pw_below_drewN | apply below_drew1) | exact HB.out))) : w.heap.size ≤ gb135)); have n3_ := Aside0.mk ((by rw [hg]; exact (below_size (by repeat (first | (with_reducible first | exact HB.out | apply below_alloc | apply pw_below_drewN | apply below_drew1) | exact HB.out))) : w.heap.size ≤ gb135)); clear HB; have HB := n0_; have BK135 := n1_; have GW135 := n2_; have GE135 := n3_; clear n0_ n1_ n2_ n3_; clear hb hbox hg; have hcz6_0 : w5.cell? ⟨gb135, 0, none⟩ = some (.string a0_0) := (blk_cell BK135.out 0).trans rfl; have hcz6_1 : w5.cell? ⟨gb135, 1, none⟩ = some (.string a0_1) := (blk_cell BK135.out 1).trans rfl; have hfz6_0 := blk_frozen BK135.out 0; have hfz6_1 := blk_frozen BK135.out 1) | ((with_reducible refine gate_callee (f := 30) rfl ?_); refine goesL_ (some 5) rfl rfl Tryd.func30 (by kernel_rfl) rfl #[.string a0_0] rfl (by (try simp only [List.map_toArray, List.map_cons, List.map_nil]); first | done | rfl | (simp only [List.length_drop, List.length_take]; rfl)) ?_; (with_reducible refine (path_May.calls k a0_0 true _ A2.out).mono ?_); rintro e w7 ⟨rfl, hb⟩; refine ⟨_, rfl, ?_⟩; have n0_ := Aside0.mk (blk_below (g := gb135) (o := .cells #[.string a0_0, .string a0_1] 24 (0, 0)) (by (with_reducible repeat (first | refine blk_drewN ?_ _ | refine blk_drew ?_ | refine blk_alloc ?_ _)); exact BK135.out) hb); have n1_ := Aside0.mk (below_step (by repeat (first | (with_reducible first | exact HB.out | apply below_alloc | apply pw_below_drewN | apply below_drew1 | refine below_set ?_ GE135.out) | exact HB.out)) hb); clear BK135; clear HB; have BK135 := n0_; have HB := n1_; clear n0_ n1_; (try clear hb); (try clear hb2); (try clear hk); (try clear hi); have hcz8_0 : w7.cell? ⟨gb135, 0, none⟩ = some (.string a0_0) := (blk_cell BK135.out 0).trans rfl; have hcz8_1 : w7.cell? ⟨gb135, 1, none⟩ = some (.string a0_1) := (blk_cell BK135.out 1).trans rfl; have hfz8_0 := blk_frozen BK135.out 0; have hfz8_1 := blk_frozen BK135.out 1) | (go_at_call 31; (with_reducible refine (version_May.calls a0_1 t137 _ A4.out).mono ?_); rintro e w9 ⟨rfl, hb⟩; have n0_ := Aside0.mk (blk_below (g := gb135) (o := .cells #[.string a0_0, .string a0_1] 24 (0, 0)) (by (with_reducible repeat (first | refine blk_drewN ?_ _ | refine blk_drew ?_ | refine blk_alloc ?_ _)); exact BK135.out) hb); have n1_ := Aside0.mk (below_step (by repeat (first | (with_reducible first | exact HB.out | apply below_alloc | apply pw_below_drewN | apply below_drew1 | refine below_set ?_ GE135.out) | exact HB.out)) hb); clear BK135; clear HB; have BK135 := n0_; have HB := n1_; clear n0_ n1_; (try clear hb); (try clear hb2); (try clear hk); (try clear hi)))
    go_ret
    exact ⟨by first | rfl | (simp [errW_none, errW_some] <;> rfl) | (simp [*, errW_none, errW_some] <;> rfl), by repeat (first | (with_reducible first | exact HB.out | apply below_alloc | apply pw_below_drewN | apply below_drew1 | refine below_set ?_ GE135.out) | exact HB.out)⟩
  · replace c3 := Bool.eq_false_iff.mpr c3
    subst c3
    have H1 : (some false) = some r := by rw [if_neg (show ¬ (false = true) by decide)] at H; exact H
    clear H
    have H := H1
    clear H1
    obtain rfl := Option.some.inj H
    go_enter Tryd.func18, Tryd.ntmps18
    go_wp2_with (first | ((with_reducible refine gate_dst (N := 1) rfl ?_); refine box_event ?hg (N := 1) ?hd (cs := #[.string a0_0, .string a0_1]) (t := 24) ?hr ?_; (case hd => rfl); (case hg => rfl); (case hr => first | (go_simp; done) | (go_simp; rfl)); intro gb135 hg w10 hbox hb; have n0_ := Aside0.mk (below_step (by repeat (first | (with_reducible first | exact HB.out | apply below_alloc | apply pw_below_drewN | apply below_drew1) | exact HB.out)) hb); have n1_ := Aside0.mk (hbox); have n2_ := Aside0.mk ((by rw [hg]; exact (below_size (by repeat (first | (with_reducible first | exact HB.out | apply below_alloc | apply pw_below_drewN | apply below_drew1) | exact HB.out))) : w.heap.size ≤ gb135)); have n3_ := Aside0.mk ((by rw [hg]; exact (below_size (by repeat (first | (with_reducible first | exact HB.out | apply below_alloc | apply pw_below_drewN | apply below_drew1) | exact HB.out))) : w.heap.size ≤ gb135)); clear HB; have HB := n0_; have BK135 := n1_; have GW135 := n2_; have GE135 := n3_; clear n0_ n1_ n2_ n3_; clear hb hbox hg; have hcz11_0 : w10.cell? ⟨gb135, 0, none⟩ = some (.string a0_0) := (blk_cell BK135.out 0).trans rfl; have hcz11_1 : w10.cell? ⟨gb135, 1, none⟩ = some (.string a0_1) := (blk_cell BK135.out 1).trans rfl; have hfz11_0 := blk_frozen BK135.out 0; have hfz11_1 := blk_frozen BK135.out 1) | ((with_reducible refine gate_callee (f := 30) rfl ?_); refine goesL_ (some 5) rfl rfl Tryd.func30 (by kernel_rfl) rfl #[.string a0_0] rfl (by (try simp only [List.map_toArray, List.map_cons, List.map_nil]); first | done | rfl | (simp only [List.length_drop, List.length_take]; rfl)) ?_; (with_reducible refine (path_May.calls k a0_0 false _ A2.out).mono ?_); rintro e w12 ⟨rfl, hb⟩; refine ⟨_, rfl, ?_⟩; have n0_ := Aside0.mk (blk_below (g := gb135) (o := .cells #[.string a0_0, .string a0_1] 24 (0, 0)) (by (with_reducible repeat (first | refine blk_drewN ?_ _ | refine blk_drew ?_ | refine blk_alloc ?_ _)); exact BK135.out) hb); have n1_ := Aside0.mk (below_step (by repeat (first | (with_reducible first | exact HB.out | apply below_alloc | apply pw_below_drewN | apply below_drew1 | refine below_set ?_ GE135.out) | exact HB.out)) hb); clear BK135; clear HB; have BK135 := n0_; have HB := n1_; clear n0_ n1_; (try clear hb); (try clear hb2); (try clear hk); (try clear hi)))
    go_ret
    exact ⟨by first | rfl | (simp [errW_none, errW_some] <;> rfl) | (simp [*, errW_none, errW_some] <;> rfl), by repeat (first | (with_reducible first | exact HB.out | apply below_alloc | apply pw_below_drewN | apply below_drew1 | refine below_set ?_ GE135.out) | exact HB.out)⟩
end Go.Proofs.YtodkjmbmlobihaaDoor.Q
end

section
namespace Go.Proofs.YtodkjmbmlobihaaDoor.Q
open Go.Proofs.YtodkjmbmlobihaaDoor.QB.D
open Go.RowKit Go.Proofs.YtodkjmbmlobihaaDoorW.PrintWords Go.Proofs.YtodkjmbmlobihaaDoorW.PrintLast Go.Proofs.YtodkjmbmlobihaaDoorW.PrintMore
attribute [local go_sem] max2_int min2_int max_two min_two max_three min_three max_four min_four   -- for this text's walks alone
set_option linter.unusedVariables false
set_option linter.unusedSimpArgs false
attribute [local go_sem high] eqA24
/-! ### node_Cmp: function 33 -/
def node_Cmp.f (k : Nat) (a0_0 : ByteArray) (a0_1 : ByteArray) (a1_0 : ByteArray) (a1_1 : ByteArray) : Option (Int × Int) := (node_May.f k a0_0 a0_1).bind fun t169 => (if t169 = true then ((node_May.f k a1_0 a1_1).bind fun t170 => (if t170 = true then ((node_order.f k a0_0 a0_1 a1_0 a1_1).bind fun t171 => (some (t171, 0))) else (some (0, 1)))) else (some (0, 1)))
theorem node_Cmp.mono : ∀ a0 a1 a2 a3 k, LeO (node_Cmp.f k a0 a1 a2 a3) (node_Cmp.f (k + 1) a0 a1 a2 a3) := by
  intro a0 a1 a2 a3 k
  unfold node_Cmp.f
  repeat' first
      | (with_reducible exact node_May.mono _ _ _)
      | (with_reducible exact node_order.mono _ _ _ _ _)
      | (with_reducible exact LeO.refl _)
      | (with_reducible exact LeO.none _)
      | (with_reducible refine LeO.ite ?_ ?_)
      | (with_reducible refine LeO.bind ?_ (fun _ => ?_))
      | exact node_May.mono _ _ _
      | exact node_order.mono _ _ _ _ _
      | exact LeO.none _
      | refine LeO.ite ?_ ?_
      | refine LeO.bind ?_ (fun _ => ?_)
set_option maxHeartbeats 8000000 in
set_option maxRecDepth 100000 in
theorem node_Cmp.calls (k : Nat) (a0_0 : ByteArray) (a0_1 : ByteArray) (a1_0 : ByteArray) (a1_1 : ByteArray) (r1 : Int) (r2 : Int) (w : World) (h : node_Cmp.f k a0_0 a0_1 a1_0 a1_1 = some (r1, r2)) :
    Calls Tryd.prog 33 #[.agg #[.string a0_0, .string a0_1], .agg #[.string a1_0, .string a1_1]] w fun e w' => e = .returned (.tuple #[.int .i64 r1, .int .i64 r2]) ∧ Below w.heap.size w w' := by
  have hu24 := Tryd.underlying24
  have HB := Aside0.mk (Below.refl w.heap.size w)
  have H : ((node_May.f k a0_0 a0_1).bind fun t169 => (if t169 = true then ((node_May.f k a1_0 a1_1).bind fun t170 => (if t170 = true then ((node_order.f k a0_0 a0_1 a1_0 a1_1).bind fun t171 => (some (t171, 0))) else (some (0, 1)))) else (some (0, 1)))) = some (r1, r2) := h
  clear h
  replace H := Option.bind_eq_some_iff.mp H
  obtain ⟨t169, A30, H⟩ := H
  replace H : (if t169 = true then ((node_May.f k a1_0 a1_1).bind fun t170 => (if t170 = true then ((node_order.f k a0_0 a0_1 a1_0 a1_1).bind fun t171 => (some (t171, 0))) else (some (0, 1)))) else (some (0, 1))) = some (r1, r2) := H
  have A3 := Aside0.mk A30
  clear A30
  by_cases c4 : t169 = true
  · subst c4
    have H1 : ((node_May.f k a1_0 a1_1).bind fun t170 => (if t170 = true then ((node_order.f k a0_0 a0_1 a1_0 a1_1).bind fun t171 => (some (t171, 0))) else (some (0, 1)))) = some (r1, r2) := by rw [if_pos rfl] at H; exact H
    clear H
    have H := H1
    clear H1
    replace H := Option.bind_eq_some_iff.mp H
    obtain ⟨t170, A50, H⟩ := H
    replace H : (if t170 = true then ((node_order.f k a0_0 a0_1 a1_0 a1_1).bind fun t171 => (some (t171, 0))) else (some (0, 1))) = some (r1, r2) := H
    have A5 := Aside0.mk A50
    clear A50
    by_cases c6 : t170 = true
    · subst c6
      have H1 : ((node_order.f k a0_0 a0_1 a1_0 a1_1).bind fun t171 => (some (t171, 0))) = some (r1, r2) := by rw [if_pos rfl] at H; exact H
      clear H
      have H := H1
      clear H1
      replace H := Option.bind_eq_some_iff.mp H
      obtain ⟨t171, A70, H⟩ := H
      replace H : (some (t171, 0)) = some (r1, r2) := H
      have A7 := Aside0.mk A70
      clear A70
      simp only [Option.some.injEq, Prod.mk.injEq] at H
      obtain ⟨rfl, rfl⟩ := H
      go_enter Tryd.func33, Tryd.ntmps33
      go_wp2_with (first | ((with_reducible refine gate_dst (N := 2) rfl ?_); refine box_event ?hg (N := 2) ?hd (cs := #[.string a0_0, .string a0_1]) (t := 24) ?hr ?_; (case hd => rfl); (case hg => rfl); (case hr => first | (go_simp; done) | (go_simp; rfl)); intro gb167 hg w8 hbox hb; have n0_ := Aside0.mk (below_step (by repeat (first | (with_reducible first | exact HB.out | apply below_alloc | apply pw_below_drewN | apply below_drew1) | exact HB.out)) hb); have n1_ := Aside0.mk (hbox); have n2_ := Aside0.mk ((by rw [hg]; exact (below_size (by repeat (first | (with_reducible first | exact HB.out | apply below_alloc | apply pw_below_drewN | apply below_drew1) | exact HB.out))) : w.heap.size ≤ gb167)); have n3_ := Aside0.mk ((by rw [hg]; exact (below_size (by repeat (first | (with_reducible first | exact HB.out | apply below_alloc | apply pw_below_drewN | apply below_drew1) | exact HB.out))) : w.heap.size ≤ gb167)); clear HB; have HB := n0_; have BK167 := n1_; have GW167 := n2_; have GE167 := n3_; clear n0_ n1_ n2_ n3_; clear hb hbox hg) | ((with_reducible refine gate_dst (N := 3) rfl ?_); refine box_event ?hg (N := 3) ?hd (cs := #[.string a1_0, .string a1_1]) (t := 24) ?hr ?_; (case hd => rfl); (case hg => rfl); (case hr => first | (go_simp; done) | (go_simp; rfl)); intro gb168 hg w9 hbox hb; have n0_ := Aside0.mk (blk_below (g := gb167) (o := .cells #[.string a0_0, .string a0_1] 24 (0, 0)) (by (with_reducible repeat (first | refine blk_drewN ?_ _ | refine blk_drew ?_ | refine blk_alloc ?_ _)); exact BK167.out) hb); have n1_ := Aside0.mk (below_step (by repeat (first | (with_reducible first | exact HB.out | apply below_alloc | apply pw_below_drewN | apply below_drew1 | refine below_set ?_ GE167.out) | exact HB.out)) hb); have n2_ := Aside0.mk (hbox); have n3_ := Aside0.mk ((by rw [hg]; exact (below_size (by repeat (first | (with_reducible first | exact HB.out | apply below_alloc | apply pw_below_drewN | apply below_drew1 | refine below_set ?_ GE167.out) | exact HB.out))) : w.heap.size ≤ gb168)); have n4_ := Aside0.mk ((by rw [hg]; exact (below_size (by repeat (first | (with_reducible first | exact HB.out | apply below_alloc | apply pw_below_drewN | apply below_drew1 | refine below_set ?_ GE167.out) | exact HB.out))) : w.heap.size ≤ gb168)); have n5_ := Aside0.mk ((by rw [hg]; exact Nat.ne_of_lt (blk_lt (g := gb167) (o := .cells #[.string a0_0, .string a0_1] 24 (0, 0)) (by (with_reducible repeat (first | refine blk_drewN ?_ _ | refine blk_drew ?_ | refine blk_alloc ?_ _)); exact BK167.out)) : gb167 ≠ gb168)); have n6_ := Aside0.mk ((by rw [hg]; exact Nat.ne_of_gt (blk_lt (g := gb167) (o := .cells #[.string a0_0, .string a0_1] 24 (0, 0)) (by (with_reducible repeat (first | refine blk_drewN ?_ _ | refine blk_drew ?_ | refine blk_alloc ?_ _)); exact BK167.out)) : gb168 ≠ gb167)); clear BK167; clear HB; have BK167 := n0_; have HB := n1_; have BK168 := n2_; have GW168 := n3_; have GE168 := n4_; have NB167_168 := n5_; have NB168_167 := n6_; clear n0_ n1_ n2_ n3_ n4_ n5_ n6_; clear hb hbox hg; have hnb10 := NB167_168.out; have hnc10 := NB168_167.out; have hcz11_0 : w9.cell? ⟨gb167, 0, none⟩ = some (.string a0_0) := (blk_cell BK167.out 0).trans rfl; have hcz11_1 : w9.cell? ⟨gb167, 1, none⟩ = some (.string a0_1) := (blk_cell BK167.out 1).trans rfl; have hfz11_0 := blk_frozen BK167.out 0; have hfz11_1 := blk_frozen BK167.out 1) | ((with_reducible refine gate_callee (f := 18) rfl ?_); refine goesL_ (some 7) rfl rfl Tryd.func18 (by kernel_rfl) rfl #[.agg #[.string a0_0, .string a0_1]] rfl (by (try simp only [List.map_toArray, List.map_cons, List.map_nil]); first | done | rfl | (simp only [List.length_drop, List.length_take]; rfl)) ?_; (with_reducible refine (node_May.calls k a0_0 a0_1 true _ A3.out).mono ?_); rintro e w12 ⟨rfl, hb⟩; refine ⟨_, rfl, ?_⟩; have n0_ := Aside0.mk (blk_below (g := gb167) (o := .cells #[.string a0_0, .string a0_1] 24 (0, 0)) (by (with_reducible repeat (first | refine blk_drewN ?_ _ | refine blk_drew ?_ | refine blk_alloc ?_ _)); exact BK167.out) hb); have n1_ := Aside0.mk (blk_below (g := gb168) (o := .cells #[.string a1_0, .string a1_1] 24 (0, 0)) (by (with_reducible repeat (first | refine blk_drewN ?_ _ | refine blk_drew ?_ | refine blk_alloc ?_ _)); exact BK168.out) hb); have n2_ := Aside0.mk (below_step (by repeat (first | (with_reducible first | exact HB.out | apply below_alloc | apply pw_below_drewN | apply below_drew1 | refine below_set ?_ GE167.out | refine below_set ?_ GE168.out) | exact HB.out)) hb); clear BK167; clear BK168; clear HB; have BK167 := n0_; have BK168 := n1_; have HB := n2_; clear n0_ n1_ n2_; (try clear hb); (try clear hb2); (try clear hk); (try clear hi); have hcz13_0 : w12.cell? ⟨gb168, 0, none⟩ = some (.string a1_0) := (blk_cell BK168.out 0).trans rfl; have hcz13_1 : w12.cell? ⟨gb168, 1, none⟩ = some (.string a1_1) := (blk_cell BK168.out 1).trans rfl; have hfz13_0 := blk_frozen BK168.out 0; have hfz13_1 := blk_frozen BK168.out 1) | (go_at_call 18; (with_reducible refine (node_May.calls k a1_0 a1_1 true _ A5.out).mono ?_); rintro e w14 ⟨rfl, hb⟩; have n0_ := Aside0.mk (blk_below (g := gb167) (o := .cells #[.string a0_0, .string a0_1] 24 (0, 0)) (by (with_reducible repeat (first | refine blk_drewN ?_ _ | refine blk_drew ?_ | refine blk_alloc ?_ _)); exact BK167.out) hb); have n1_ := Aside0.mk (blk_below (g := gb168) (o := .cells #[.string a1_0, .string a1_1] 24 (0, 0)) (by (with_reducible repeat (first | refine blk_drewN ?_ _ | refine blk_drew ?_ | refine blk_alloc ?_ _)); exact BK168.out) hb); have n2_ := Aside0.mk (below_step (by repeat (first | (with_reducible first | exact HB.out | apply below_alloc | apply pw_below_drewN | apply below_drew1 | refine below_set ?_ GE167.out | refine below_set ?_ GE168.out) | exact HB.out)) hb); clear BK167; clear BK168; clear HB; have BK167 := n0_; have BK168 := n1_; have HB := n2_; clear n0_ n1_ n2_; (try clear hb); (try clear hb2); (try clear hk); (try clear hi); have hcz15_0 : w14.cell? ⟨gb167, 0, none⟩ = some (.string a0_0) := (blk_cell BK167.out 0).trans rfl; have hcz15_1 : w14.cell? ⟨gb167, 1, none⟩ = some (.string a0_1) := (blk_cell BK167.out 1).trans rfl; have hfz15_0 := blk_frozen BK167.out 0; have hfz15_1 := blk_frozen BK167.out 1; have hcz16_0 : w14.cell? ⟨gb168, 0, none⟩ = some (.string a1_0) := (blk_cell BK168.out 0).trans rfl; have hcz16_1 : w14.cell? ⟨gb168, 1, none⟩ = some (.string a1_1) := (blk_cell BK168.out 1).trans rfl; have hfz16_0 := blk_frozen BK168.out 0; have hfz16_1 := blk_frozen BK168.out 1) | ((with_reducible refine gate_callee (f := 45) rfl ?_); refine goesL_ (some 16) rfl rfl Tryd.func45 (by kernel_rfl) rfl #[.agg #[.string a0_0, .string a0_1], .agg #[.string a1_0, .string a1_1]] rfl (by (try simp only [List.map_toArray, List.map_cons, List.map_nil]); first | done | rfl | (simp only [List.length_drop, List.length_take]; rfl)) ?_; (with_reducible refine (node_order.calls k a0_0 a0_1 a1_0 a1_1 t171 _ A7.out).mono ?_); rintro e w17 ⟨rfl, hb⟩; refine ⟨_, rfl, ?_⟩; have n0_ := Aside0.mk (blk_below (g := gb167) (o := .cells #[.string a0_0, .string a0_1] 24 (0, 0)) (by (with_reducible repeat (first | refine blk_drewN ?_ _ | refine blk_drew ?_ | refine blk_alloc ?_ _)); exact BK167.out) hb); have n1_ := Aside0.mk (blk_below (g := gb168) (o := .cells #[.string a1_0, .string a1_1] 24 (0, 0)) (by (with_reducible repeat (first | refine blk_drewN ?_ _ | refine blk_drew ?_ | refine blk_alloc ?_ _)); exact BK168.out) hb); have n2_ := Aside0.mk (below_step (by repeat (first | (with_reducible first | exact HB.out | apply below_alloc | apply pw_below_drewN | apply below_drew1 | refine below_set ?_ GE167.out | refine below_set ?_ GE168.out) | exact HB.out)) hb); clear BK167; clear BK168; clear HB; have BK167 := n0_; have BK168 := n1_; have HB := n2_; clear n0_ n1_ n2_; (try clear hb); (try clear hb2); (try clear hk); (try clear hi)))
      go_ret2
      exact ⟨by first | rfl | (simp [errW_none, errW_some] <;> rfl) | (simp [*, errW_none, errW_some] <;> rfl), by repeat (first | (with_reducible first | exact HB.out | apply below_alloc | apply pw_below_drewN | apply below_drew1 | refine below_set ?_ GE167.out | refine below_set ?_ GE168.out) | exact HB.out)⟩
    · replace c6 := Bool.eq_false_iff.mpr c6
      subst c6
      have H1 : (some (0, 1)) = some (r1, r2) := by rw [if_neg (show ¬ (false = true) by decide)] at H; exact H
      clear H
      have H := H1
      clear H1
      simp only [Option.some.injEq, Prod.mk.injEq] at H
      obtain ⟨rfl, rfl⟩ := H
      go_enter Tryd.func33, Tryd.ntmps33
      go_wp2_with (first | ((with_reducible refine gate_dst (N := 2) rfl ?_); refine box_event ?hg (N := 2) ?hd (cs := #[.string a0_0, .string a0_1]) (t := 24) ?hr ?_; (case hd => rfl); (case hg => rfl); (case hr => first | (go_simp; done) | (go_simp; rfl)); intro gb167 hg w18 hbox hb; have n0_ := Aside0.mk (below_step (by repeat (first | (with_reducible first | exact HB.out | apply below_alloc | apply pw_below_drewN | apply below_drew1) | exact HB.out)) hb); have n1_ := Aside0.mk (hbox); have n2_ := Aside0.mk ((by rw [hg]; exact (below_size (by repeat (first | (with_reducible first | exact HB.out | apply below_alloc | apply pw_below_drewN | apply below_drew1) | exact HB.out))) : w.heap.size ≤ gb167)); have n3_ := Aside0.mk ((by rw [hg]; exact (below_size (by repeat (first | (with_reducible first | exact HB.out | apply below_alloc | apply pw_below_drewN | apply below_drew1) | exact HB.out))) : w.heap.size ≤ gb167)); clear HB; have HB := n0_; have BK167 := n1_; have GW167 := n2_; have GE167 := n3_; clear n0_ n1_ n2_ n3_; clear hb hbox hg) | ((with_reducible refine gate_dst (N := 3) rfl ?_); refine box_event ?hg (N := 3) ?hd (cs := #[.string a1_0, .string a1_1]) (t := 24) ?hr ?_; (case hd => rfl); (case hg => rfl); (case hr => first | (go_simp; done) | (go_simp; rfl)); intro gb168 hg w19 hbox hb; have n0_ := Aside0.mk (blk_below (g := gb167) (o := .cells #[.string a0_0, .string a0_1] 24 (0, 0)) (by (with_reducible repeat (first | refine blk_drewN ?_ _ | refine blk_drew ?_ | refine blk_alloc ?_ _)); exact BK167.out) hb); have n1_ := Aside0.mk (below_step (by repeat (first | (with_reducible first | exact HB.out | apply below_alloc | apply pw_below_drewN | apply below_drew1 | refine below_set ?_ GE167.out) | exact HB.out)) hb); have n2_ := Aside0.mk (hbox); have n3_ := Aside0.mk ((by rw [hg]; exact (below_size (by repeat (first | (with_reducible first | exact HB.out | apply below_alloc | apply pw_below_drewN | apply below_drew1 | refine below_set ?_ GE167.out) | exact HB.out))) : w.heap.size ≤ gb168)); have n4_ := Aside0.mk ((by rw [hg]; exact (below_size (by repeat (first | (with_reducible first | exact HB.out | apply below_alloc | apply pw_below_drewN | apply below_drew1 | refine below_set ?_ GE167.out) | exact HB.out))) : w.heap.size ≤ gb168)); have n5_ := Aside0.mk ((by rw [hg]; exact Nat.ne_of_lt (blk_lt (g := gb167) (o := .cells #[.string a0_0, .string a0_1] 24 (0, 0)) (by (with_reducible repeat (first | refine blk_drewN ?_ _ | refine blk_drew ?_ | refine blk_alloc ?_ _)); exact BK167.out)) : gb167 ≠ gb168)); have n6_ := Aside0.mk ((by rw [hg]; exact Nat.ne_of_gt (blk_lt (g := gb167) (o := .cells #[.string a0_0, .string a0_1] 24 (0, 0)) (by (with_reducible repeat (first | refine blk_drewN ?_ _ | refine blk_drew ?_ | refine blk_alloc ?_ _)); exact BK167.out)) : gb168 ≠ gb167)); clear BK167; clear HB; have BK167 := n0_; have HB := n1_; have BK168 := n2_; have GW168 := n3_; have GE168 := n4_; have NB167_168 := n5_; have NB168_167 := n6_; clear n0_ n1_ n2_ n3_ n4_ n5_ n6_; clear hb hbox hg; have hnb20 := NB167_168.out; have hnc20 := NB168_167.out; have hcz21_0 : w19.cell? ⟨gb167, 0, none⟩ = some (.string a0_0) := (blk_cell BK167.out 0).trans rfl; have hcz21_1 : w19.cell? ⟨gb167, 1, none⟩ = some (.string a0_1) := (blk_cell BK167.out 1).trans rfl; have hfz21_0 := blk_frozen BK167.out 0; have hfz21_1 := blk_frozen BK167.out 1) | ((with_reducible refine gate_callee (f := 18) rfl ?_); refine goesL_ (some 7) rfl rfl Tryd.func18 (by kernel_rfl) rfl #[.agg #[.string a0_0, .string a0_1]] rfl (by (try simp only [List.map_toArray, List.map_cons, List.map_nil]); first | done | rfl | (simp only [List.length_drop, List.length_take]; rfl)) ?_; (with_reducible refine (node_May.calls k a0_0 a0_1 true _ A3.out).mono ?_); rintro e w22 ⟨rfl, hb⟩; refine ⟨_, rfl, ?_⟩; have n0_ := Aside0.mk (blk_below (g := gb167) (o := .cells #[.string a0_0, .string a0_1] 24 (0, 0)) (by (with_reducible repeat (first | refine blk_drewN ?_ _ | refine blk_drew ?_ | refine blk_alloc ?_ _)); exact BK167.out) hb); have n1_ := Aside0.mk (blk_below (g := gb168) (o := .cells #[.string a1_0, .string a1_1] 24 (0, 0)) (by (with_reducible repeat (first | refine blk_drewN ?_ _ | refine blk_drew ?_ | refine blk_alloc ?_ _)); exact BK168.out) hb); have n2_ := Aside0.mk (below_step (by repeat (first | (with_reducible first | exact HB.out | apply below_alloc | apply pw_below_drewN | apply below_drew1 | refine below_set ?_ GE167.out | refine below_set ?_ GE168.out) | exact HB.out)) hb); clear BK167; clear BK168; clear HB; have BK167 := n0_; have BK168 := n1_; have HB := n2_; clear n0_ n1_ n2_; (try clear hb); (try clear hb2); (try clear hk); (try clear hi); have hcz23_0 : w22.cell? ⟨gb168, 0, none⟩ = some (.string a1_0) := (blk_cell BK168.out 0).trans rfl; have hcz23_1 : w22.cell? ⟨gb168, 1, none⟩ = some (.string a1_1) := (blk_cell BK168.out 1).trans rfl; have hfz23_0 := blk_frozen BK168.out 0; have hfz23_1 := blk_frozen BK168.out 1) | (go_at_call 18; (with_reducible refine (node_May.calls k a1_0 a1_1 false _ A5.out).mono ?_); rintro e w24 ⟨rfl, hb⟩; have n0_ := Aside0.mk (blk_below (g := gb167) (o := .cells #[.string a0_0, .string a0_1] 24 (0, 0)) (by (with_reducible repeat (first | refine blk_drewN ?_ _ | refine blk_drew ?_ | refine blk_alloc ?_ _)); exact BK167.out) hb); have n1_ := Aside0.mk (blk_below (g := gb168) (o := .cells #[.string a1_0, .string a1_1] 24 (0, 0)) (by (with_reducible repeat (first | refine blk_drewN ?_ _ | refine blk_drew ?_ | refine blk_alloc ?_ _)); exact BK168.out) hb); have n2_ := Aside0.mk (below_step (by repeat (first | (with_reducible first | exact HB.out | apply below_alloc | apply pw_below_drewN | apply below_drew1 | refine below_set ?_ GE167.out | refine below_set ?_ GE168.out) | exact HB.out)) hb); clear BK167; clear BK168; clear HB; have BK167 := n0_; have BK168 := n1_; have HB := n2_; clear n0_ n1_ n2_; (try clear hb); (try clear hb2); (try clear hk); (try clear hi)))
      go_ret2
      exact ⟨by first | rfl | (simp [errW_none, errW_some] <;> rfl) | (simp [*, errW_none, errW_some] <;> rfl), by repeat (first | (with_reducible first | exact HB.out | apply below_alloc | apply pw_below_drewN | apply below_drew1 | refine below_set ?_ GE167.out | refine below_set ?_ GE168.out) | exact HB.out)⟩
  · replace c4 := Bool.eq_false_iff.mpr c4
    subst c4
    have H1 : (some (0, 1)) = some (r1, r2) := by rw [if_neg (show ¬ (false = true) by decide)] at H; exact H
    clear H
    have H := H1
    clear H1
    simp only [Option.some.injEq, Prod.mk.injEq] at H
    obtain ⟨rfl, rfl⟩ := H
    go_enter Tryd.func33, Tryd.ntmps33
    go_wp2_with (first | ((with_reducible refine gate_dst (N := 2) rfl ?_); refine box_event ?hg (N := 2) ?hd (cs := #[.string a0_0, .string a0_1]) (t := 24) ?hr ?_; (case hd => rfl); (case hg => rfl); (case hr => first | (go_simp; done) | (go_simp; rfl)); intro gb167 hg w25 hbox hb; have n0_ := Aside0.mk (below_step (by repeat (first | (with_reducible first | exact HB.out | apply below_alloc | apply pw_below_drewN | apply below_drew1) | exact HB.out)) hb); have n1_ := Aside0.mk (hbox); have n2_ := Aside0.mk ((by rw [hg]; exact (below_size (by repeat (first | (with_reducible first | exact HB.out | apply below_alloc | apply pw_below_drewN | apply below_drew1) | exact HB.out))) : w.heap.size ≤ gb167)); have n3_ := Aside0.mk ((by rw [hg]; exact (below_size (by repeat (first | (with_reducible first | exact HB.out | apply below_alloc | apply pw_below_drewN | apply below_drew1) | exact HB.out))) : w.heap.size ≤ gb167)); clear HB; have HB := n0_; have BK167 := n1_; have GW167 := n2_; have GE167 := n3_; clear n0_ n1_ n2_ n3_; clear hb hbox hg) | ((with_reducible refine gate_dst (N := 3) rfl ?_); refine box_event ?hg (N := 3) ?hd (cs := #[.string a1_0, .string a1_1]) (t := 24) ?hr ?_; (case hd => rfl); (case hg => rfl); (case hr => first | (go_simp; done) | (go_simp; rfl)); intro gb168 hg w26 hbox hb; have n0_ := Aside0.mk (blk_below (g := gb167) (o := .cells #[.string a0_0, .string a0_1] 24 (0, 0)) (by (with_reducible repeat (first | refine blk_drewN ?_ _ | refine blk_drew ?_ | refine blk_alloc ?_ _)); exact BK167.out) hb); have n1_ := Aside0.mk (below_step (by repeat (first | (with_reducible first | exact HB.out | apply below_alloc | apply pw_below_drewN | apply below_drew1 | refine below_set ?_ GE167.out) | exact HB.out)) hb); have n2_ := Aside0.mk (hbox); have n3_ := Aside0.mk ((by rw [hg]; exact (below_size (by repeat (first | (with_reducible first | exact HB.out | apply below_alloc | apply pw_below_drewN | apply below_drew1 | refine below_set ?_ GE167.out) | exact HB.out))) : w.heap.size ≤ gb168)); have n4_ := Aside0.mk ((by rw [hg]; exact (below_size (by repeat (first | (with_reducible first | exact HB.out | apply below_alloc | apply pw_below_drewN | apply below_drew1 | refine below_set ?_ GE167.out) | exact HB.out))) : w.heap.size ≤ gb168)); have n5_ := Aside0.mk ((by rw [hg]; exact Nat.ne_of_lt (blk_lt (g := gb167) (o := .cells #[.string a0_0, .string a0_1] 24 (0, 0)) (by (with_reducible repeat (first | refine blk_drewN ?_ _ | refine blk_drew ?_ | refine blk_alloc ?_ _)); exact BK167.out)) : gb167 ≠ gb168)); have n6_ := Aside0.mk ((by rw [hg]; exact Nat.ne_of_gt (blk_lt (g := gb167) (o := .cells #[.string a0_0, .string a0_1] 24 (0, 0)) (by (with_reducible repeat (first | refine blk_drewN ?_ _ | refine blk_drew ?_ | refine blk_alloc ?_ _)); exact BK167.out)) : gb168 ≠ gb167)); clear BK167; clear HB; have BK167 := n0_; have HB := n1_; have BK168 := n2_; have GW168 := n3_; have GE168 := n4_; have NB167_168 := n5_; have NB168_167 := n6_; clear n0_ n1_ n2_ n3_ n4_ n5_ n6_; clear hb hbox hg; have hnb27 := NB167_168.out; have hnc27 := NB168_167.out; have hcz28_0 : w26.cell? ⟨gb167, 0, none⟩ = some (.string a0_0) := (blk_cell BK167.out 0).trans rfl; have hcz28_1 : w26.cell? ⟨gb167, 1, none⟩ = some (.string a0_1) := (blk_cell BK167.out 1).trans rfl; have hfz28_0 := blk_frozen BK167.out 0; have hfz28_1 := blk_frozen BK167.out 1) | ((with_reducible refine gate_callee (f := 18) rfl ?_); refine goesL_ (some 7) rfl rfl Tryd.func18 (by kernel_rfl) rfl #[.agg #[.string a0_0, .string a0_1]] rfl (by (try simp only [List.map_toArray, List.map_cons, List.map_nil]); first | done | rfl | (simp only [List.length_drop, List.length_take]; rfl)) ?_; (with_reducible refine (node_May.calls k a0_0 a0_1 false _ A3.out).mono ?_); rintro e w29 ⟨rfl, hb⟩; refine ⟨_, rfl, ?_⟩; have n0_ := Aside0.mk (blk_below (g := gb167) (o := .cells #[.string a0_0, .string a0_1] 24 (0, 0)) (by (with_reducible repeat (first | refine blk_drewN ?_ _ | refine blk_drew ?_ | refine blk_alloc ?_ _)); exact BK167.out) hb); have n1_ := Aside0.mk (blk_below (g := gb168) (o := .cells #[.string a1_0, .string a1_1] 24 (0, 0)) (by (with_reducible repeat (first | refine blk_drewN ?_ _ | refine blk_drew ?_ | refine blk_alloc ?_ _)); exact BK168.out) hb); have n2_ := Aside0.mk (below_step (by repeat (first | (with_reducible first | exact HB.out | apply below_alloc | apply pw_below_drewN | apply below_drew1 | refine below_set ?_ GE167.out | refine below_set ?_ GE168.out) | exact HB.out)) hb); clear BK167; clear BK168; clear HB; have BK167 := n0_; have BK168 := n1_; have HB := n2_; clear n0_ n1_ n2_; (try clear hb); (try clear hb2); (try clear hk); (try clear hi)))
    go_ret2
    exact ⟨by first | rfl | (simp [errW_none, errW_some] <;> rfl) | (simp [*, errW_none, errW_some] <;> rfl), by repeat (first | (with_reducible first | exact HB.out | apply below_alloc | apply pw_below_drewN | apply below_drew1 | refine below_set ?_ GE167.out | refine below_set ?_ GE168.out) | exact HB.out)⟩
end Go.Proofs.YtodkjmbmlobihaaDoor.Q
end

section
namespace Go.Proofs.YtodkjmbmlobihaaDoor.Q
open Go.RowKit Go.Proofs.YtodkjmbmlobihaaDoorW.PrintWords Go.Proofs.YtodkjmbmlobihaaDoorW.PrintLast Go.Proofs.YtodkjmbmlobihaaDoorW.PrintMore
attribute [local go_sem] max2_int min2_int max_two min_two max_three min_three max_four min_four   -- for this text's walks alone
set_option linter.unusedVariables false
set_option linter.unusedSimpArgs false
attribute [local go_sem high] eqA24
/-! ### why_order: function 21 -/
def why_order.f (k : Nat) (a0_0 : ByteArray) (a0_1 : ByteArray) (a1_0 : ByteArray) (a1_1 : ByteArray) : Option (Int) := (node_Cmp.f k a0_0 a0_1 a1_0 a1_1).bind fun bt174 => (some bt174.1)
theorem why_order.mono : ∀ a0 a1 a2 a3 k, LeO (why_order.f k a0 a1 a2 a3) (why_order.f (k + 1) a0 a1 a2 a3) := by
  intro a0 a1 a2 a3 k
  unfold why_order.f
  repeat' first
      | (with_reducible exact node_Cmp.mono _ _ _ _ _)
      | (with_reducible exact LeO.refl _)
      | (with_reducible exact LeO.none _)
      | (with_reducible refine LeO.ite ?_ ?_)
      | (with_reducible refine LeO.bind ?_ (fun _ => ?_))
      | exact node_Cmp.mono _ _ _ _ _
      | exact LeO.none _
      | refine LeO.ite ?_ ?_
      | refine LeO.bind ?_ (fun _ => ?_)
set_option maxHeartbeats 8000000 in
set_option maxRecDepth 100000 in
theorem why_order.calls (k : Nat) (a0_0 : ByteArray) (a0_1 : ByteArray) (a1_0 : ByteArray) (a1_1 : ByteArray) (r : Int) (w : World) (h : why_order.f k a0_0 a0_1 a1_0 a1_1 = some r) :
    Calls Tryd.prog 21 #[.agg #[.string a0_0, .string a0_1], .agg #[.string a1_0, .string a1_1]] w fun e w' => e = .returned (.int .i64 r) ∧ Below w.heap.size w w' := by
  have hu24 := Tryd.underlying24
  have HB := Aside0.mk (Below.refl w.heap.size w)
  have H : ((node_Cmp.f k a0_0 a0_1 a1_0 a1_1).bind fun bt174 => (some bt174.1)) = some r := h
  clear h
  replace H := Option.bind_eq_some_iff.mp H
  obtain ⟨⟨t174, t175⟩, A30, H⟩ := H
  replace H : (some t174) = some r := H
  have A3 := Aside0.mk A30
  clear A30
  obtain rfl := Option.some.inj H
  go_enter Tryd.func21, Tryd.ntmps21
  go_wp2_with (first | ((with_reducible refine gate_dst (N := 2) rfl ?_); refine box_event ?hg (N := 2) ?hd (cs := #[.string a0_0, .string a0_1]) (t := 24) ?hr ?_; (case hd => rfl); (case hg => rfl); (case hr => first | (go_simp; done) | (go_simp; rfl)); intro gb172 hg w4 hbox hb; have n0_ := Aside0.mk (below_step (by repeat (first | (with_reducible first | exact HB.out | apply below_alloc | apply pw_below_drewN | apply below_drew1) | exact HB.out)) hb); have n1_ := Aside0.mk (hbox); have n2_ := Aside0.mk ((by rw [hg]; exact (below_size (by repeat (first | (with_reducible first | exact HB.out | apply below_alloc | apply pw_below_drewN | apply below_drew1) | exact HB.out))) : w.heap.size ≤ gb172)); have n3_ := Aside0.mk ((by rw [hg]; exact (below_size (by repeat (first | (with_reducible first | exact HB.out | apply below_alloc | apply pw_below_drewN | apply below_drew1) | exact HB.out))) : w.heap.size ≤ gb172)); clear HB; have HB := n0_; have BK172 := n1_; have GW172 := n2_; have GE172 := n3_; clear n0_ n1_ n2_ n3_; clear hb hbox hg) | ((with_reducible refine gate_dst (N := 3) rfl ?_); refine box_event ?hg (N := 3) ?hd (cs := #[.string a1_0, .string a1_1]) (t := 24) ?hr ?_; (case hd => rfl); (case hg => rfl); (case hr => first | (go_simp; done) | (go_simp; rfl)); intro gb173 hg w5 hbox hb; have n0_ := Aside0.mk (blk_below (g := gb172) (o := .cells #[.string a0_0, .string a0_1] 24 (0, 0)) (by (with_reducible repeat (first | refine blk_drewN ?_ _ | refine blk_drew ?_ | refine blk_alloc ?_ _)); exact BK172.out) hb); have n1_ := Aside0.mk (below_step (by repeat (first | (with_reducible first | exact HB.out | apply below_alloc | apply pw_below_drewN | apply below_drew1 | refine below_set ?_ GE172.out) | exact HB.out)) hb); have n2_ := Aside0.mk (hbox); have n3_ := Aside0.mk ((by rw [hg]; exact (below_size (by repeat (first | (with_reducible first | exact HB.out | apply below_alloc | apply pw_below_drewN | apply below_drew1 | refine below_set ?_ GE172.out) | exact HB.out))) : w.heap.size ≤ gb173)); have n4_ := Aside0.mk ((by rw [hg]; exact (below_size (by repeat (first | (with_reducible first | exact HB.out | apply below_alloc | apply pw_below_drewN | apply below_drew1 | refine below_set ?_ GE172.out) | exact HB.out))) : w.heap.size ≤ gb173)); have n5_ := Aside0.mk ((by rw [hg]; exact Nat.ne_of_lt (blk_lt (g := gb172) (o := .cells #[.string a0_0, .string a0_1] 24 (0, 0)) (by (with_reducible repeat (first | refine blk_drewN ?_ _ | refine blk_drew ?_ | refine blk_alloc ?_ _)); exact BK172.out)) : gb172 ≠ gb173)); have n6_ := Aside0.mk ((by rw [hg]; exact Nat.ne_of_gt (blk_lt (g := gb172) (o := .cells #[.string a0_0, .string a0_1] 24 (0, 0)) (by (with_reducible repeat (first | refine blk_drewN ?_ _ | refine blk_drew ?_ | refine blk_alloc ?_ _)); exact BK172.out)) : gb173 ≠ gb172)); clear BK172; clear HB; have BK172 := n0_; have HB := n1_; have BK173 := n2_; have GW173 := n3_; have GE173 := n4_; have NB172_173 := n5_; have NB173_172 := n6_; clear n0_ n1_ n2_ n3_ n4_ n5_ n6_; clear hb hbox hg; have hnb6 := NB172_173.out; have hnc6 := NB173_172.out; have hcz7_0 : w5.cell? ⟨gb172, 0, none⟩ = some (.string a0_0) := (blk_cell BK172.out 0).trans rfl; have hcz7_1 : w5.cell? ⟨gb172, 1, none⟩ = some (.string a0_1) := (blk_cell BK172.out 1).trans rfl; have hfz7_0 := blk_frozen BK172.out 0; have hfz7_1 := blk_frozen BK172.out 1; have hcz8_0 : w5.cell? ⟨gb173, 0, none⟩ = some (.string a1_0) := (blk_cell BK173.out 0).trans rfl; have hcz8_1 : w5.cell? ⟨gb173, 1, none⟩ = some (.string a1_1) := (blk_cell BK173.out 1).trans rfl; have hfz8_0 := blk_frozen BK173.out 0; have hfz8_1 := blk_frozen BK173.out 1) | ((with_reducible refine gate_callee (f := 33) rfl ?_); refine goesL_ (some 10) rfl rfl Tryd.func33 (by kernel_rfl) rfl #[.agg #[.string a0_0, .string a0_1], .agg #[.string a1_0, .string a1_1]] rfl (by (try simp only [List.map_toArray, List.map_cons, List.map_nil]); first | done | rfl | (simp only [List.length_drop, List.length_take]; rfl)) ?_; (with_reducible refine (node_Cmp.calls k a0_0 a0_1 a1_0 a1_1 t174 t175 _ A3.out).mono ?_); rintro e w9 ⟨rfl, hb⟩; refine ⟨_, rfl, ?_⟩; have n0_ := Aside0.mk (blk_below (g := gb172) (o := .cells #[.string a0_0, .string a0_1] 24 (0, 0)) (by (with_reducible repeat (first | refine blk_drewN ?_ _ | refine blk_drew ?_ | refine blk_alloc ?_ _)); exact BK172.out) hb); have n1_ := Aside0.mk (blk_below (g := gb173) (o := .cells #[.string a1_0, .string a1_1] 24 (0, 0)) (by (with_reducible repeat (first | refine blk_drewN ?_ _ | refine blk_drew ?_ | refine blk_alloc ?_ _)); exact BK173.out) hb); have n2_ := Aside0.mk (below_step (by repeat (first | (with_reducible first | exact HB.out | apply below_alloc | apply pw_below_drewN | apply below_drew1 | refine below_set ?_ GE172.out | refine below_set ?_ GE173.out) | exact HB.out)) hb); clear BK172; clear BK173; clear HB; have BK172 := n0_; have BK173 := n1_; have HB := n2_; clear n0_ n1_ n2_; (try clear hb); (try clear hb2); (try clear hk); (try clear hi)))
  go_ret
  exact ⟨by first | rfl | (simp [errW_none, errW_some] <;> rfl) | (simp [*, errW_none, errW_some] <;> rfl), by repeat (first | (with_reducible first | exact HB.out | apply below_alloc | apply pw_below_drewN | apply below_drew1 | refine below_set ?_ GE172.out | refine below_set ?_ GE173.out) | exact HB.out)⟩
end Go.Proofs.YtodkjmbmlobihaaDoor.Q
end

section
namespace Go.Proofs.YtodkjmbmlobihaaDoor.Q
open Go.Proofs.YtodkjmbmlobihaaDoor.QB.D
open Go Go.RowKit Go.Lib Go.Proofs.YtodkjmbmlobihaaDoorW.PrintWords Go.Proofs.YtodkjmbmlobihaaDoorW.PrintLast Go.Proofs.YtodkjmbmlobihaaDoorW.PrintMore Gw
set_option linter.unusedVariables false
set_option linter.unusedSimpArgs false
abbrev GoodN (x : S24) : Prop := Tiny x.f0 ∧ Tiny x.f1 ∧ isVersion (bs x.f1) = true
def np (x : S24) : NP := (bs x.f0, bs x.f1)
theorem np_inj {x y : S24} (h : np x = np y) : x = y := by
  cases x; cases y
  simp only [np, Prod.mk.injEq] at h
  rw [bs_inj h.1, bs_inj h.2]
def ordN (x y : S24) : Int := nodC (np x) (np y)
theorem ordN_to : TO GoodN ordN := by
  have h := nodC_to
  refine ⟨fun a b => h.tri _ _, fun a b ha hb => h.sym _ _ ha.2.2 hb.2.2, fun a b ha hb => ?_, fun a b d ha hb hd => h.tr _ _ _ ha.2.2 hb.2.2 hd.2.2⟩
  show nodC _ _ = 0 ↔ _
  rw [h.eq _ _ ha.2.2 hb.2.2]
  exact ⟨np_inj, fun e => by rw [e]⟩
theorem vparts_of {s : ByteArray} (h : isVersion (bs s) = true) : vparts (bs s) = some (vOf (bs s)) := by
  rw [← vparts_some] at h
  obtain ⟨v, hv⟩ := Option.isSome_iff_exists.1 h
  unfold vOf
  rw [hv]
  rfl
instance : DecidableEq S24 := fun a b => if h : a.f0 = b.f0 ∧ a.f1 = b.f1 then isTrue (by cases a; cases b; simp at h; rw [h.1, h.2]) else isFalse (fun e => h (by subst e; exact ⟨rfl, rfl⟩))
abbrev TinyN (x : S24) : Prop := Tiny x.f0 ∧ Tiny x.f1
def mayN (x : S24) : Bool := isNode (np x)
theorem mayN_good {x : S24} (hx : TinyN x) (hm : mayN x = true) : GoodN x := by
  unfold mayN isNode np at hm
  rw [Bool.and_eq_true] at hm
  exact ⟨hx.1, hx.2, hm.2⟩
def few (s : ByteArray) : ByteArray := if (s.size : Int) > 400 then s.extract 0 400 else s
theorem few_size (s : ByteArray) : (few s).size ≤ 400 := by
  unfold few
  split
  · rw [ByteArray.size_extract]; omega
  · omega
theorem Few_val (s : ByteArray) : graftwoodlaw01_Few.f s = some (few s) := by
  unfold graftwoodlaw01_Few.f few
  split
  · rw [if_pos (by omega), if_pos (by omega)]
  · rfl
theorem One_val (a b : ByteArray) : graftwoodlaw05_One.f a b = some (few a, few b) := by
  unfold graftwoodlaw05_One.f
  rw [Few_val, Few_val]
  rfl
/-- A node of texts of no more than 400 octets. -/
abbrev Brief (x : S24) : Prop := x.f0.size ≤ 400 ∧ x.f1.size ≤ 400
theorem Brief.tiny {x : S24} (h : Brief x) : TinyN x := by unfold TinyN Tiny; omega
def oneN (x : S24) : S24 := ⟨few x.f0, few x.f1⟩
theorem oneN_brief (x : S24) : Brief (oneN x) := ⟨few_size _, few_size _⟩
theorem rd_needs {l : List S34} {i : Nat} (hi : i < l.length) : rd_T34 l (i : Int) = l[i] := by simp [rd_T34, List.getD_eq_getElem?_getD, List.getElem?_eq_getElem hi]
def oneE (x : S34) : S34 := ⟨oneN x.f0, oneN x.f1⟩
def fewE (l : List S34) : List S34 := (l.take 30).map oneE
theorem fewE_l0 (l : List S34) : ∀ (n i k : Nat), 30 ≤ i + n → i ≤ 30 → 2 * n + 2 ≤ k → graftwoodlaw18_Few.l0 k l ((l.take i).map oneE) (i : Int) = some (fewE l) := by
  intro n
  induction n with
  | zero =>
    intro i k h1 h2 hk
    obtain ⟨j, rfl⟩ : ∃ j, k = j + 2 := ⟨k - 2, by omega⟩
    have e : i = 30 := by omega
    subst e
    simp only [graftwoodlaw18_Few.l0]
    by_cases h : ((30 : Nat) : Int) < (l.length : Int)
    · rw [if_pos h]; rfl
    · rw [if_neg h]; rfl
  | succ n ih =>
    intro i k h1 h2 hk
    obtain ⟨j, rfl⟩ : ∃ j, k = j + 2 := ⟨k - 2, by omega⟩
    by_cases h : i < l.length
    · by_cases h30 : i < 30
      · have hx : (l.take i).map oneE ++ [(⟨⟨few l[i].f0.f0, few l[i].f0.f1⟩, ⟨few l[i].f1.f0, few l[i].f1.f1⟩⟩ : S34)] = (l.take (i + 1)).map oneE := by
          rw [List.take_succ_eq_append_getElem h, List.map_append]; rfl
        simp only [graftwoodlaw18_Few.l0, graftwoodlaw18_Few.j1]
        rw [if_pos (by omega), if_pos (decide_eq_true (by omega)), if_pos (by omega), if_pos (by omega), rd_needs h, One_val, One_val]
        simp only [Option.bind_some]
        rw [if_pos (by rw [List.length_map, List.length_take]; omega), hx, show wrap64 ((i : Int) + 1) = ((i + 1 : Nat) : Int) by unfold wrap64; omega]
        exact ih (i + 1) j (by omega) (by omega) (by omega)
      · exact ih i (j + 2) (by omega) h2 (by omega)
    · simp only [graftwoodlaw18_Few.l0, graftwoodlaw18_Few.j1]
      rw [if_neg (by omega)]
      unfold fewE
      rw [List.take_of_length_le (by omega : l.length ≤ i), List.take_of_length_le (by omega : l.length ≤ 30)]
      rfl
theorem fewE_val (l : List S34) (k : Nat) (hk : 70 ≤ k) : graftwoodlaw18_Few.f k l = some (fewE l) := fewE_l0 l 30 0 k (by omega) (by omega) (by omega)
theorem fewE_len (l : List S34) : (fewE l).length ≤ 30 := by unfold fewE; rw [List.length_map, List.length_take]; omega
theorem fewE_brief (l : List S34) : ∀ x ∈ fewE l, Brief x.f0 ∧ Brief x.f1 := fun x hx => by
  obtain ⟨y, _, rfl⟩ := List.mem_map.1 hx
  exact ⟨oneN_brief _, oneN_brief _⟩
theorem rd_nat {l : List S24} {i : Nat} (hi : i < l.length) : rd_T24 l (i : Int) = l[i] := by simp [rd_T24, List.getD_eq_getElem?_getD, List.getElem?_eq_getElem hi]
theorem node_eqb (x y : S24) : (x.f0.toList == y.f0.toList && x.f1.toList == y.f1.toList) = decide (x = y) := by
  rw [str_eq, str_eq]
  by_cases h : x = y
  · subst h; simp
  · rw [decide_eq_false h]
    by_cases h0 : x.f0 = y.f0
    · have h1 : x.f1 ≠ y.f1 := fun h1 => h (by cases x; cases y; simp only at h0 h1; rw [h0, h1])
      simp [h0, h1]
    · simp [h0]
theorem indexN_l0 (l : List S24) (t : S24) (hl : l.length ≤ 4294967296) : ∀ (n i k : Nat), l.length ≤ i + n → i ≤ l.length → n + 1 ≤ k → ∃ r : Int, api_Node_44.l0 k l (l.length : Int) (i : Int) t.f0 t.f1 = some r ∧ decide (r ≥ 0) = decide (t ∈ l.drop i) := by
  intro n
  induction n with
  | zero =>
    intro i k h1 h2 hk
    obtain ⟨j, rfl⟩ : ∃ j, k = j + 1 := ⟨k - 1, by omega⟩
    have e : i = l.length := by omega
    subst e
    refine ⟨-1, ?_, by rw [List.drop_length]; simp⟩
    simp only [api_Node_44.l0]
    rw [if_neg (by omega)]
  | succ n ih =>
    intro i k h1 h2 hk
    obtain ⟨j, rfl⟩ : ∃ j, k = j + 1 := ⟨k - 1, by omega⟩
    by_cases h : i < l.length
    · simp only [api_Node_44.l0]
      rw [if_pos (by omega), if_pos (by omega), if_pos (by omega), rd_nat h, node_eqb, List.drop_eq_getElem_cons h]
      by_cases e : t = l[i]
      · rw [decide_eq_true e, if_pos rfl]
        refine ⟨(i : Int), rfl, ?_⟩
        rw [decide_eq_true (by omega), decide_eq_true (by rw [e]; exact List.mem_cons_self)]
      · rw [decide_eq_false e, if_neg (by decide), show wrap64 ((i : Int) + 1) = ((i + 1 : Nat) : Int) by unfold wrap64; omega]
        obtain ⟨r, h3, h4⟩ := ih (i + 1) j (by omega) (by omega) (by omega)
        refine ⟨r, h3, h4.trans (decide_eq_decide.2 ⟨fun h => List.mem_cons_of_mem _ h, fun h => (List.mem_cons.1 h).resolve_left e⟩)⟩
    · exact ih i (j + 1) (by omega) h2 (by omega)
theorem conN_val (l : List S24) (t : S24) (hl : l.length ≤ 4294967296) (k : Nat) (hk : l.length + 1 ≤ k) : api_Node_32.f k l t.f0 t.f1 = some (decide (t ∈ l)) := by
  obtain ⟨r, h1, h2⟩ := indexN_l0 l t hl l.length 0 k (by omega) (Nat.zero_le _) hk
  rw [List.drop_zero] at h2
  unfold api_Node_32.f api_Node_44.f
  rw [show ((0 : Nat) : Int) = 0 from rfl] at h1
  rw [h1, Option.bind_some, h2]
theorem has_l0 (l : List S24) (t : S24) (hl : l.length ≤ 4294967296) : ∀ (n i k : Nat), l.length ≤ i + n → i ≤ l.length → n + 1 ≤ k → graftwoodref05_Has.l0 k l (i : Int) t.f0 t.f1 = some (decide (t ∈ l.drop i)) := by
  intro n
  induction n with
  | zero =>
    intro i k h1 h2 hk
    obtain ⟨j, rfl⟩ : ∃ j, k = j + 1 := ⟨k - 1, by omega⟩
    have e : i = l.length := by omega
    subst e
    simp only [graftwoodref05_Has.l0]
    rw [if_neg (by omega), List.drop_length]
    rfl
  | succ n ih =>
    intro i k h1 h2 hk
    obtain ⟨j, rfl⟩ : ∃ j, k = j + 1 := ⟨k - 1, by omega⟩
    by_cases h : i < l.length
    · simp only [graftwoodref05_Has.l0]
      rw [if_pos (by omega), if_pos (by omega), rd_nat h, node_eqb, List.drop_eq_getElem_cons h]
      by_cases e : l[i] = t
      · rw [decide_eq_true e, if_pos rfl, decide_eq_true (by rw [e]; exact List.mem_cons_self)]
      · rw [decide_eq_false e, if_neg (by decide), show wrap64 ((i : Int) + 1) = ((i + 1 : Nat) : Int) by unfold wrap64; omega, ih (i + 1) j (by omega) (by omega) (by omega)]
        exact congrArg some (decide_eq_decide.2 ⟨fun h => List.mem_cons_of_mem _ h, fun h => (List.mem_cons.1 h).resolve_left (fun e2 => e e2.symm)⟩)
    · exact ih i (j + 1) (by omega) h2 (by omega)
theorem has_val (l : List S24) (t : S24) (hl : l.length ≤ 4294967296) (k : Nat) (hk : l.length + 1 ≤ k) : graftwoodref05_Has.f k l t.f0 t.f1 = some (decide (t ∈ l)) := by
  have h := has_l0 l t hl l.length 0 k (by omega) (Nat.zero_le _) hk
  rw [List.drop_zero] at h
  exact h
theorem same_l0 (l m : List S24) (hl : l.length ≤ 4294967296) (hm : l.length = m.length) : ∀ (n i k : Nat), l.length ≤ i + n → i ≤ l.length → n + 1 ≤ k → graftwoodref05_Same.l0 k l m (i : Int) = some (decide (l.drop i = m.drop i)) := by
  intro n
  induction n with
  | zero =>
    intro i k h1 h2 hk
    obtain ⟨j, rfl⟩ : ∃ j, k = j + 1 := ⟨k - 1, by omega⟩
    have e : i = l.length := by omega
    subst e
    simp only [graftwoodref05_Same.l0]
    rw [if_neg (by omega), List.drop_length, List.drop_eq_nil_of_le (by omega)]
    rfl
  | succ n ih =>
    intro i k h1 h2 hk
    obtain ⟨j, rfl⟩ : ∃ j, k = j + 1 := ⟨k - 1, by omega⟩
    by_cases h : i < l.length
    · have h' : i < m.length := by omega
      simp only [graftwoodref05_Same.l0]
      have hn : (!(l[i].f0.toList == m[i].f0.toList) || !(l[i].f1.toList == m[i].f1.toList)) = !decide (l[i] = m[i]) := by rw [← node_eqb, Bool.not_and]
      rw [if_pos (by omega), if_pos (by omega), if_pos (by omega), rd_nat h, rd_nat h', hn, List.drop_eq_getElem_cons h, List.drop_eq_getElem_cons h']
      by_cases e : l[i] = m[i]
      · rw [decide_eq_true e, if_neg (by decide), show wrap64 ((i : Int) + 1) = ((i + 1 : Nat) : Int) by unfold wrap64; omega, ih (i + 1) j (by omega) (by omega) (by omega)]
        exact congrArg some (decide_eq_decide.2 ⟨fun h => by rw [e, h], fun h => (List.cons.inj h).2⟩)
      · rw [decide_eq_false e, if_pos (by decide), decide_eq_false (fun h => e (List.cons.inj h).1)]
    · exact ih i (j + 1) (by omega) h2 (by omega)
theorem same_val (l m : List S24) (hl : l.length ≤ 4294967296) (k : Nat) (hk : l.length + 1 ≤ k) : graftwoodref05_Same.f k l m = some (decide (l = m)) := by
  unfold graftwoodref05_Same.f
  by_cases h : l.length = m.length
  · rw [if_pos (by omega)]
    have h2 := same_l0 l m hl h l.length 0 k (by omega) (Nat.zero_le _) hk
    rw [List.drop_zero, List.drop_zero] at h2
    exact h2
  · rw [if_neg (by omega), decide_eq_false (fun e => h (by rw [e]))]
theorem elements_from (s : ByteArray) (hs : Tiny s) : ∀ (k i : Nat), ((parts 47 (bs s)).map ofB).length ≤ i + k → i ≤ ((parts 47 (bs s)).map ofB).length →
    path_Elements.l0 (k + 1) ((parts 47 (bs s)).map ofB) ((parts 47 (bs s)).map ofB) (((parts 47 (bs s)).map ofB).length : Int) (i : Int) = some (if ((parts 47 (bs s)).drop i).all isElem then ((parts 47 (bs s)).map ofB, 0) else ([], 1)) := by
  have hsm : Small s := by unfold Tiny at hs; unfold Small; omega
  obtain ⟨hl, hx⟩ := parts_small hsm 47
  have hlen : ((parts 47 (bs s)).map ofB).length = (parts 47 (bs s)).length := List.length_map _
  have hall : ∀ (i : Nat) (hi : i < (parts 47 (bs s)).length), path_element.f (((parts 47 (bs s)).map ofB)[i]'(by rw [hlen]; exact hi)) = some (isElem (parts 47 (bs s))[i]) := by
    intro i hi
    have h2 := hx (((parts 47 (bs s)).map ofB)[i]'(by rw [hlen]; exact hi)) (List.getElem_mem _)
    unfold path_element.f
    rw [if_pos (by unfold Tiny at *; omega), List.getElem_map, bs_ofB (parts_oct (bs_oct s) _ (List.getElem_mem hi))]
  intro k
  induction k with
  | zero =>
    intro i h1 h2
    have e : i = (parts 47 (bs s)).length := by omega
    subst e
    unfold path_Elements.l0
    rw [if_neg (by omega), List.drop_length]
    rfl
  | succ k ih =>
    intro i h1 h2
    unfold path_Elements.l0
    by_cases hi : i < (parts 47 (bs s)).length
    · rw [if_pos (by omega), if_pos (by omega), if_pos (by omega)]
      have hr : rdOf ByteArray.empty ((parts 47 (bs s)).map ofB) (i : Int) = ((parts 47 (bs s)).map ofB)[i]'(by rw [hlen]; exact hi) := by
        simp [rdOf, List.getD_eq_getElem?_getD, List.getElem?_eq_getElem hi]
      rw [hr, hall i hi, List.drop_eq_getElem_cons hi, List.all_cons, Option.bind_some]
      cases he : isElem (parts 47 (bs s))[i]
      · rfl
      · rw [if_pos rfl, Bool.true_and, show wrap64 ((i : Int) + 1) = ((i + 1 : Nat) : Int) by unfold wrap64; unfold Tiny at hs; omega]
        exact ih (i + 1) (by omega) (by omega)
    · have e : i = (parts 47 (bs s)).length := by omega
      rw [if_neg (by omega), List.drop_eq_nil_of_le (by omega)]
      rfl
theorem path_May_val (k : Nat) (s : ByteArray) (hs : Tiny s) (hk : s.size + 2 ≤ k) : path_May.f k s = some (isPath (bs s)) := by
  obtain ⟨j, rfl⟩ : ∃ j, k = j + 1 := ⟨k - 1, by omega⟩
  have hl := parts_len s 47
  unfold path_May.f path_Elements.f octet_Parts.f
  rw [if_pos ⟨hs, by decide, by decide⟩, Option.bind_some]
  have h := elements_from s hs j 0 (by omega) (Nat.zero_le _)
  rw [show (47 : Int).toNat = 47 from rfl, show ((0 : Nat) : Int) = 0 from rfl] at *
  rw [h, Option.bind_some, List.drop_zero]
  unfold isPath
  cases (parts 47 (bs s)).all isElem <;> rfl
theorem version_May_val (s : ByteArray) (hs : Tiny s) : version_May.f s = some (isVersion (bs s)) := by
  unfold version_May.f version_Split.f
  rw [if_pos hs, Option.bind_some, ← vparts_some]
  cases vparts (bs s) <;> rfl
theorem node_May_val (k : Nat) (x : S24) (hx : TinyN x) (hk : x.f0.size + 2 ≤ k) : node_May.f k x.f0 x.f1 = some (mayN x) := by
  unfold node_May.f
  rw [path_May_val k _ hx.1 hk, version_May_val _ hx.2]
  show _ = some (isPath (bs x.f0) && isVersion (bs x.f1))
  cases isPath (bs x.f0) <;> rfl
/-- May a need not be? -/
def badE (x : S34) : Bool := !mayN x.f1 || (!decide (x.f0 = z24) && !mayN x.f0)
abbrev TinyE (x : S34) : Prop := TinyN x.f0 ∧ TinyN x.f1
theorem node_eqz (x : S24) : (x.f0.toList == (⟨#[]⟩ : ByteArray).toList && x.f1.toList == (⟨#[]⟩ : ByteArray).toList) = decide (x = z24) := by
  rw [str_eq, str_eq]
  by_cases h : x = z24
  · subst h; rfl
  · rw [decide_eq_false h]
    by_cases h0 : x.f0 = ⟨#[]⟩
    · have h1 : x.f1 ≠ ⟨#[]⟩ := fun h1 => h (by cases x; simp only at h0 h1; rw [h0, h1]; rfl)
      simp [h0, h1]
    · simp [h0]
theorem node_eqz8 (x : S24) : (!x.f0.toList.isEmpty || !x.f1.toList.isEmpty) = !decide (x = z24) := by
  have h := node_eqz x
  have e : (⟨#[]⟩ : ByteArray).toList = [] := by rw [ByteArray.toList_eq]
  rw [e] at h
  rw [← h]
  cases x.f0.toList <;> cases x.f1.toList <;> rfl
set_option maxHeartbeats 4000000 in
set_option maxRecDepth 100000 in
theorem chk1_calls (x : S34) (hx : TinyE x) (B : Nat) (w : World) (h0 : w.cell? ⟨B, 0, none⟩ = some (.string ⟨#[]⟩)) (h1 : w.cell? ⟨B, 1, none⟩ = some (.string ⟨#[]⟩)) (hB : B < w.heap.size) :
    Calls Tryd.prog 29 #[.agg #[.string x.f0.f0, .string x.f0.f1, .string x.f1.f0, .string x.f1.f1], .pointer (some ⟨B, 0, none⟩)] w fun e w' => e = .returned (.bool (badE x)) ∧ Below w.heap.size w w' := by
  have hu24 := Tryd.underlying24
  have hu34 := Tryd.underlying34
  have q1 := hx.2.1
  have q0 := hx.1.1
  unfold Tiny at q1 q0
  have m1 := node_May_val 4294967300 x.f1 hx.2 (by omega)
  have m0 := node_May_val 4294967300 x.f0 hx.1 (by omega)
  cases b1 : mayN x.f1 with
  | false =>
    rw [b1] at m1
    have C1 := fun w => node_May.calls 4294967300 x.f1.f0 x.f1.f1 false w m1
    have hr : badE x = true := by unfold badE; rw [b1]; rfl
    rw [hr]
    clear m1 m0 q0 q1 hr hx
    go_enter Tryd.func29, Tryd.ntmps29
    go_wp2_with fail
    refine (C1 _).mono ?_
    rintro e w1 ⟨rfl, hb1⟩
    have HB1 : Aside0 (Below w.heap.size w w1) := ⟨(below_alloc (Below.refl _ _) _).trans (hb1.mono (by simp))⟩
    clear hb1 C1
    go_wp2
    go_ret
    exact ⟨rfl, HB1.out⟩
  | true =>
    rw [b1] at m1
    have C1 := fun w => node_May.calls 4294967300 x.f1.f0 x.f1.f1 true w m1
    by_cases hq : x.f0 = z24
    · have he0 : x.f0.f0.toList = [] := by rw [hq, ByteArray.toList_eq]; rfl
      have he1 : x.f0.f1.toList = [] := by rw [hq, ByteArray.toList_eq]; rfl
      have hr : badE x = false := by unfold badE; rw [b1, decide_eq_true hq]; rfl
      rw [hr]
      clear m1 m0 q0 q1 hr hx hq
      go_enter Tryd.func29, Tryd.ntmps29
      go_wp2_with fail
      refine (C1 _).mono ?_
      rintro e w1 ⟨rfl, hb1⟩
      have HB1 : Aside0 (Below w.heap.size w w1) := ⟨(below_alloc (Below.refl _ _) _).trans (hb1.mono (by simp))⟩
      have n0 : w1.cell? ⟨w.heap.size, 0, none⟩ = some (.string x.f0.f0) := (hb1.cell (p := ⟨w.heap.size, 0, none⟩) (by simp)).trans (by simp [go_sem])
      have n1 : w1.cell? ⟨w.heap.size, 1, none⟩ = some (.string x.f0.f1) := (hb1.cell (p := ⟨w.heap.size, 1, none⟩) (by simp)).trans (by simp [go_sem])
      have r0 : w1.cell? ⟨B, 0, none⟩ = some (.string ⟨#[]⟩) := (HB1.out.cell (p := ⟨B, 0, none⟩) hB).trans h0
      have r1 : w1.cell? ⟨B, 1, none⟩ = some (.string ⟨#[]⟩) := (HB1.out.cell (p := ⟨B, 1, none⟩) hB).trans h1
      clear hb1 C1
      go_wp2
      go_ret
      exact ⟨rfl, HB1.out⟩
    · have hs : (x.f0.f0.toList = []) = False ∨ (x.f0.f0.toList = [] ∧ (x.f0.f1.toList = []) = False) := by
        by_cases h2 : x.f0.f0.toList = []
        · refine Or.inr ⟨h2, eq_false (fun h3 => hq ?_)⟩
          have e0 := (toList_nil _).1 h2
          have e1 := (toList_nil _).1 h3
          have f0 : x.f0.f0 = ⟨#[]⟩ := bs_inj (by rw [e0]; rfl)
          have f1 : x.f0.f1 = ⟨#[]⟩ := bs_inj (by rw [e1]; rfl)
          rcases hx9 : x.f0 with ⟨u0, u1⟩
          rw [hx9] at f0 f1
          simp only at f0 f1
          rw [f0, f1]
          rfl
        · exact Or.inl (eq_false h2)
      have hr : badE x = !mayN x.f0 := by unfold badE; rw [b1, decide_eq_false hq]; simp
      rw [hr]
      obtain ⟨b0, hb0⟩ : ∃ b, b = mayN x.f0 := ⟨_, rfl⟩
      rw [← hb0] at m0 ⊢
      have C0 := fun w => node_May.calls 4294967300 x.f0.f0 x.f0.f1 b0 w m0
      clear m1 m0 q0 q1 hr hx hq hb0
      rcases hs with h2 | ⟨h2, h3⟩
      all_goals
        go_enter Tryd.func29, Tryd.ntmps29
        go_wp2_with fail
        refine (C1 _).mono ?_
        rintro e w1 ⟨rfl, hb1⟩
        have HB1 : Aside0 (Below w.heap.size w w1) := ⟨(below_alloc (Below.refl _ _) _).trans (hb1.mono (by simp))⟩
        have n0 : w1.cell? ⟨w.heap.size, 0, none⟩ = some (.string x.f0.f0) := (hb1.cell (p := ⟨w.heap.size, 0, none⟩) (by simp)).trans (by simp [go_sem])
        have n1 : w1.cell? ⟨w.heap.size, 1, none⟩ = some (.string x.f0.f1) := (hb1.cell (p := ⟨w.heap.size, 1, none⟩) (by simp)).trans (by simp [go_sem])
        have r0 : w1.cell? ⟨B, 0, none⟩ = some (.string ⟨#[]⟩) := (HB1.out.cell (p := ⟨B, 0, none⟩) hB).trans h0
        have r1 : w1.cell? ⟨B, 1, none⟩ = some (.string ⟨#[]⟩) := (HB1.out.cell (p := ⟨B, 1, none⟩) hB).trans h1
        clear hb1 C1
        go_wp2_with fail
        refine (C0 _).mono ?_
        rintro e w2 ⟨rfl, hb2⟩
        have HB2 : Aside0 (Below w.heap.size w w2) := ⟨HB1.out.trans (hb2.mono HB1.out.size)⟩
        clear hb2 C0
        go_wp2
        go_ret
        exact ⟨rfl, HB2.out⟩
set_option maxHeartbeats 4000000 in
set_option maxRecDepth 100000 in
theorem indexE_calls (A0 : Option Addr) (c0 : Nat) (l0 : List S34) (w : World) (hr0 : Kd.C k34 w A0 l0.length l0) (hl0 : l0.length ≤ 4294967296) (p : S34 → Bool) (B : Nat)
    (hp : ∀ x ∈ l0, ∀ (W : World), Below w.heap.size w W → Calls Tryd.prog 29 #[.agg #[.string x.f0.f0, .string x.f0.f1, .string x.f1.f0, .string x.f1.f1], .pointer (some ⟨B, 0, none⟩)] W fun e w' => e = .returned (.bool (p x)) ∧ Below W.heap.size W w') :
    Calls Tryd.prog 41 #[.slice A0 l0.length c0, .func (.func 29) #[] #[.pointer (some ⟨B, 0, none⟩)]] w fun e w' => ∃ r : Int, e = .returned (.int .i64 r) ∧ decide (0 ≤ r) = l0.any p ∧ Below w.heap.size w w' := by
  have hu24 := Tryd.underlying24
  have hu34 := Tryd.underlying34
  have HR0 := Aside0.mk hr0
  have HP := Aside0.mk hp
  have hl1 : (l0.length : Int) ≤ 4294967296 := by omega
  clear hr0 hp
  go_enter Tryd.func41, Tryd.ntmps41
  go_wp2_with fail
  go_loopw [5, 8] (fun _ v8 wr => ∃ i : Nat, i ≤ l0.length ∧ v8 = .int .i64 (i : Int) ∧ Aside0 (Below w.heap.size w wr) ∧ Aside0 ((l0.take i).any p = false)) (fun _ v8 _ => l0.length - (RowKit.intOf v8).toNat)
  case atStart => exact ⟨0, Nat.zero_le _, rfl, ⟨Below.refl _ _⟩, ⟨rfl⟩⟩
  case round =>
    obtain ⟨i, hi, rfl, HB, HA⟩ := hrel
    by_cases hil : i < l0.length
    · have j1 : (i : Int) < (l0.length : Int) := by omega
      have hdi : decide ((i : Int) < (l0.length : Int)) = true := decide_eq_true j1
      obtain ⟨x, hx⟩ : ∃ x, x = l0[i] := ⟨_, rfl⟩
      have hmem : x ∈ l0 := by rw [hx]; exact List.getElem_mem hil
      obtain ⟨ad, e0, hx0, hx1, hx2, hx3⟩ := at_T34 HR0.out (i : Int) (by omega) (by omega)
      have hrd : rd_T34 l0 (i : Int) = x := by rw [hx]; simp [rd_T34, List.getD_eq_getElem?_getD, List.getElem?_eq_getElem hil]
      rw [hrd, Int.toNat_natCast] at hx0 hx1 hx2 hx3
      cases e0
      replace hx0 := (HB.out.cell (World.block_lt_of_cell? w _ hx0)).trans hx0
      replace hx1 := (HB.out.cell (World.block_lt_of_cell? w _ hx1)).trans hx1
      replace hx2 := (HB.out.cell (World.block_lt_of_cell? w _ hx2)).trans hx2
      replace hx3 := (HB.out.cell (World.block_lt_of_cell? w _ hx3)).trans hx3
      have hcall := HP.out x hmem wr HB.out
      have htk : l0.take (i + 1) = l0.take i ++ [x] := by rw [hx]; exact List.take_succ_eq_append_getElem hil
      have HTK := Aside0.mk htk
      have HMEM := Aside0.mk hmem
      clear hx hrd htk hmem
      cases hq : p x with
      | true =>
        rw [hq] at hcall
        have HQ := Aside0.mk hq
        clear hq
        go_wp2_with (go_at_call 29; with_reducible refine hcall.mono ?_; rintro e w' ⟨rfl, hb'⟩)
        have hbel := HB.out.trans (hb'.mono HB.out.size)
        go_ret
        refine ⟨_, rfl, ?_, hbel⟩
        rw [decide_eq_true (by omega)]
        exact (List.any_eq_true.2 ⟨x, HMEM.out, HQ.out⟩).symm
      | false =>
        rw [hq] at hcall
        have HQ := Aside0.mk hq
        clear hq
        go_wp2_with (go_at_call 29; with_reducible refine hcall.mono ?_; rintro e w' ⟨rfl, hb'⟩)
        have hbel : Aside0 (Below w.heap.size w w') := ⟨HB.out.trans (hb'.mono HB.out.size)⟩
        clear hb'
        go_roundw
        case rel => exact ⟨i + 1, by omega, by go_num, hbel, ⟨by rw [HTK.out, List.any_append, HA.out]; simp [HQ.out]⟩⟩
        case measure => simp [RowKit.intOf]; omega
    · obtain rfl : i = l0.length := by omega
      have hdi : decide ((l0.length : Int) < (l0.length : Int)) = false := decide_eq_false (by omega)
      have ha := HA.out
      rw [List.take_length] at ha
      have HA2 := Aside0.mk ha
      clear ha
      go_wp2
      go_ret
      exact ⟨_, rfl, by rw [HA2.out]; rfl, HB.out⟩
def okE (l : List S34) : Bool := !l.any badE
def kI : Bool → Int
  | true => 0
  | false => 1
def lack_Check.f (l : List S34) : Option Int := if l.length ≤ 4294967296 ∧ (∀ x ∈ l, TinyE x) then some (kI (okE l)) else none
set_option maxHeartbeats 4000000 in
set_option maxRecDepth 100000 in
theorem lack_Check.calls (A0 : Option Addr) (c0 : Nat) (l0 : List S34) (r : Int) (w : World) (hr0 : Kd.C k34 w A0 l0.length l0) (hc0 : l0.length ≤ c0) (h : lack_Check.f l0 = some r) :
    Calls Tryd.prog 17 #[.slice A0 l0.length c0] w fun e w' => e = .returned (.int .i64 r) ∧ Below w.heap.size w w' := by
  unfold lack_Check.f at h
  split at h
  case isFalse => cases h
  case isTrue hc =>
    injection h with h
    subst h
    obtain ⟨hl, ht⟩ := hc
    have HR0 := Aside0.mk hr0
    have hu24 := Tryd.underlying24
    -- ContainsFunc, in the world that holds the root
    have CF : ∀ (W : World) (B : Nat), Kd.C k34 W A0 l0.length l0 → W.cell? ⟨B, 0, none⟩ = some (.string ⟨#[]⟩) → W.cell? ⟨B, 1, none⟩ = some (.string ⟨#[]⟩) → B < W.heap.size →
        Calls Tryd.prog 28 #[.slice A0 l0.length c0, .func (.func 29) #[] #[.pointer (some ⟨B, 0, none⟩)]] W fun e w' => e = .returned (.bool (l0.any badE)) ∧ Below W.heap.size W w' := by
      intro W B hR h0 h1 hB
      have CI := indexE_calls A0 c0 l0 W hR hl badE B (fun x hx W' hW => chk1_calls x (ht x hx) B W' ((hW.cell (p := ⟨B, 0, none⟩) hB).trans h0) ((hW.cell (p := ⟨B, 1, none⟩) hB).trans h1) (Nat.lt_of_lt_of_le hB hW.size))
      clear hR h0 h1 ht HR0 hr0
      go_enter Tryd.func28, Tryd.ntmps28
      go_wp2_with fail
      refine CI.mono ?_
      rintro e w1 ⟨q, rfl, hq, hb1⟩
      have HB1 := Aside0.mk hb1
      clear hb1 CI
      go_wp2
      go_ret
      exact ⟨rfl, HB1.out⟩
    obtain ⟨b, hb⟩ : ∃ b, b = l0.any badE := ⟨_, rfl⟩
    rw [← hb] at CF
    have hk : kI (okE l0) = kI (!b) := by unfold okE; rw [← hb]
    rw [hk]
    clear hb hk hr0 ht
    go_enter Tryd.func17, Tryd.ntmps17
    go_wp2_with fail
    refine (CF _ w.heap.size (Kd.C_alloc HR0.out _) (by simp [go_sem]) (by simp [go_sem]) (by simp)).mono ?_
    rintro e w1 ⟨rfl, hb1⟩
    have HB1 : Aside0 (Below w.heap.size w w1) := ⟨(below_alloc (Below.refl _ _) _).trans (hb1.mono (by simp))⟩
    clear hb1 CF
    cases b
    · go_wp2
      go_ret
      exact ⟨rfl, HB1.out⟩
    · go_wp2
      go_ret
      exact ⟨rfl, HB1.out⟩
theorem order_val (k : Nat) (x y : S24) (hx : GoodN x) (hy : GoodN y) : node_order.f (k + 3) x.f0 x.f1 y.f0 y.f1 = some (ordN x y) := by
  unfold node_order.f
  by_cases h : (x.f0.toList == y.f0.toList && x.f1.toList == y.f1.toList) = true
  · rw [if_pos h]
    rw [str_eq, str_eq, Bool.and_eq_true, decide_eq_true_eq, decide_eq_true_eq] at h
    have e : x = y := by cases x; cases y; simp only at h; rw [h.1, h.2]
    subst e
    exact congrArg some ((ordN_to.eq x x hx hx).2 rfl).symm
  · rw [if_neg h]
    have hv : version_Cmp.f x.f1 y.f1 = some (verC (vOf (bs x.f1)) (vOf (bs y.f1)), 0) := by
      unfold version_Cmp.f
      rw [if_pos ⟨hx.2.1, hy.2.1⟩, vparts_of hx.2.2, vparts_of hy.2.2]
      rfl
    rw [hv, octcmp_val]
    simp only [Option.bind_some]
    rw [or2_val]
    rfl
instance : DecidableEq S34 := fun a b => if h : a.f0 = b.f0 ∧ a.f1 = b.f1 then isTrue (by cases a; cases b; simp only at h; rw [h.1, h.2]) else isFalse (fun e => h (by subst e; exact ⟨rfl, rfl⟩))
theorem need_eqb (x y : S34) : ((x.f0.f0.toList == y.f0.f0.toList && x.f0.f1.toList == y.f0.f1.toList) && (x.f1.f0.toList == y.f1.f0.toList && x.f1.f1.toList == y.f1.f1.toList)) = decide (x = y) := by
  rw [node_eqb, node_eqb]
  by_cases h : x = y
  · subst h; simp
  · rw [decide_eq_false h]
    by_cases h0 : x.f0 = y.f0
    · have h1 : x.f1 ≠ y.f1 := fun h1 => h (by cases x; cases y; simp only at h0 h1; rw [h0, h1])
      simp [h0, h1]
    · simp [h0]
theorem rd_needs' {l : List S34} {i : Nat} (hi : i < l.length) : rd_T34 l (i : Int) = l[i] := by simp [rd_T34, List.getD_eq_getElem?_getD, List.getElem?_eq_getElem hi]
theorem indexE_l0 (l : List S34) (t : S34) (hl : l.length ≤ 4294967296) : ∀ (n i k : Nat), l.length ≤ i + n → i ≤ l.length → n + 1 ≤ k → ∃ r : Int, api_Need_40.l0 k l (l.length : Int) (i : Int) t.f0.f0 t.f0.f1 t.f1.f0 t.f1.f1 = some r ∧ decide (r ≥ 0) = decide (t ∈ l.drop i) := by
  intro n
  induction n with
  | zero =>
    intro i k h1 h2 hk
    obtain ⟨j, rfl⟩ : ∃ j, k = j + 1 := ⟨k - 1, by omega⟩
    have e : i = l.length := by omega
    subst e
    refine ⟨-1, ?_, by rw [List.drop_length]; simp⟩
    simp only [api_Need_40.l0]
    rw [if_neg (by omega)]
  | succ n ih =>
    intro i k h1 h2 hk
    obtain ⟨j, rfl⟩ : ∃ j, k = j + 1 := ⟨k - 1, by omega⟩
    by_cases h : i < l.length
    · simp only [api_Need_40.l0]
      rw [if_pos (by omega), if_pos (by omega), if_pos (by omega), rd_needs' h, need_eqb, List.drop_eq_getElem_cons h]
      by_cases e : t = l[i]
      · rw [decide_eq_true e, if_pos rfl]
        refine ⟨(i : Int), rfl, ?_⟩
        rw [decide_eq_true (by omega), decide_eq_true (by rw [e]; exact List.mem_cons_self)]
      · rw [decide_eq_false e, if_neg (by decide), show wrap64 ((i : Int) + 1) = ((i + 1 : Nat) : Int) by unfold wrap64; omega]
        obtain ⟨r, h3, h4⟩ := ih (i + 1) j (by omega) (by omega) (by omega)
        refine ⟨r, h3, h4.trans (decide_eq_decide.2 ⟨fun h => List.mem_cons_of_mem _ h, fun h => (List.mem_cons.1 h).resolve_left e⟩)⟩
    · exact ih i (j + 1) (by omega) h2 (by omega)
theorem conE_val (l : List S34) (t : S34) (hl : l.length ≤ 4294967296) (k : Nat) (hk : l.length + 1 ≤ k) : api_Need_27.f k l t.f0.f0 t.f0.f1 t.f1.f0 t.f1.f1 = some (decide (t ∈ l)) := by
  obtain ⟨r, h1, h2⟩ := indexE_l0 l t hl l.length 0 k (by omega) (Nat.zero_le _) hk
  rw [List.drop_zero] at h2
  unfold api_Need_27.f api_Need_40.f
  rw [show ((0 : Nat) : Int) = 0 from rfl] at h1
  rw [h1, Option.bind_some, h2]
set_option maxHeartbeats 4000000 in
set_option maxRecDepth 100000 in
theorem is1_calls (x : S24) (hx : TinyN x) (w : World) : Calls Tryd.prog 26 #[.agg #[.string x.f0, .string x.f1]] w fun e w' => e = .returned (.bool (!mayN x)) ∧ Below w.heap.size w w' := by
  have hu24 := Tryd.underlying24
  have q1 := hx.1
  unfold Tiny at q1
  have m1 := node_May_val 4294967300 x hx (by omega)
  obtain ⟨b, hb⟩ : ∃ b, b = mayN x := ⟨_, rfl⟩
  rw [← hb] at m1 ⊢
  have C1 := fun w => node_May.calls 4294967300 x.f0 x.f1 b w m1
  clear m1 hx q1 hb
  go_enter Tryd.func26, Tryd.ntmps26
  go_wp2_with fail
  refine (C1 _).mono ?_
  rintro e w1 ⟨rfl, hb1⟩
  have HB1 : Aside0 (Below w.heap.size w w1) := ⟨(below_alloc (Below.refl _ _) _).trans (hb1.mono (by simp))⟩
  clear hb1 C1
  go_wp2
  go_ret
  exact ⟨rfl, HB1.out⟩
set_option maxHeartbeats 4000000 in
set_option maxRecDepth 100000 in
theorem anyN_calls (A0 : Option Addr) (c0 : Nat) (l0 : List S24) (w : World) (hr0 : Kd.C k24 w A0 l0.length l0) (hl0 : l0.length ≤ 4294967296) (ht : ∀ x ∈ l0, TinyN x) :
    Calls Tryd.prog 25 #[.slice A0 l0.length c0, .func (.func 26) #[] #[]] w fun e w' => e = .returned (.bool (l0.any (fun x => !mayN x))) ∧ Below w.heap.size w w' := by
  have hu24 := Tryd.underlying24
  have hl1 : (l0.length : Int) ≤ 4294967296 := by omega
  have CI : Calls Tryd.prog 39 #[.slice A0 l0.length c0, .func (.func 26) #[] #[]] w fun e w' => ∃ r : Int, e = .returned (.int .i64 r) ∧ decide (0 ≤ r) = l0.any (fun x => !mayN x) ∧ Below w.heap.size w w' := by
    have HR0 := Aside0.mk hr0
    have HT := Aside0.mk ht
    clear hr0 ht
    go_enter Tryd.func39, Tryd.ntmps39
    go_wp2_with fail
    go_loopw [5, 8] (fun _ v8 wr => ∃ i : Nat, i ≤ l0.length ∧ v8 = .int .i64 (i : Int) ∧ Aside0 (Below w.heap.size w wr) ∧ Aside0 ((l0.take i).any (fun x => !mayN x) = false)) (fun _ v8 _ => l0.length - (RowKit.intOf v8).toNat)
    case atStart => exact ⟨0, Nat.zero_le _, rfl, ⟨Below.refl _ _⟩, ⟨rfl⟩⟩
    case round =>
      obtain ⟨i, hi, rfl, HB, HA⟩ := hrel
      by_cases hil : i < l0.length
      · have j1 : (i : Int) < (l0.length : Int) := by omega
        have hdi : decide ((i : Int) < (l0.length : Int)) = true := decide_eq_true j1
        obtain ⟨x, hx⟩ : ∃ x, x = l0[i] := ⟨_, rfl⟩
        have hmem : x ∈ l0 := by rw [hx]; exact List.getElem_mem hil
        obtain ⟨ad, e0, hx0, hx1⟩ := at_T24 HR0.out (i : Int) (by omega) (by omega)
        have hrd : rd_T24 l0 (i : Int) = x := by rw [hx]; simp [rd_T24, List.getD_eq_getElem?_getD, List.getElem?_eq_getElem hil]
        rw [hrd, Int.toNat_natCast] at hx0 hx1
        cases e0
        replace hx0 := (HB.out.cell (World.block_lt_of_cell? w _ hx0)).trans hx0
        replace hx1 := (HB.out.cell (World.block_lt_of_cell? w _ hx1)).trans hx1
        have hcall := is1_calls x (HT.out x hmem) wr
        have htk : l0.take (i + 1) = l0.take i ++ [x] := by rw [hx]; exact List.take_succ_eq_append_getElem hil
        have HTK := Aside0.mk htk
        have HMEM := Aside0.mk hmem
        clear hx hrd htk hmem
        cases hq : mayN x with
        | false =>
          rw [hq] at hcall
          have HQ := Aside0.mk hq
          clear hq
          go_wp2_with (go_at_call 26; with_reducible refine hcall.mono ?_; rintro e w' ⟨rfl, hb'⟩)
          have hbel := HB.out.trans (hb'.mono HB.out.size)
          go_ret
          refine ⟨_, rfl, ?_, hbel⟩
          rw [decide_eq_true (by omega)]
          exact (List.any_eq_true.2 ⟨x, HMEM.out, by rw [HQ.out]; rfl⟩).symm
        | true =>
          rw [hq] at hcall
          have HQ := Aside0.mk hq
          clear hq
          go_wp2_with (go_at_call 26; with_reducible refine hcall.mono ?_; rintro e w' ⟨rfl, hb'⟩)
          have hbel : Aside0 (Below w.heap.size w w') := ⟨HB.out.trans (hb'.mono HB.out.size)⟩
          clear hb'
          go_roundw
          case rel => exact ⟨i + 1, by omega, by go_num, hbel, ⟨by rw [HTK.out, List.any_append, HA.out]; simp [HQ.out]⟩⟩
          case measure => simp [RowKit.intOf]; omega
      · obtain rfl : i = l0.length := by omega
        have hdi : decide ((l0.length : Int) < (l0.length : Int)) = false := decide_eq_false (by omega)
        have ha := HA.out
        rw [List.take_length] at ha
        have HA2 := Aside0.mk ha
        clear ha
        go_wp2
        go_ret
        exact ⟨_, rfl, by rw [HA2.out]; rfl, HB.out⟩
  clear hr0 ht
  go_enter Tryd.func25, Tryd.ntmps25
  go_wp2_with fail
  refine CI.mono ?_
  rintro e w1 ⟨q, rfl, hq, hb1⟩
  have HB1 := Aside0.mk hb1
  clear hb1 CI
  go_wp2
  go_ret
  exact ⟨rfl, HB1.out⟩
/-- Is a list, from a node on, a chain? -/
def goIs (l : List S34) : S24 → List S24 → Bool
  | _, [] => true
  | x, y :: r => decide ((⟨x, y⟩ : S34) ∈ l) && goIs l y r
def why_Is.f (l : List S34) (c : List S24) : Option (Bool × Int) :=
  if l.length ≤ 65536 ∧ c.length ≤ 65536 ∧ (∀ x ∈ l, TinyE x) ∧ (∀ x ∈ c, TinyN x) then
    some (if okE l = true ∧ c ≠ [] ∧ c.any (fun x => !mayN x) = false then (goIs l z24 c, 0) else (false, 1))
  else none
set_option maxHeartbeats 8000000 in
set_option maxRecDepth 100000 in
theorem why_Is.calls (A0 : Option Addr) (c0 : Nat) (l0 : List S34) (A1 : Option Addr) (c1 : Nat) (l1 : List S24) (r1 : Bool) (r2 : Int) (w : World) (hr0 : Kd.C k34 w A0 l0.length l0) (hc0 : l0.length ≤ c0) (hr1 : Kd.C k24 w A1 l1.length l1) (hc1 : l1.length ≤ c1) (h : why_Is.f l0 l1 = some (r1, r2)) :
    Calls Tryd.prog 14 #[.slice A0 l0.length c0, .slice A1 l1.length c1] w fun e w' => e = .returned (.tuple #[.bool r1, .int .i64 r2]) ∧ Below w.heap.size w w' := by
  unfold why_Is.f at h
  split at h
  case isFalse => cases h
  case isTrue hc =>
    obtain ⟨hl0, hl1, ht0, ht1⟩ := hc
    injection h with h
    have hu24 := Tryd.underlying24
    have hu34 := Tryd.underlying34
    have HR0 := Aside0.mk hr0
    have HR1 := Aside0.mk hr1
    have hK : lack_Check.f l0 = some (kI (okE l0)) := if_pos ⟨by omega, ht0⟩
    have CA := fun (W : World) (h : Kd.C k24 W A1 l1.length l1) => anyN_calls A1 c1 l1 W h (by omega) ht1
    have q1 : (l1.length : Int) ≤ 65536 := by omega
    cases hok : okE l0 with
    | false =>
      rw [hok] at hK h
      have CK := fun (W : World) (h : Kd.C k34 W A0 l0.length l0) => lack_Check.calls A0 c0 l0 1 W h hc0 hK
      rw [if_neg (fun h => by cases h.1)] at h
      simp only [Prod.mk.injEq] at h
      obtain ⟨rfl, rfl⟩ := h
      clear hr0 hr1 hK CA ht0 ht1 hok
      go_enter Tryd.func14, Tryd.ntmps14
      go_wp2_with fail
      refine (CK _ HR0.out).mono ?_
      rintro e w1 ⟨rfl, hb1⟩
      have HB1 := Aside0.mk hb1
      clear hb1 CK
      go_wp2
      go_ret2
      exact ⟨rfl, HB1.out⟩
    | true =>
      rw [hok] at hK h
      have CK := fun (W : World) (h : Kd.C k34 W A0 l0.length l0) => lack_Check.calls A0 c0 l0 0 W h hc0 hK
      by_cases hne : l1 = []
      · rw [if_neg (fun h => h.2.1 hne)] at h
        simp only [Prod.mk.injEq] at h
        obtain ⟨rfl, rfl⟩ := h
        subst hne
        clear hr0 hr1 hK CA ht0 ht1 hok
        go_enter Tryd.func14, Tryd.ntmps14
        go_wp2_with fail
        refine (CK _ HR0.out).mono ?_
        rintro e w1 ⟨rfl, hb1⟩
        have HB1 := Aside0.mk hb1
        clear hb1 CK
        go_wp2
        go_ret2
        exact ⟨rfl, HB1.out⟩
      · have hpos : 0 < l1.length := List.length_pos_iff.2 hne
        have hp0 : ((l1.length : Int) == 0) = false := by rw [beq_eq_false_iff_ne]; omega
        cases hany : l1.any (fun x => !mayN x) with
        | true =>
          rw [hany] at CA h
          rw [if_neg (fun h => by cases h.2.2)] at h
          simp only [Prod.mk.injEq] at h
          obtain ⟨rfl, rfl⟩ := h
          clear hr0 hr1 hK ht0 ht1 hok hany hne
          go_enter Tryd.func14, Tryd.ntmps14
          go_wp2_with fail
          refine (CK _ HR0.out).mono ?_
          rintro e w1 ⟨rfl, hb1⟩
          have HB1 := Aside0.mk hb1
          clear hb1 CK
          go_wp2_with fail
          refine (CA _ (Kd.C_below HR1.out HB1.out)).mono ?_
          rintro e w2 ⟨rfl, hb2⟩
          have HB2 : Aside0 (Below w.heap.size w w2) := ⟨HB1.out.trans (hb2.mono HB1.out.size)⟩
          clear hb2 CA
          go_wp2
          go_ret2
          exact ⟨rfl, HB2.out⟩
        | false =>
          rw [hany] at CA h
          rw [if_pos ⟨rfl, hne, rfl⟩] at h
          simp only [Prod.mk.injEq] at h
          obtain ⟨hg, rfl⟩ := h
          have HG := Aside0.mk hg
          clear hr0 hr1 hK ht0 ht1 hok hany hne hg
          go_enter Tryd.func14, Tryd.ntmps14
          go_wp2_with fail
          refine (CK _ HR0.out).mono ?_
          rintro e w1 ⟨rfl, hb1⟩
          have HB1 := Aside0.mk hb1
          clear hb1 CK
          go_wp2_with fail
          refine (CA _ (Kd.C_below HR1.out HB1.out)).mono ?_
          rintro e w3 ⟨rfl, hb2⟩
          have HB2 : Aside0 (Below w.heap.size w w3) := ⟨HB1.out.trans (hb2.mono HB1.out.size)⟩
          have hz3 := HB2.out.size
          clear hb2 CA
          go_wp2_with fail
          have HK0 : Aside0 ((w3.alloc (.cells #[.string ⟨#[]⟩, .string ⟨#[]⟩] 24 (0, 0))).heap[w3.heap.size]? = some (.cells #[.string z24.f0, .string z24.f1] 24 (0, 0))) := ⟨blk_new _ _⟩
          have HB3 : Aside0 (Below w.heap.size w (w3.alloc (.cells #[.string ⟨#[]⟩, .string ⟨#[]⟩] 24 (0, 0)))) := ⟨below_alloc HB2.out _⟩
          go_loopw [24] (fun v24 wr => ∃ (i : Nat) (x : S24), i ≤ l1.length ∧ v24 = .int .i64 (i : Int) ∧ Aside0 (wr.heap[w3.heap.size]? = some (.cells #[.string x.f0, .string x.f1] 24 (0, 0))) ∧ Aside0 (goIs l0 x (l1.drop i) = r1) ∧ Aside0 (Below w.heap.size w wr)) (fun v24 _ => l1.length - (RowKit.intOf v24).toNat)
          case atStart => exact ⟨0, z24, Nat.zero_le _, rfl, HK0, HG, HB3⟩
          case round =>
            clear HK0 HB3
            obtain ⟨i, x, hi, rfl, HK, HGO, HB⟩ := hrel
            have hlt := blk_lt HK.out
            by_cases hil : i < l1.length
            · have j1 : (i : Int) < (l1.length : Int) := by omega
              have hdi : decide ((i : Int) < (l1.length : Int)) = true := decide_eq_true j1
              obtain ⟨y, hy⟩ : ∃ y, y = l1[i] := ⟨_, rfl⟩
              obtain ⟨ad, e0, hx0, hx1⟩ := at_T24 HR1.out (i : Int) (by omega) (by omega)
              have hrd : rd_T24 l1 (i : Int) = y := by rw [hy]; simp [rd_T24, List.getD_eq_getElem?_getD, List.getElem?_eq_getElem hil]
              rw [hrd, Int.toNat_natCast] at hx0 hx1
              cases e0
              replace hx0 := (HB.out.cell (World.block_lt_of_cell? w _ hx0)).trans hx0
              replace hx1 := (HB.out.cell (World.block_lt_of_cell? w _ hx1)).trans hx1
              have hgo := HGO.out
              rw [List.drop_eq_getElem_cons hil, ← hy] at hgo
              unfold goIs at hgo
              have hcv := conE_val l0 ⟨x, y⟩ (by omega) 65540 (by omega)
              obtain ⟨b, hb⟩ : ∃ b, b = decide ((⟨x, y⟩ : S34) ∈ l0) := ⟨_, rfl⟩
              rw [← hb] at hcv hgo
              have CC := fun (W : World) (h : Kd.C k34 W A0 l0.length l0) => api_Need_27.calls 65540 A0 c0 l0 x.f0 x.f1 y.f0 y.f1 b W h hc0 hcv
              have HGO2 := Aside0.mk hgo
              have HK1 := Aside0.mk (blk_alloc HK.out (.cells #[.string y.f0, .string y.f1] 24 (0, 0)))
              have HB5 := Aside0.mk (below_alloc HB.out (.cells #[.string y.f0, .string y.f1] 24 (0, 0)))
              have z0 : (wr.alloc (.cells #[.string y.f0, .string y.f1] 24 (0, 0))).cell? ⟨w3.heap.size, 0, none⟩ = some (.string x.f0) := (blk_cell HK1.out 0).trans rfl
              have z1 : (wr.alloc (.cells #[.string y.f0, .string y.f1] 24 (0, 0))).cell? ⟨w3.heap.size, 1, none⟩ = some (.string x.f1) := (blk_cell HK1.out 1).trans rfl
              have n0 : (wr.alloc (.cells #[.string y.f0, .string y.f1] 24 (0, 0))).cell? ⟨wr.heap.size, 0, none⟩ = some (.string y.f0) := by simp [go_sem]
              have n1 : (wr.alloc (.cells #[.string y.f0, .string y.f1] 24 (0, 0))).cell? ⟨wr.heap.size, 1, none⟩ = some (.string y.f1) := by simp [go_sem]
              clear hy hrd hgo hcv hb
              go_wp2_with fail
              refine (CC _ (Kd.C_below HR0.out HB5.out)).mono ?_
              rintro e w5 ⟨rfl, hb5⟩
              have HB6 : Aside0 (Below w.heap.size w w5) := ⟨below_step HB5.out hb5⟩
              have HK2 := Aside0.mk (blk_below HK1.out hb5)
              have m0 := (hb5.cell (p := ⟨wr.heap.size, 0, none⟩) (by simp)).trans n0
              have m1 := (hb5.cell (p := ⟨wr.heap.size, 1, none⟩) (by simp)).trans n1
              have y0 : w5.cell? ⟨w3.heap.size, 0, none⟩ = some (.string x.f0) := (blk_cell HK2.out 0).trans rfl
              have y1 : w5.cell? ⟨w3.heap.size, 1, none⟩ = some (.string x.f1) := (blk_cell HK2.out 1).trans rfl
              have f0_ := blk_frozen HK2.out 0
              have f1_ := blk_frozen HK2.out 1
              clear hb5 CC n0 n1 z0 z1 HK1 HB5
              cases b
              · have hr1 : r1 = false := by rw [← HGO2.out, Bool.false_and]
                subst hr1
                go_wp2
                go_ret2
                exact ⟨rfl, HB6.out⟩
              · have hg3 := HGO2.out
                rw [Bool.true_and] at hg3
                have HGO3 := Aside0.mk hg3
                clear hg3
                go_wp2
                go_roundw
                case rel => exact ⟨i + 1, y, by omega, by go_num, ⟨blk_set (blk_set HK2.out 0 _) 1 _⟩, HGO3, ⟨below_set (below_set HB6.out hz3) hz3⟩⟩
                case measure => simp [RowKit.intOf]; omega
            · obtain rfl : i = l1.length := by omega
              have hdi : decide ((l1.length : Int) < (l1.length : Int)) = false := decide_eq_false (by omega)
              have hg3 := HGO.out
              rw [List.drop_length] at hg3
              have hr1 : r1 = true := by rw [← hg3]; rfl
              subst hr1
              clear hg3
              go_wp2
              go_ret2
              exact ⟨rfl, HB.out⟩
end Go.Proofs.YtodkjmbmlobihaaDoor.Q
end

section
namespace Go.Proofs.YtodkjmbmlobihaaDoor.Q
open Go Go.RowKit Go.Lib Go.Proofs.YtodkjmbmlobihaaDoorW.PrintWords Go.Proofs.YtodkjmbmlobihaaDoorW.PrintLast Go.Proofs.YtodkjmbmlobihaaDoorW.PrintMore Gw
set_option linter.unusedVariables false
set_option linter.unusedSimpArgs false
def cmpM (x y : S24) : Int × Int := if mayN x && mayN y then (ordN x y, 0) else (0, 1)
theorem node_Cmp_val (k : Nat) (x y : S24) (hx : Brief x) (hy : Brief y) (hk : 500 ≤ k) : node_Cmp.f k x.f0 x.f1 y.f0 y.f1 = some (cmpM x y) := by
  obtain ⟨j, rfl⟩ : ∃ j, k = j + 3 := ⟨k - 3, by omega⟩
  unfold node_Cmp.f cmpM
  rw [node_May_val _ x hx.tiny (by have := hx.1; omega), node_May_val _ y hy.tiny (by have := hy.1; omega)]
  cases hmx : mayN x
  · rfl
  · cases hmy : mayN y
    · rfl
    · simp only [Option.bind_some, if_true, Bool.and_self]
      rw [order_val j x y (mayN_good hx.tiny hmx) (mayN_good hy.tiny hmy)]
      rfl
end Go.Proofs.YtodkjmbmlobihaaDoor.Q
end

section
namespace Go.Proofs.YtodkjmbmlobihaaDoor.Q
open Go.Proofs.YtodkjmbmlobihaaDoor.QB.D
open Go Go.RowKit Go.Maps Go.Lib Go.Proofs.YtodkjmbmlobihaaDoorW.PrintWords Go.Proofs.YtodkjmbmlobihaaDoorW.PrintLast Go.Proofs.YtodkjmbmlobihaaDoorW.PrintMore Gw
set_option linter.unusedVariables false
set_option linter.unusedSimpArgs false
set_option maxRecDepth 100000
theorem laid_all : laidOutB Tryd.prog = true := by kernel_rfl
theorem keyt_node : Tryd.prog.keyTypeAt 3 24 = true := by kernel_rfl
theorem keyr_node : 24 < Tryd.prog.types.size := Nat.le_of_ble_eq_true (by kernel_rfl)
theorem wide_node : (match Tryd.prog.underlying 24 with | some (.array _ _) | some (.struct _) => true | _ => false) = true := by kernel_rfl
theorem law_node : Keyed Tryd.prog 24 := Keyed.of_law (deep_law_laid laid_all (m := 3) (by omega) keyr_node keyt_node wide_node)
def nkey (x : S24) : Lit := .string (keyBytes [.string x.f0.data.toList, .string x.f1.data.toList])
theorem keyOf_node (x : S24) (hs : x.f0.size ≤ maxLen) (ht : x.f1.size ≤ maxLen) : keyOf Tryd.prog 24 (.agg #[.string x.f0, .string x.f1]) = some (nkey x) := by
  unfold keyOf
  rw [Tryd.underlying24]
  have h1 : Tryd.prog.keyType 24 = true := by kernel_rfl
  have h2 : Tryd.prog.cellsOf 24 = 2 := by kernel_rfl
  have h3 : Tryd.prog.cellsOf 9 = 1 := by kernel_rfl
  obtain ⟨m, h4⟩ : ∃ m, Tryd.prog.types.size = m + 1 := ⟨Tryd.prog.types.size - 1, by have := keyr_node; omega⟩
  have u9 := Tryd.underlying9
  rw [h4]
  simp [h1, Value.formed, Tryd.underlying24, h2, Program.keyLits, h3, u9, Value.cells, hs, ht, nkey]
abbrev NS (x : S24) : Prop := x.f0.size ≤ maxLen ∧ x.f1.size ≤ maxLen
theorem nkey_inj {x y : S24} (hx : NS x) (hy : NS y) : nkey x = nkey y ↔ x = y := by
  refine ⟨fun h => ?_, fun h => by rw [h]⟩
  have e1 := keyOf_node x hx.1 hx.2
  have e2 := keyOf_node y hy.1 hy.2
  rw [← h] at e2
  have e := keyOf_inj_deep (tiled_of_laidOut laid_all 3 _ (by
    simp only [isVar, Bool.and_eq_true, decide_eq_true_eq]
    refine ⟨keyr_node, ?_⟩
    simp [Tryd.underlying24, kindOk]) keyt_node) wide_node e1 e2
  simp only [Value.agg.injEq] at e
  cases x; cases y
  simpa using e
theorem nkey_lit (x : S24) : WideAt.IsKeyLit (nkey x) := by unfold nkey; simp [WideAt.IsKeyLit]
end Go.Proofs.YtodkjmbmlobihaaDoor.Q
end
