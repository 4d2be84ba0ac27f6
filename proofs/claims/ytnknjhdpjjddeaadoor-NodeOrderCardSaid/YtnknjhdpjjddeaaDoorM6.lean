/- M6: several texts of this claim one behind the other: Q6, PureOrd. What each shows stands in its theorems; conditions: sizes of texts, as the definitions of the functions say. -/
import Derived.Test.YtnknjhdpjjddeaaDoorM3
import Derived.Test.YtnknjhdpjjddeaaDoorM1
import Derived.Test.YtnknjhdpjjddeaaDoorM4
import Derived.Test.YtnknjhdpjjddeaaDoorM5
namespace Go.Proofs.YtnknjhdpjjddeaaDoor.Q
open Go.Proofs.YtnknjhdpjjddeaaDoor.QB.D
open Go.RowKit Go.Proofs.YtnknjhdpjjddeaaDoorW.PrintWords Go.Proofs.YtnknjhdpjjddeaaDoorW.PrintLast Go.Proofs.YtnknjhdpjjddeaaDoorW.PrintMore
attribute [local go_sem] max2_int min2_int max_two min_two max_three min_three max_four min_four   -- for this text's walks alone
set_option linter.unusedVariables false
set_option linter.unusedSimpArgs false

attribute [local go_sem high] eqA23
/-! ### graftwoodlaw05_NodeOrder: function 3 -/
def graftwoodlaw05_NodeOrder.j0 : Nat → Int → Int → Int → Int → Int → Bool → ByteArray → ByteArray → ByteArray → ByteArray → ByteArray → ByteArray → Option (Bool)
  | 0, _, _, _, _, _, _, _, _, _, _, _, _ => none
  | k + 1, x7, x9, x10, x11, x13, x54, x185000, x185001, x186000, x186001, x187000, x187001 => if x54 = true then ((node_May.f k x185000 x185001).bind fun t201 => (if t201 = true then ((node_May.f k x186000 x186001).bind fun t202 => (if t202 = true then ((node_May.f k x187000 x187001).bind fun t203 => (if t203 = true then (some false) else ((graftwoodlaw05_awake.f k).bind fun t204 => (some t204)))) else ((graftwoodlaw05_awake.f k).bind fun t205 => (some t205)))) else ((graftwoodlaw05_awake.f k).bind fun t206 => (some t206)))) else (if x10 = 0 then (if x7 = (wrap64 (-x9)) then (if ((x7 == 0) == (x185000.toList == x186000.toList && (x185001.toList == x186001.toList))) = true then (if x7 > 0 then (if x7 ≥ 0 then ((graftwoodlaw05_awake.f k).bind fun t207 => (some t207)) else (if x11 ≥ 0 then ((graftwoodlaw05_awake.f k).bind fun t208 => (some t208)) else (if x13 < 0 then ((graftwoodlaw05_awake.f k).bind fun t209 => (some t209)) else (some false)))) else (if x11 > 0 then (if x7 ≥ 0 then ((graftwoodlaw05_awake.f k).bind fun t210 => (some t210)) else (if x11 ≥ 0 then ((graftwoodlaw05_awake.f k).bind fun t211 => (some t211)) else (if x13 < 0 then ((graftwoodlaw05_awake.f k).bind fun t212 => (some t212)) else (some false)))) else (if x13 ≤ 0 then (if x7 ≥ 0 then ((graftwoodlaw05_awake.f k).bind fun t213 => (some t213)) else (if x11 ≥ 0 then ((graftwoodlaw05_awake.f k).bind fun t214 => (some t214)) else (if x13 < 0 then ((graftwoodlaw05_awake.f k).bind fun t215 => (some t215)) else (some false)))) else (some false)))) else (some false)) else (some false)) else (some false))
def graftwoodlaw05_NodeOrder.f (k : Nat) (a0_0 : ByteArray) (a0_1 : ByteArray) (a1_0 : ByteArray) (a1_1 : ByteArray) (a2_0 : ByteArray) (a2_1 : ByteArray) : Option (Bool) := (graftwoodlaw05_One.f a0_0 a0_1).bind fun bt187 => ((graftwoodlaw05_One.f a1_0 a1_1).bind fun bt189 => ((graftwoodlaw05_One.f a2_0 a2_1).bind fun bt191 => ((node_Cmp.f k bt187.1 bt187.2 bt189.1 bt189.2).bind fun bt193 => ((node_Cmp.f k bt189.1 bt189.2 bt187.1 bt187.2).bind fun bt195 => ((node_Cmp.f k bt189.1 bt189.2 bt191.1 bt191.2).bind fun bt197 => ((node_Cmp.f k bt187.1 bt187.2 bt191.1 bt191.2).bind fun bt199 => (if bt193.2 = 0 then (if bt197.2 = 0 then (graftwoodlaw05_NodeOrder.j0 k bt193.1 bt195.1 bt195.2 bt197.1 bt199.1 (bt199.2 != 0) bt187.1 bt187.2 bt189.1 bt189.2 bt191.1 bt191.2) else (graftwoodlaw05_NodeOrder.j0 k bt193.1 bt195.1 bt195.2 bt197.1 bt199.1 true bt187.1 bt187.2 bt189.1 bt189.2 bt191.1 bt191.2)) else (graftwoodlaw05_NodeOrder.j0 k bt193.1 bt195.1 bt195.2 bt197.1 bt199.1 true bt187.1 bt187.2 bt189.1 bt189.2 bt191.1 bt191.2))))))))
theorem graftwoodlaw05_NodeOrder.mono_l : ∀ k, (∀ y0 y1 y2 y3 y4 y5 y6 y7 y8 y9 y10 y11, LeO (graftwoodlaw05_NodeOrder.j0 k y0 y1 y2 y3 y4 y5 y6 y7 y8 y9 y10 y11) (graftwoodlaw05_NodeOrder.j0 (k + 1) y0 y1 y2 y3 y4 y5 y6 y7 y8 y9 y10 y11))
  | 0 => fun _ _ _ _ _ _ _ _ _ _ _ _ r h => by simp [graftwoodlaw05_NodeOrder.j0] at h
  | k + 1 => by
    have ih0 := graftwoodlaw05_NodeOrder.mono_l k
    · intro y0 y1 y2 y3 y4 y5 y6 y7 y8 y9 y10 y11
      unfold graftwoodlaw05_NodeOrder.j0
      repeat' first
      | (with_reducible exact ih0 _ _ _ _ _ _ _ _ _ _ _ _)
      | (with_reducible exact graftwoodlaw05_awake.mono _)
      | (with_reducible exact node_Cmp.mono _ _ _ _ _)
      | (with_reducible exact node_May.mono _ _ _)
      | (with_reducible exact LeO.refl _)
      | (with_reducible exact LeO.none _)
      | (with_reducible refine LeO.ite ?_ ?_)
      | (with_reducible refine LeO.bind ?_ (fun _ => ?_))
      | exact ih0 _ _ _ _ _ _ _ _ _ _ _ _
      | exact graftwoodlaw05_awake.mono _
      | exact node_Cmp.mono _ _ _ _ _
      | exact node_May.mono _ _ _
      | exact LeO.none _
      | refine LeO.ite ?_ ?_
      | refine LeO.bind ?_ (fun _ => ?_)
theorem graftwoodlaw05_NodeOrder.mono : ∀ a0 a1 a2 a3 a4 a5 k, LeO (graftwoodlaw05_NodeOrder.f k a0 a1 a2 a3 a4 a5) (graftwoodlaw05_NodeOrder.f (k + 1) a0 a1 a2 a3 a4 a5) := by
  intro a0 a1 a2 a3 a4 a5 k
  have ih0 := graftwoodlaw05_NodeOrder.mono_l k
  unfold graftwoodlaw05_NodeOrder.f
  repeat' first
      | (with_reducible exact ih0 _ _ _ _ _ _ _ _ _ _ _ _)
      | (with_reducible exact graftwoodlaw05_awake.mono _)
      | (with_reducible exact node_Cmp.mono _ _ _ _ _)
      | (with_reducible exact node_May.mono _ _ _)
      | (with_reducible exact LeO.refl _)
      | (with_reducible exact LeO.none _)
      | (with_reducible refine LeO.ite ?_ ?_)
      | (with_reducible refine LeO.bind ?_ (fun _ => ?_))
      | exact ih0 _ _ _ _ _ _ _ _ _ _ _ _
      | exact graftwoodlaw05_awake.mono _
      | exact node_Cmp.mono _ _ _ _ _
      | exact node_May.mono _ _ _
      | exact LeO.none _
      | refine LeO.ite ?_ ?_
      | refine LeO.bind ?_ (fun _ => ?_)
def graftwoodlaw05_NodeOrder.T1 : Bool × List (List Nat × List Nat) := (true, [([], []), ([0], [0]), ([], []), ([2, 1], [2]), ([], []), ([4, 3], [4]), ([1, 5, 0, 1], [1]), ([3, 6, 0, 1, 2, 3, 6], [3]), ([5, 7, 0, 1, 2, 3, 4, 5, 6, 7], [5])])
def graftwoodlaw05_NodeOrder.B1 : List Nat := [0, 1, 0, 7, 0, 31, 63, 127, 255]
theorem graftwoodlaw05_NodeOrder.tab1 : rtab .any (opsOf Tryd.f3 1) = graftwoodlaw05_NodeOrder.T1 := by kernel_rfl
theorem graftwoodlaw05_NodeOrder.bits1 : waitsOk graftwoodlaw05_NodeOrder.T1.2 graftwoodlaw05_NodeOrder.B1 = true := by kernel_rfl
set_option maxHeartbeats 8000000 in
set_option maxRecDepth 100000 in
theorem graftwoodlaw05_NodeOrder.calls (k : Nat) (a0_0 : ByteArray) (a0_1 : ByteArray) (a1_0 : ByteArray) (a1_1 : ByteArray) (a2_0 : ByteArray) (a2_1 : ByteArray) (r : Bool) (w : World) (h : graftwoodlaw05_NodeOrder.f k a0_0 a0_1 a1_0 a1_1 a2_0 a2_1 = some r) :
    Calls Tryd.prog 3 #[.agg #[.string a0_0, .string a0_1], .agg #[.string a1_0, .string a1_1], .agg #[.string a2_0, .string a2_1]] w fun e w' => e = .returned (.bool r) ∧ Below w.heap.size w w' := by
  have hu23 := Tryd.underlying23
  have HB := Aside0.mk (Below.refl w.heap.size w)
  have H : ((graftwoodlaw05_One.f a0_0 a0_1).bind fun bt187 => ((graftwoodlaw05_One.f a1_0 a1_1).bind fun bt189 => ((graftwoodlaw05_One.f a2_0 a2_1).bind fun bt191 => ((node_Cmp.f k bt187.1 bt187.2 bt189.1 bt189.2).bind fun bt193 => ((node_Cmp.f k bt189.1 bt189.2 bt187.1 bt187.2).bind fun bt195 => ((node_Cmp.f k bt189.1 bt189.2 bt191.1 bt191.2).bind fun bt197 => ((node_Cmp.f k bt187.1 bt187.2 bt191.1 bt191.2).bind fun bt199 => (if bt193.2 = 0 then (if bt197.2 = 0 then (graftwoodlaw05_NodeOrder.j0 k bt193.1 bt195.1 bt195.2 bt197.1 bt199.1 (bt199.2 != 0) bt187.1 bt187.2 bt189.1 bt189.2 bt191.1 bt191.2) else (graftwoodlaw05_NodeOrder.j0 k bt193.1 bt195.1 bt195.2 bt197.1 bt199.1 true bt187.1 bt187.2 bt189.1 bt189.2 bt191.1 bt191.2)) else (graftwoodlaw05_NodeOrder.j0 k bt193.1 bt195.1 bt195.2 bt197.1 bt199.1 true bt187.1 bt187.2 bt189.1 bt189.2 bt191.1 bt191.2))))))))) = some r := h
  clear h
  replace H := Option.bind_eq_some_iff.mp H
  obtain ⟨⟨t187, t188⟩, A40, H⟩ := H
  replace H : ((graftwoodlaw05_One.f a1_0 a1_1).bind fun bt189 => ((graftwoodlaw05_One.f a2_0 a2_1).bind fun bt191 => ((node_Cmp.f k t187 t188 bt189.1 bt189.2).bind fun bt193 => ((node_Cmp.f k bt189.1 bt189.2 t187 t188).bind fun bt195 => ((node_Cmp.f k bt189.1 bt189.2 bt191.1 bt191.2).bind fun bt197 => ((node_Cmp.f k t187 t188 bt191.1 bt191.2).bind fun bt199 => (if bt193.2 = 0 then (if bt197.2 = 0 then (graftwoodlaw05_NodeOrder.j0 k bt193.1 bt195.1 bt195.2 bt197.1 bt199.1 (bt199.2 != 0) t187 t188 bt189.1 bt189.2 bt191.1 bt191.2) else (graftwoodlaw05_NodeOrder.j0 k bt193.1 bt195.1 bt195.2 bt197.1 bt199.1 true t187 t188 bt189.1 bt189.2 bt191.1 bt191.2)) else (graftwoodlaw05_NodeOrder.j0 k bt193.1 bt195.1 bt195.2 bt197.1 bt199.1 true t187 t188 bt189.1 bt189.2 bt191.1 bt191.2)))))))) = some r := H
  have A4 := Aside0.mk A40
  clear A40
  replace H := Option.bind_eq_some_iff.mp H
  obtain ⟨⟨t189, t190⟩, A50, H⟩ := H
  replace H : ((graftwoodlaw05_One.f a2_0 a2_1).bind fun bt191 => ((node_Cmp.f k t187 t188 t189 t190).bind fun bt193 => ((node_Cmp.f k t189 t190 t187 t188).bind fun bt195 => ((node_Cmp.f k t189 t190 bt191.1 bt191.2).bind fun bt197 => ((node_Cmp.f k t187 t188 bt191.1 bt191.2).bind fun bt199 => (if bt193.2 = 0 then (if bt197.2 = 0 then (graftwoodlaw05_NodeOrder.j0 k bt193.1 bt195.1 bt195.2 bt197.1 bt199.1 (bt199.2 != 0) t187 t188 t189 t190 bt191.1 bt191.2) else (graftwoodlaw05_NodeOrder.j0 k bt193.1 bt195.1 bt195.2 bt197.1 bt199.1 true t187 t188 t189 t190 bt191.1 bt191.2)) else (graftwoodlaw05_NodeOrder.j0 k bt193.1 bt195.1 bt195.2 bt197.1 bt199.1 true t187 t188 t189 t190 bt191.1 bt191.2))))))) = some r := H
  have A5 := Aside0.mk A50
  clear A50
  replace H := Option.bind_eq_some_iff.mp H
  obtain ⟨⟨t191, t192⟩, A60, H⟩ := H
  replace H : ((node_Cmp.f k t187 t188 t189 t190).bind fun bt193 => ((node_Cmp.f k t189 t190 t187 t188).bind fun bt195 => ((node_Cmp.f k t189 t190 t191 t192).bind fun bt197 => ((node_Cmp.f k t187 t188 t191 t192).bind fun bt199 => (if bt193.2 = 0 then (if bt197.2 = 0 then (graftwoodlaw05_NodeOrder.j0 k bt193.1 bt195.1 bt195.2 bt197.1 bt199.1 (bt199.2 != 0) t187 t188 t189 t190 t191 t192) else (graftwoodlaw05_NodeOrder.j0 k bt193.1 bt195.1 bt195.2 bt197.1 bt199.1 true t187 t188 t189 t190 t191 t192)) else (graftwoodlaw05_NodeOrder.j0 k bt193.1 bt195.1 bt195.2 bt197.1 bt199.1 true t187 t188 t189 t190 t191 t192)))))) = some r := H
  have A6 := Aside0.mk A60
  clear A60
  replace H := Option.bind_eq_some_iff.mp H
  obtain ⟨⟨t193, t194⟩, A70, H⟩ := H
  replace H : ((node_Cmp.f k t189 t190 t187 t188).bind fun bt195 => ((node_Cmp.f k t189 t190 t191 t192).bind fun bt197 => ((node_Cmp.f k t187 t188 t191 t192).bind fun bt199 => (if t194 = 0 then (if bt197.2 = 0 then (graftwoodlaw05_NodeOrder.j0 k t193 bt195.1 bt195.2 bt197.1 bt199.1 (bt199.2 != 0) t187 t188 t189 t190 t191 t192) else (graftwoodlaw05_NodeOrder.j0 k t193 bt195.1 bt195.2 bt197.1 bt199.1 true t187 t188 t189 t190 t191 t192)) else (graftwoodlaw05_NodeOrder.j0 k t193 bt195.1 bt195.2 bt197.1 bt199.1 true t187 t188 t189 t190 t191 t192))))) = some r := H
  have A7 := Aside0.mk A70
  clear A70
  replace H := Option.bind_eq_some_iff.mp H
  obtain ⟨⟨t195, t196⟩, A80, H⟩ := H
  replace H : ((node_Cmp.f k t189 t190 t191 t192).bind fun bt197 => ((node_Cmp.f k t187 t188 t191 t192).bind fun bt199 => (if t194 = 0 then (if bt197.2 = 0 then (graftwoodlaw05_NodeOrder.j0 k t193 t195 t196 bt197.1 bt199.1 (bt199.2 != 0) t187 t188 t189 t190 t191 t192) else (graftwoodlaw05_NodeOrder.j0 k t193 t195 t196 bt197.1 bt199.1 true t187 t188 t189 t190 t191 t192)) else (graftwoodlaw05_NodeOrder.j0 k t193 t195 t196 bt197.1 bt199.1 true t187 t188 t189 t190 t191 t192)))) = some r := H
  have A8 := Aside0.mk A80
  clear A80
  replace H := Option.bind_eq_some_iff.mp H
  obtain ⟨⟨t197, t198⟩, A90, H⟩ := H
  replace H : ((node_Cmp.f k t187 t188 t191 t192).bind fun bt199 => (if t194 = 0 then (if t198 = 0 then (graftwoodlaw05_NodeOrder.j0 k t193 t195 t196 t197 bt199.1 (bt199.2 != 0) t187 t188 t189 t190 t191 t192) else (graftwoodlaw05_NodeOrder.j0 k t193 t195 t196 t197 bt199.1 true t187 t188 t189 t190 t191 t192)) else (graftwoodlaw05_NodeOrder.j0 k t193 t195 t196 t197 bt199.1 true t187 t188 t189 t190 t191 t192))) = some r := H
  have A9 := Aside0.mk A90
  clear A90
  replace H := Option.bind_eq_some_iff.mp H
  obtain ⟨⟨t199, t200⟩, A100, H⟩ := H
  replace H : (if t194 = 0 then (if t198 = 0 then (graftwoodlaw05_NodeOrder.j0 k t193 t195 t196 t197 t199 (t200 != 0) t187 t188 t189 t190 t191 t192) else (graftwoodlaw05_NodeOrder.j0 k t193 t195 t196 t197 t199 true t187 t188 t189 t190 t191 t192)) else (graftwoodlaw05_NodeOrder.j0 k t193 t195 t196 t197 t199 true t187 t188 t189 t190 t191 t192)) = some r := H
  have A10 := Aside0.mk A100
  clear A100
  have HC11 := Aside0.mk H
  clear H
  go_enter Tryd.func3, Tryd.ntmps3
  try go_wp2_with (first | ((with_reducible refine gate_dst (N := 3) rfl ?_); refine box_event ?hg (N := 3) ?hd (cs := #[.string a0_0, .string a0_1]) (t := 23) ?hr ?_; (case hd => rfl); (case hg => rfl); (case hr => first | (go_simp; done) | (go_simp; rfl)); intro gb184 hg w12 hbox hb; have n0_ := Aside0.mk (below_step (by repeat (first | (with_reducible first | exact HB.out | apply below_alloc | apply pw_below_drewN | apply below_drew1) | exact HB.out)) hb); have n1_ := Aside0.mk (hbox); have n2_ := Aside0.mk ((by rw [hg]; exact (below_size (by repeat (first | (with_reducible first | exact HB.out | apply below_alloc | apply pw_below_drewN | apply below_drew1) | exact HB.out))) : w.heap.size ≤ gb184)); have n3_ := Aside0.mk ((by rw [hg]; exact (below_size (by repeat (first | (with_reducible first | exact HB.out | apply below_alloc | apply pw_below_drewN | apply below_drew1) | exact HB.out))) : w.heap.size ≤ gb184)); clear HB; have HB := n0_; have BK184 := n1_; have GW184 := n2_; have GE184 := n3_; clear n0_ n1_ n2_ n3_; clear hb hbox hg) | ((with_reducible refine gate_dst (N := 4) rfl ?_); refine box_event ?hg (N := 4) ?hd (cs := #[.string a1_0, .string a1_1]) (t := 23) ?hr ?_; (case hd => rfl); (case hg => rfl); (case hr => first | (go_simp; done) | (go_simp; rfl)); intro gb185 hg w13 hbox hb; have n0_ := Aside0.mk (blk_below (g := gb184) (o := .cells #[.string a0_0, .string a0_1] 23 (0, 0)) (by (with_reducible repeat (first | refine blk_drewN ?_ _ | refine blk_drew ?_ | refine blk_alloc ?_ _)); exact BK184.out) hb); have n1_ := Aside0.mk (below_step (by repeat (first | (with_reducible first | exact HB.out | apply below_alloc | apply pw_below_drewN | apply below_drew1 | refine below_set ?_ GE184.out) | exact HB.out)) hb); have n2_ := Aside0.mk (hbox); have n3_ := Aside0.mk ((by rw [hg]; exact (below_size (by repeat (first | (with_reducible first | exact HB.out | apply below_alloc | apply pw_below_drewN | apply below_drew1 | refine below_set ?_ GE184.out) | exact HB.out))) : w.heap.size ≤ gb185)); have n4_ := Aside0.mk ((by rw [hg]; exact (below_size (by repeat (first | (with_reducible first | exact HB.out | apply below_alloc | apply pw_below_drewN | apply below_drew1 | refine below_set ?_ GE184.out) | exact HB.out))) : w.heap.size ≤ gb185)); have n5_ := Aside0.mk ((by rw [hg]; exact Nat.ne_of_lt (blk_lt (g := gb184) (o := .cells #[.string a0_0, .string a0_1] 23 (0, 0)) (by (with_reducible repeat (first | refine blk_drewN ?_ _ | refine blk_drew ?_ | refine blk_alloc ?_ _)); exact BK184.out)) : gb184 ≠ gb185)); have n6_ := Aside0.mk ((by rw [hg]; exact Nat.ne_of_gt (blk_lt (g := gb184) (o := .cells #[.string a0_0, .string a0_1] 23 (0, 0)) (by (with_reducible repeat (first | refine blk_drewN ?_ _ | refine blk_drew ?_ | refine blk_alloc ?_ _)); exact BK184.out)) : gb185 ≠ gb184)); clear BK184; clear HB; have BK184 := n0_; have HB := n1_; have BK185 := n2_; have GW185 := n3_; have GE185 := n4_; have NB184_185 := n5_; have NB185_184 := n6_; clear n0_ n1_ n2_ n3_ n4_ n5_ n6_; clear hb hbox hg) | ((with_reducible refine gate_dst (N := 5) rfl ?_); refine box_event ?hg (N := 5) ?hd (cs := #[.string a2_0, .string a2_1]) (t := 23) ?hr ?_; (case hd => rfl); (case hg => rfl); (case hr => first | (go_simp; done) | (go_simp; rfl)); intro gb186 hg w14 hbox hb; have n0_ := Aside0.mk (blk_below (g := gb184) (o := .cells #[.string a0_0, .string a0_1] 23 (0, 0)) (by (with_reducible repeat (first | refine blk_drewN ?_ _ | refine blk_drew ?_ | refine blk_alloc ?_ _)); exact BK184.out) hb); have n1_ := Aside0.mk (blk_below (g := gb185) (o := .cells #[.string a1_0, .string a1_1] 23 (0, 0)) (by (with_reducible repeat (first | refine blk_drewN ?_ _ | refine blk_drew ?_ | refine blk_alloc ?_ _)); exact BK185.out) hb); have n2_ := Aside0.mk (below_step (by repeat (first | (with_reducible first | exact HB.out | apply below_alloc | apply pw_below_drewN | apply below_drew1 | refine below_set ?_ GE184.out | refine below_set ?_ GE185.out) | exact HB.out)) hb); have n3_ := Aside0.mk (hbox); have n4_ := Aside0.mk ((by rw [hg]; exact (below_size (by repeat (first | (with_reducible first | exact HB.out | apply below_alloc | apply pw_below_drewN | apply below_drew1 | refine below_set ?_ GE184.out | refine below_set ?_ GE185.out) | exact HB.out))) : w.heap.size ≤ gb186)); have n5_ := Aside0.mk ((by rw [hg]; exact (below_size (by repeat (first | (with_reducible first | exact HB.out | apply below_alloc | apply pw_below_drewN | apply below_drew1 | refine below_set ?_ GE184.out | refine below_set ?_ GE185.out) | exact HB.out))) : w.heap.size ≤ gb186)); have n6_ := Aside0.mk ((by rw [hg]; exact Nat.ne_of_lt (blk_lt (g := gb184) (o := .cells #[.string a0_0, .string a0_1] 23 (0, 0)) (by (with_reducible repeat (first | refine blk_drewN ?_ _ | refine blk_drew ?_ | refine blk_alloc ?_ _)); exact BK184.out)) : gb184 ≠ gb186)); have n7_ := Aside0.mk ((by rw [hg]; exact Nat.ne_of_gt (blk_lt (g := gb184) (o := .cells #[.string a0_0, .string a0_1] 23 (0, 0)) (by (with_reducible repeat (first | refine blk_drewN ?_ _ | refine blk_drew ?_ | refine blk_alloc ?_ _)); exact BK184.out)) : gb186 ≠ gb184)); have n8_ := Aside0.mk ((by rw [hg]; exact Nat.ne_of_lt (blk_lt (g := gb185) (o := .cells #[.string a1_0, .string a1_1] 23 (0, 0)) (by (with_reducible repeat (first | refine blk_drewN ?_ _ | refine blk_drew ?_ | refine blk_alloc ?_ _)); exact BK185.out)) : gb185 ≠ gb186)); have n9_ := Aside0.mk ((by rw [hg]; exact Nat.ne_of_gt (blk_lt (g := gb185) (o := .cells #[.string a1_0, .string a1_1] 23 (0, 0)) (by (with_reducible repeat (first | refine blk_drewN ?_ _ | refine blk_drew ?_ | refine blk_alloc ?_ _)); exact BK185.out)) : gb186 ≠ gb185)); clear BK184; clear BK185; clear HB; have BK184 := n0_; have BK185 := n1_; have HB := n2_; have BK186 := n3_; have GW186 := n4_; have GE186 := n5_; have NB184_186 := n6_; have NB186_184 := n7_; have NB185_186 := n8_; have NB186_185 := n9_; clear n0_ n1_ n2_ n3_ n4_ n5_ n6_ n7_ n8_ n9_; clear hb hbox hg))
  have n0_ := Aside0.mk (blk_drew BK184.out)
  have n1_ := Aside0.mk (blk_drew BK185.out)
  have n2_ := Aside0.mk (blk_drew BK186.out)
  have n3_ := Aside0.mk (below_drew1 HB.out)
  clear BK184
  clear BK185
  clear BK186
  clear HB
  have BK184 := n0_
  have BK185 := n1_
  have BK186 := n2_
  have HB := n3_
  clear n0_ n1_ n2_ n3_
  refine start_ (n := 9) (S := fun w' => w'.cell? ⟨gb184, 0, none⟩ = some (.string a0_0) ∧ w'.cell? ⟨gb184, 1, none⟩ = some (.string a0_1) ∧ w'.cell? ⟨gb185, 0, none⟩ = some (.string a1_0) ∧ w'.cell? ⟨gb185, 1, none⟩ = some (.string a1_1) ∧ w'.cell? ⟨gb186, 0, none⟩ = some (.string a2_0) ∧ w'.cell? ⟨gb186, 1, none⟩ = some (.string a2_1)) (ds := [6, 7, 8]) #[false, false, false, false, false, false, false, false, false] (by kernel_rfl) rfl rfl ⟨(blk_cell BK184.out 0).trans rfl, (blk_cell BK184.out 1).trans rfl, (blk_cell BK185.out 0).trans rfl, (blk_cell BK185.out 1).trans rfl, (blk_cell BK186.out 0).trans rfl, (blk_cell BK186.out 1).trans rfl⟩ (fun hHeld => ?_); refine with_tabW graftwoodlaw05_NodeOrder.tab1 graftwoodlaw05_NodeOrder.bits1 (fun HT_ HW_ => ?_)
  generalize w14.drew = w15 at BK184 BK185 BK186 HB hHeld ⊢
  refine take_ (i := 0) (N := some 15) (v := ?_) (a' := ?_) #[true, false, false, false, false, false, false, false, false] rfl rfl (take_ofW HT_.out HW_.out (by kernel_rfl)) (fun _ _ _ h => h) (Or.inl ⟨by rfl, ?_⟩) hHeld ?_ ?_
  rotate_left
  · rintro w' ⟨s0, s1, s2, s3, s4, s5⟩
    go_simp
    with_reducible rfl
  rotate_left
  · simp only [Act.put, List.setIfInBounds_toArray, List.set_cons_zero, List.set_cons_succ, i64_w, i32_w]
    rfl
  refine take_ (i := 2) (N := some 17) (v := ?_) (a' := ?_) #[true, false, true, false, false, false, false, false, false] rfl rfl (take_ofW HT_.out HW_.out (by kernel_rfl)) (fun _ _ _ h => h) (Or.inl ⟨by rfl, ?_⟩) hHeld ?_ ?_
  rotate_left
  · rintro w' ⟨s0, s1, s2, s3, s4, s5⟩
    go_simp
    with_reducible rfl
  rotate_left
  · simp only [Act.put, List.setIfInBounds_toArray, List.set_cons_zero, List.set_cons_succ, i64_w, i32_w]
    rfl
  refine take_ (i := 4) (N := some 19) (v := ?_) (a' := ?_) #[true, false, true, false, true, false, false, false, false] rfl rfl (take_ofW HT_.out HW_.out (by kernel_rfl)) (fun _ _ _ h => h) (Or.inl ⟨by rfl, ?_⟩) hHeld ?_ ?_
  rotate_left
  · rintro w' ⟨s0, s1, s2, s3, s4, s5⟩
    go_simp
    with_reducible rfl
  rotate_left
  · simp only [Act.put, List.setIfInBounds_toArray, List.set_cons_zero, List.set_cons_succ, i64_w, i32_w]
    rfl
  refine one_ (i := 1) (N := some 16) #[true, true, true, false, true, false, false, false, false] rfl rfl (one_of HT_.out (by kernel_rfl)) (by decide) (fun K hK => ?_)
  refine goes_ Tryd.func8 (by kernel_rfl) rfl #[.agg #[.string a0_0, .string a0_1]] (by rfl) rfl rfl (by (try simp only [List.map_toArray, List.map_cons, List.map_nil]); first | done | rfl | (simp only [List.length_drop, List.length_take]; rfl)) ?_
  with_reducible refine (graftwoodlaw05_One.calls a0_0 a0_1 t187 t188 _ A4.out).mono ?_
  rintro e w16 ⟨rfl, hb⟩
  refine ⟨_, rfl, ?_⟩
  have n0_ := Aside0.mk (blk_below (g := gb184) (o := .cells #[.string a0_0, .string a0_1] 23 (0, 0)) (by (with_reducible repeat (first | refine blk_drewN ?_ _ | refine blk_drew ?_ | refine blk_alloc ?_ _)); exact BK184.out) hb)
  have n1_ := Aside0.mk (blk_below (g := gb185) (o := .cells #[.string a1_0, .string a1_1] 23 (0, 0)) (by (with_reducible repeat (first | refine blk_drewN ?_ _ | refine blk_drew ?_ | refine blk_alloc ?_ _)); exact BK185.out) hb)
  have n2_ := Aside0.mk (blk_below (g := gb186) (o := .cells #[.string a2_0, .string a2_1] 23 (0, 0)) (by (with_reducible repeat (first | refine blk_drewN ?_ _ | refine blk_drew ?_ | refine blk_alloc ?_ _)); exact BK186.out) hb)
  have n3_ := Aside0.mk (below_step (by repeat (first | (with_reducible first | exact HB.out | apply below_alloc | apply pw_below_drewN | apply below_drew1 | refine below_set ?_ GE184.out | refine below_set ?_ GE185.out | refine below_set ?_ GE186.out) | exact HB.out)) hb)
  clear BK184
  clear BK185
  clear BK186
  clear HB
  have BK184 := n0_
  have BK185 := n1_
  have BK186 := n2_
  have HB := n3_
  clear n0_ n1_ n2_ n3_
  (try clear hb)
  (try clear hb2)
  (try clear hk)
  (try clear hi)
  refine hK.out _ _ ⟨(blk_cell BK184.out 0).trans rfl, (blk_cell BK184.out 1).trans rfl, (blk_cell BK185.out 0).trans rfl, (blk_cell BK185.out 1).trans rfl, (blk_cell BK186.out 0).trans rfl, (blk_cell BK186.out 1).trans rfl⟩ (fun hHeld => ?_)
  clear hK K
  refine norm_ (a' := ?_) ?_ ?_
  rotate_left
  · show Act.put _ (some 16) _ = _
    simp only [Act.put, List.setIfInBounds_toArray, List.set_cons_zero, List.set_cons_succ, i64_w, i32_w]
    rfl
  refine one_ (i := 3) (N := some 18) #[true, true, true, true, true, false, false, false, false] rfl rfl (one_of HT_.out (by kernel_rfl)) (by decide) (fun K hK => ?_)
  refine goes_ Tryd.func8 (by kernel_rfl) rfl #[.agg #[.string a1_0, .string a1_1]] (by rfl) rfl rfl (by (try simp only [List.map_toArray, List.map_cons, List.map_nil]); first | done | rfl | (simp only [List.length_drop, List.length_take]; rfl)) ?_
  with_reducible refine (graftwoodlaw05_One.calls a1_0 a1_1 t189 t190 _ A5.out).mono ?_
  rintro e w17 ⟨rfl, hb⟩
  refine ⟨_, rfl, ?_⟩
  have n0_ := Aside0.mk (blk_below (g := gb184) (o := .cells #[.string a0_0, .string a0_1] 23 (0, 0)) (by (with_reducible repeat (first | refine blk_drewN ?_ _ | refine blk_drew ?_ | refine blk_alloc ?_ _)); exact BK184.out) hb)
  have n1_ := Aside0.mk (blk_below (g := gb185) (o := .cells #[.string a1_0, .string a1_1] 23 (0, 0)) (by (with_reducible repeat (first | refine blk_drewN ?_ _ | refine blk_drew ?_ | refine blk_alloc ?_ _)); exact BK185.out) hb)
  have n2_ := Aside0.mk (blk_below (g := gb186) (o := .cells #[.string a2_0, .string a2_1] 23 (0, 0)) (by (with_reducible repeat (first | refine blk_drewN ?_ _ | refine blk_drew ?_ | refine blk_alloc ?_ _)); exact BK186.out) hb)
  have n3_ := Aside0.mk (below_step (by repeat (first | (with_reducible first | exact HB.out | apply below_alloc | apply pw_below_drewN | apply below_drew1 | refine below_set ?_ GE184.out | refine below_set ?_ GE185.out | refine below_set ?_ GE186.out) | exact HB.out)) hb)
  clear BK184
  clear BK185
  clear BK186
  clear HB
  have BK184 := n0_
  have BK185 := n1_
  have BK186 := n2_
  have HB := n3_
  clear n0_ n1_ n2_ n3_
  (try clear hb)
  (try clear hb2)
  (try clear hk)
  (try clear hi)
  refine hK.out _ _ ⟨(blk_cell BK184.out 0).trans rfl, (blk_cell BK184.out 1).trans rfl, (blk_cell BK185.out 0).trans rfl, (blk_cell BK185.out 1).trans rfl, (blk_cell BK186.out 0).trans rfl, (blk_cell BK186.out 1).trans rfl⟩ (fun hHeld => ?_)
  clear hK K
  refine norm_ (a' := ?_) ?_ ?_
  rotate_left
  · show Act.put _ (some 18) _ = _
    simp only [Act.put, List.setIfInBounds_toArray, List.set_cons_zero, List.set_cons_succ, i64_w, i32_w]
    rfl
  refine one_ (i := 5) (N := some 20) #[true, true, true, true, true, true, false, false, false] rfl rfl (one_of HT_.out (by kernel_rfl)) (by decide) (fun K hK => ?_)
  refine goes_ Tryd.func8 (by kernel_rfl) rfl #[.agg #[.string a2_0, .string a2_1]] (by rfl) rfl rfl (by (try simp only [List.map_toArray, List.map_cons, List.map_nil]); first | done | rfl | (simp only [List.length_drop, List.length_take]; rfl)) ?_
  with_reducible refine (graftwoodlaw05_One.calls a2_0 a2_1 t191 t192 _ A6.out).mono ?_
  rintro e w18 ⟨rfl, hb⟩
  refine ⟨_, rfl, ?_⟩
  have n0_ := Aside0.mk (blk_below (g := gb184) (o := .cells #[.string a0_0, .string a0_1] 23 (0, 0)) (by (with_reducible repeat (first | refine blk_drewN ?_ _ | refine blk_drew ?_ | refine blk_alloc ?_ _)); exact BK184.out) hb)
  have n1_ := Aside0.mk (blk_below (g := gb185) (o := .cells #[.string a1_0, .string a1_1] 23 (0, 0)) (by (with_reducible repeat (first | refine blk_drewN ?_ _ | refine blk_drew ?_ | refine blk_alloc ?_ _)); exact BK185.out) hb)
  have n2_ := Aside0.mk (blk_below (g := gb186) (o := .cells #[.string a2_0, .string a2_1] 23 (0, 0)) (by (with_reducible repeat (first | refine blk_drewN ?_ _ | refine blk_drew ?_ | refine blk_alloc ?_ _)); exact BK186.out) hb)
  have n3_ := Aside0.mk (below_step (by repeat (first | (with_reducible first | exact HB.out | apply below_alloc | apply pw_below_drewN | apply below_drew1 | refine below_set ?_ GE184.out | refine below_set ?_ GE185.out | refine below_set ?_ GE186.out) | exact HB.out)) hb)
  clear BK184
  clear BK185
  clear BK186
  clear HB
  have BK184 := n0_
  have BK185 := n1_
  have BK186 := n2_
  have HB := n3_
  clear n0_ n1_ n2_ n3_
  (try clear hb)
  (try clear hb2)
  (try clear hk)
  (try clear hi)
  refine hK.out _ _ ⟨(blk_cell BK184.out 0).trans rfl, (blk_cell BK184.out 1).trans rfl, (blk_cell BK185.out 0).trans rfl, (blk_cell BK185.out 1).trans rfl, (blk_cell BK186.out 0).trans rfl, (blk_cell BK186.out 1).trans rfl⟩ (fun hHeld => ?_)
  clear hK K
  refine norm_ (a' := ?_) ?_ ?_
  rotate_left
  · show Act.put _ (some 20) _ = _
    simp only [Act.put, List.setIfInBounds_toArray, List.set_cons_zero, List.set_cons_succ, i64_w, i32_w]
    rfl
  refine last_ (i := 6) (N := none) #[true, true, true, true, true, true, true, false, false] rfl rfl (one_of HT_.out (by kernel_rfl)) (by decide) (fun K hK => ?_)
  have hs19 : w18.cell? ⟨gb184, 0, none⟩ = some (.string a0_0) := (blk_cell BK184.out 0).trans rfl
  have hfs19 := blk_frozen BK184.out 0
  have hns19_1 := NB185_184.out
  have hns19_2 := NB186_184.out
  have hms19_1 := NB184_185.out
  have hms19_2 := NB184_186.out
  have hs20 : w18.cell? ⟨gb184, 1, none⟩ = some (.string a0_1) := (blk_cell BK184.out 1).trans rfl
  have hfs20 := blk_frozen BK184.out 1
  have hns20_1 := NB185_184.out
  have hns20_2 := NB186_184.out
  have hms20_1 := NB184_185.out
  have hms20_2 := NB184_186.out
  refine skip_ (w1 := ?_) (by rfl) rfl ?_ ?_
  rotate_left
  · go_simp
    rfl
  refine hK.out _ _ ?_
  clear hK K
  refine last_ (i := 7) (N := none) #[true, true, true, true, true, true, true, true, false] rfl rfl (one_of HT_.out (by kernel_rfl)) (by decide) (fun K hK => ?_)
  have hs21 : w18.cell? ⟨gb185, 0, none⟩ = some (.string a1_0) := (blk_cell BK185.out 0).trans rfl
  have hfs21 := blk_frozen BK185.out 0
  have hns21_0 := NB184_185.out
  have hns21_2 := NB186_185.out
  have hms21_0 := NB185_184.out
  have hms21_2 := NB185_186.out
  have hs22 : w18.cell? ⟨gb185, 1, none⟩ = some (.string a1_1) := (blk_cell BK185.out 1).trans rfl
  have hfs22 := blk_frozen BK185.out 1
  have hns22_0 := NB184_185.out
  have hns22_2 := NB186_185.out
  have hms22_0 := NB185_184.out
  have hms22_2 := NB185_186.out
  refine skip_ (w1 := ?_) (by rfl) rfl ?_ ?_
  rotate_left
  · go_simp
    rfl
  refine hK.out _ _ ?_
  clear hK K
  refine last_ (i := 8) (N := none) #[true, true, true, true, true, true, true, true, true] rfl rfl (one_of HT_.out (by kernel_rfl)) (by decide) (fun K hK => ?_)
  have hs23 : w18.cell? ⟨gb186, 0, none⟩ = some (.string a2_0) := (blk_cell BK186.out 0).trans rfl
  have hfs23 := blk_frozen BK186.out 0
  have hns23_0 := NB184_186.out
  have hns23_1 := NB185_186.out
  have hms23_0 := NB186_184.out
  have hms23_1 := NB186_185.out
  have hs24 : w18.cell? ⟨gb186, 1, none⟩ = some (.string a2_1) := (blk_cell BK186.out 1).trans rfl
  have hfs24 := blk_frozen BK186.out 1
  have hns24_0 := NB184_186.out
  have hns24_1 := NB185_186.out
  have hms24_0 := NB186_184.out
  have hms24_1 := NB186_185.out
  refine skip_ (w1 := ?_) (by rfl) rfl ?_ ?_
  rotate_left
  · go_simp
    rfl
  refine hK.out _ _ ?_
  clear hK K
  refine done_ (done_of HT_.out (by kernel_rfl)) ?_
  have hnb25 := NB184_185.out
  have hnc25 := NB185_184.out
  have hnb26 := NB184_186.out
  have hnc26 := NB186_184.out
  have hcz27_0 : w18.cell? ⟨gb184, 0, none⟩ = some (.string a0_0) := (blk_cell BK184.out 0).trans rfl
  have hcz27_1 : w18.cell? ⟨gb184, 1, none⟩ = some (.string a0_1) := (blk_cell BK184.out 1).trans rfl
  have hfz27_0 := blk_frozen BK184.out 0
  have hfz27_1 := blk_frozen BK184.out 1
  have hnb28 := NB185_186.out
  have hnc28 := NB186_185.out
  have hcz29_0 : w18.cell? ⟨gb185, 0, none⟩ = some (.string a1_0) := (blk_cell BK185.out 0).trans rfl
  have hcz29_1 : w18.cell? ⟨gb185, 1, none⟩ = some (.string a1_1) := (blk_cell BK185.out 1).trans rfl
  have hfz29_0 := blk_frozen BK185.out 0
  have hfz29_1 := blk_frozen BK185.out 1
  go_upto_region 6 with (first | ((with_reducible refine gate_callee (f := 9) rfl ?_); refine goesL_ (some 24) rfl rfl Tryd.func9 (by kernel_rfl) rfl #[.agg #[.string t187, .string t188], .agg #[.string t189, .string t190]] rfl (by (try simp only [List.map_toArray, List.map_cons, List.map_nil]); first | done | rfl | (simp only [List.length_drop, List.length_take]; rfl)) ?_; (with_reducible refine (node_Cmp.calls k t187 t188 t189 t190 t193 t194 _ A7.out).mono ?_); rintro e w30 ⟨rfl, hb⟩; refine ⟨_, rfl, ?_⟩; have n0_ := Aside0.mk (blk_below (g := gb184) (o := .cells #[.string t187, .string t188] 23 (0, 0)) (by (with_reducible repeat (first | refine blk_drewN ?_ _ | refine blk_drew ?_ | refine blk_alloc ?_ _)); refine blk_far ?_ NB184_186.out _; (with_reducible repeat (first | refine blk_drewN ?_ _ | refine blk_drew ?_ | refine blk_alloc ?_ _)); refine blk_far ?_ NB184_186.out _; (with_reducible repeat (first | refine blk_drewN ?_ _ | refine blk_drew ?_ | refine blk_alloc ?_ _)); refine blk_far ?_ NB184_185.out _; (with_reducible repeat (first | refine blk_drewN ?_ _ | refine blk_drew ?_ | refine blk_alloc ?_ _)); refine blk_far ?_ NB184_185.out _; (with_reducible repeat (first | refine blk_drewN ?_ _ | refine blk_drew ?_ | refine blk_alloc ?_ _)); refine blk_put (cs := #[.string t187, .string a0_1]) ?_ 1 _ rfl; (with_reducible repeat (first | refine blk_drewN ?_ _ | refine blk_drew ?_ | refine blk_alloc ?_ _)); refine blk_put (cs := #[.string a0_0, .string a0_1]) ?_ 0 _ rfl; (with_reducible repeat (first | refine blk_drewN ?_ _ | refine blk_drew ?_ | refine blk_alloc ?_ _)); exact BK184.out) hb); have n1_ := Aside0.mk (blk_below (g := gb185) (o := .cells #[.string t189, .string t190] 23 (0, 0)) (by (with_reducible repeat (first | refine blk_drewN ?_ _ | refine blk_drew ?_ | refine blk_alloc ?_ _)); refine blk_far ?_ NB185_186.out _; (with_reducible repeat (first | refine blk_drewN ?_ _ | refine blk_drew ?_ | refine blk_alloc ?_ _)); refine blk_far ?_ NB185_186.out _; (with_reducible repeat (first | refine blk_drewN ?_ _ | refine blk_drew ?_ | refine blk_alloc ?_ _)); refine blk_put (cs := #[.string t189, .string a1_1]) ?_ 1 _ rfl; (with_reducible repeat (first | refine blk_drewN ?_ _ | refine blk_drew ?_ | refine blk_alloc ?_ _)); refine blk_put (cs := #[.string a1_0, .string a1_1]) ?_ 0 _ rfl; (with_reducible repeat (first | refine blk_drewN ?_ _ | refine blk_drew ?_ | refine blk_alloc ?_ _)); refine blk_far ?_ NB185_184.out _; (with_reducible repeat (first | refine blk_drewN ?_ _ | refine blk_drew ?_ | refine blk_alloc ?_ _)); refine blk_far ?_ NB185_184.out _; (with_reducible repeat (first | refine blk_drewN ?_ _ | refine blk_drew ?_ | refine blk_alloc ?_ _)); exact BK185.out) hb); have n2_ := Aside0.mk (blk_below (g := gb186) (o := .cells #[.string t191, .string t192] 23 (0, 0)) (by (with_reducible repeat (first | refine blk_drewN ?_ _ | refine blk_drew ?_ | refine blk_alloc ?_ _)); refine blk_put (cs := #[.string t191, .string a2_1]) ?_ 1 _ rfl; (with_reducible repeat (first | refine blk_drewN ?_ _ | refine blk_drew ?_ | refine blk_alloc ?_ _)); refine blk_put (cs := #[.string a2_0, .string a2_1]) ?_ 0 _ rfl; (with_reducible repeat (first | refine blk_drewN ?_ _ | refine blk_drew ?_ | refine blk_alloc ?_ _)); refine blk_far ?_ NB186_185.out _; (with_reducible repeat (first | refine blk_drewN ?_ _ | refine blk_drew ?_ | refine blk_alloc ?_ _)); refine blk_far ?_ NB186_185.out _; (with_reducible repeat (first | refine blk_drewN ?_ _ | refine blk_drew ?_ | refine blk_alloc ?_ _)); refine blk_far ?_ NB186_184.out _; (with_reducible repeat (first | refine blk_drewN ?_ _ | refine blk_drew ?_ | refine blk_alloc ?_ _)); refine blk_far ?_ NB186_184.out _; (with_reducible repeat (first | refine blk_drewN ?_ _ | refine blk_drew ?_ | refine blk_alloc ?_ _)); exact BK186.out) hb); have n3_ := Aside0.mk (below_step (by repeat (first | (with_reducible first | exact HB.out | apply below_alloc | apply pw_below_drewN | apply below_drew1 | refine below_set ?_ GE184.out | refine below_set ?_ GE185.out | refine below_set ?_ GE186.out) | exact HB.out)) hb); clear BK184; clear BK185; clear BK186; clear HB; have BK184 := n0_; have BK185 := n1_; have BK186 := n2_; have HB := n3_; clear n0_ n1_ n2_ n3_; (try clear hb); (try clear hb2); (try clear hk); (try clear hi); have hcz31_0 : w30.cell? ⟨gb185, 0, none⟩ = some (.string t189) := (blk_cell BK185.out 0).trans rfl; have hcz31_1 : w30.cell? ⟨gb185, 1, none⟩ = some (.string t190) := (blk_cell BK185.out 1).trans rfl; have hfz31_0 := blk_frozen BK185.out 0; have hfz31_1 := blk_frozen BK185.out 1; have hcz32_0 : w30.cell? ⟨gb184, 0, none⟩ = some (.string t187) := (blk_cell BK184.out 0).trans rfl; have hcz32_1 : w30.cell? ⟨gb184, 1, none⟩ = some (.string t188) := (blk_cell BK184.out 1).trans rfl; have hfz32_0 := blk_frozen BK184.out 0; have hfz32_1 := blk_frozen BK184.out 1) | ((with_reducible refine gate_callee (f := 9) rfl ?_); refine goesL_ (some 30) rfl rfl Tryd.func9 (by kernel_rfl) rfl #[.agg #[.string t189, .string t190], .agg #[.string t187, .string t188]] rfl (by (try simp only [List.map_toArray, List.map_cons, List.map_nil]); first | done | rfl | (simp only [List.length_drop, List.length_take]; rfl)) ?_; (with_reducible refine (node_Cmp.calls k t189 t190 t187 t188 t195 t196 _ A8.out).mono ?_); rintro e w33 ⟨rfl, hb⟩; refine ⟨_, rfl, ?_⟩; have n0_ := Aside0.mk (blk_below (g := gb184) (o := .cells #[.string t187, .string t188] 23 (0, 0)) (by (with_reducible repeat (first | refine blk_drewN ?_ _ | refine blk_drew ?_ | refine blk_alloc ?_ _)); exact BK184.out) hb); have n1_ := Aside0.mk (blk_below (g := gb185) (o := .cells #[.string t189, .string t190] 23 (0, 0)) (by (with_reducible repeat (first | refine blk_drewN ?_ _ | refine blk_drew ?_ | refine blk_alloc ?_ _)); exact BK185.out) hb); have n2_ := Aside0.mk (blk_below (g := gb186) (o := .cells #[.string t191, .string t192] 23 (0, 0)) (by (with_reducible repeat (first | refine blk_drewN ?_ _ | refine blk_drew ?_ | refine blk_alloc ?_ _)); exact BK186.out) hb); have n3_ := Aside0.mk (below_step (by repeat (first | (with_reducible first | exact HB.out | apply below_alloc | apply pw_below_drewN | apply below_drew1 | refine below_set ?_ GE184.out | refine below_set ?_ GE185.out | refine below_set ?_ GE186.out) | exact HB.out)) hb); clear BK184; clear BK185; clear BK186; clear HB; have BK184 := n0_; have BK185 := n1_; have BK186 := n2_; have HB := n3_; clear n0_ n1_ n2_ n3_; (try clear hb); (try clear hb2); (try clear hk); (try clear hi); have hcz34_0 : w33.cell? ⟨gb185, 0, none⟩ = some (.string t189) := (blk_cell BK185.out 0).trans rfl; have hcz34_1 : w33.cell? ⟨gb185, 1, none⟩ = some (.string t190) := (blk_cell BK185.out 1).trans rfl; have hfz34_0 := blk_frozen BK185.out 0; have hfz34_1 := blk_frozen BK185.out 1; have hcz35_0 : w33.cell? ⟨gb186, 0, none⟩ = some (.string t191) := (blk_cell BK186.out 0).trans rfl; have hcz35_1 : w33.cell? ⟨gb186, 1, none⟩ = some (.string t192) := (blk_cell BK186.out 1).trans rfl; have hfz35_0 := blk_frozen BK186.out 0; have hfz35_1 := blk_frozen BK186.out 1) | ((with_reducible refine gate_callee (f := 9) rfl ?_); refine goesL_ (some 36) rfl rfl Tryd.func9 (by kernel_rfl) rfl #[.agg #[.string t189, .string t190], .agg #[.string t191, .string t192]] rfl (by (try simp only [List.map_toArray, List.map_cons, List.map_nil]); first | done | rfl | (simp only [List.length_drop, List.length_take]; rfl)) ?_; (with_reducible refine (node_Cmp.calls k t189 t190 t191 t192 t197 t198 _ A9.out).mono ?_); rintro e w36 ⟨rfl, hb⟩; refine ⟨_, rfl, ?_⟩; have n0_ := Aside0.mk (blk_below (g := gb184) (o := .cells #[.string t187, .string t188] 23 (0, 0)) (by (with_reducible repeat (first | refine blk_drewN ?_ _ | refine blk_drew ?_ | refine blk_alloc ?_ _)); exact BK184.out) hb); have n1_ := Aside0.mk (blk_below (g := gb185) (o := .cells #[.string t189, .string t190] 23 (0, 0)) (by (with_reducible repeat (first | refine blk_drewN ?_ _ | refine blk_drew ?_ | refine blk_alloc ?_ _)); exact BK185.out) hb); have n2_ := Aside0.mk (blk_below (g := gb186) (o := .cells #[.string t191, .string t192] 23 (0, 0)) (by (with_reducible repeat (first | refine blk_drewN ?_ _ | refine blk_drew ?_ | refine blk_alloc ?_ _)); exact BK186.out) hb); have n3_ := Aside0.mk (below_step (by repeat (first | (with_reducible first | exact HB.out | apply below_alloc | apply pw_below_drewN | apply below_drew1 | refine below_set ?_ GE184.out | refine below_set ?_ GE185.out | refine below_set ?_ GE186.out) | exact HB.out)) hb); clear BK184; clear BK185; clear BK186; clear HB; have BK184 := n0_; have BK185 := n1_; have BK186 := n2_; have HB := n3_; clear n0_ n1_ n2_ n3_; (try clear hb); (try clear hb2); (try clear hk); (try clear hi); have hcz37_0 : w36.cell? ⟨gb184, 0, none⟩ = some (.string t187) := (blk_cell BK184.out 0).trans rfl; have hcz37_1 : w36.cell? ⟨gb184, 1, none⟩ = some (.string t188) := (blk_cell BK184.out 1).trans rfl; have hfz37_0 := blk_frozen BK184.out 0; have hfz37_1 := blk_frozen BK184.out 1; have hcz38_0 : w36.cell? ⟨gb186, 0, none⟩ = some (.string t191) := (blk_cell BK186.out 0).trans rfl; have hcz38_1 : w36.cell? ⟨gb186, 1, none⟩ = some (.string t192) := (blk_cell BK186.out 1).trans rfl; have hfz38_0 := blk_frozen BK186.out 0; have hfz38_1 := blk_frozen BK186.out 1) | ((with_reducible refine gate_callee (f := 9) rfl ?_); refine goesL_ (some 42) rfl rfl Tryd.func9 (by kernel_rfl) rfl #[.agg #[.string t187, .string t188], .agg #[.string t191, .string t192]] rfl (by (try simp only [List.map_toArray, List.map_cons, List.map_nil]); first | done | rfl | (simp only [List.length_drop, List.length_take]; rfl)) ?_; (with_reducible refine (node_Cmp.calls k t187 t188 t191 t192 t199 t200 _ A10.out).mono ?_); rintro e w39 ⟨rfl, hb⟩; refine ⟨_, rfl, ?_⟩; have n0_ := Aside0.mk (blk_below (g := gb184) (o := .cells #[.string t187, .string t188] 23 (0, 0)) (by (with_reducible repeat (first | refine blk_drewN ?_ _ | refine blk_drew ?_ | refine blk_alloc ?_ _)); exact BK184.out) hb); have n1_ := Aside0.mk (blk_below (g := gb185) (o := .cells #[.string t189, .string t190] 23 (0, 0)) (by (with_reducible repeat (first | refine blk_drewN ?_ _ | refine blk_drew ?_ | refine blk_alloc ?_ _)); exact BK185.out) hb); have n2_ := Aside0.mk (blk_below (g := gb186) (o := .cells #[.string t191, .string t192] 23 (0, 0)) (by (with_reducible repeat (first | refine blk_drewN ?_ _ | refine blk_drew ?_ | refine blk_alloc ?_ _)); exact BK186.out) hb); have n3_ := Aside0.mk (below_step (by repeat (first | (with_reducible first | exact HB.out | apply below_alloc | apply pw_below_drewN | apply below_drew1 | refine below_set ?_ GE184.out | refine below_set ?_ GE185.out | refine below_set ?_ GE186.out) | exact HB.out)) hb); clear BK184; clear BK185; clear BK186; clear HB; have BK184 := n0_; have BK185 := n1_; have BK186 := n2_; have HB := n3_; clear n0_ n1_ n2_ n3_; (try clear hb); (try clear hb2); (try clear hk); (try clear hi)))
  (try simp only [Act.put, List.setIfInBounds_toArray, List.set_cons_zero, List.set_cons_succ])
  go_cut [54] (fun v54 wc => ∃ (kq : Nat) (x54_10 : Bool), v54 = .bool x54_10 ∧ Aside0 (graftwoodlaw05_NodeOrder.j0 kq t193 t195 t196 t197 t199 x54_10 t187 t188 t189 t190 t191 t192 = some r) ∧ Aside0 (kq ≤ k) ∧ Aside0 (wc.heap[gb184]? = some (.cells #[.string t187, .string t188] 23 (0, 0))) ∧ Aside0 (wc.heap[gb185]? = some (.cells #[.string t189, .string t190] 23 (0, 0))) ∧ Aside0 (wc.heap[gb186]? = some (.cells #[.string t191, .string t192] 23 (0, 0))) ∧ Aside0 (Below w.heap.size w wc))
  case first =>
    have H := HC11.out
    clear HC11
    by_cases c40 : t194 = 0
    · rw [if_pos c40] at H
      have c40b0 : (t194 == 0) = true := beq_iff_eq.mpr c40
      have c40b1 : (t194 != 0) = false := bne_eq_false_iff_eq.mpr c40
      clear c40
      (first | rw [c40b0] | (simp only [i64_w, i32_w]; rw [c40b0]) | skip)
      by_cases c41 : t198 = 0
      · rw [if_pos c41] at H
        have c41b0 : (t198 == 0) = true := beq_iff_eq.mpr c41
        have c41b1 : (t198 != 0) = false := bne_eq_false_iff_eq.mpr c41
        clear c41
        have H' := Aside0.mk H
        clear H
        go_wp2
        go_meet
        case rel => exact ⟨_, ((t200 != 0)), (by first | rfl | (simp; done) | (simp [*]; done)), H', ⟨by first | omega | exact Nat.le_refl _⟩, ⟨by (with_reducible repeat (first | refine blk_drewN ?_ _ | refine blk_drew ?_ | refine blk_alloc ?_ _)); exact BK184.out⟩, ⟨by (with_reducible repeat (first | refine blk_drewN ?_ _ | refine blk_drew ?_ | refine blk_alloc ?_ _)); exact BK185.out⟩, ⟨by (with_reducible repeat (first | refine blk_drewN ?_ _ | refine blk_drew ?_ | refine blk_alloc ?_ _)); exact BK186.out⟩, ⟨by repeat (first | (with_reducible first | exact HB.out | apply below_alloc | apply pw_below_drewN | apply below_drew1 | refine below_set ?_ GE184.out | refine below_set ?_ GE185.out | refine below_set ?_ GE186.out) | exact HB.out)⟩⟩
      · rw [if_neg c41] at H
        have c41b0 : (t198 == 0) = false := beq_eq_false_iff_ne.mpr c41
        have c41b1 : (t198 != 0) = true := bne_iff_ne.mpr c41
        have H' := Aside0.mk H
        clear H
        go_wp2
        go_meet
        case rel => exact ⟨_, (true), (by first | rfl | (simp; done) | (simp [*]; done)), H', ⟨by first | omega | exact Nat.le_refl _⟩, ⟨by (with_reducible repeat (first | refine blk_drewN ?_ _ | refine blk_drew ?_ | refine blk_alloc ?_ _)); exact BK184.out⟩, ⟨by (with_reducible repeat (first | refine blk_drewN ?_ _ | refine blk_drew ?_ | refine blk_alloc ?_ _)); exact BK185.out⟩, ⟨by (with_reducible repeat (first | refine blk_drewN ?_ _ | refine blk_drew ?_ | refine blk_alloc ?_ _)); exact BK186.out⟩, ⟨by repeat (first | (with_reducible first | exact HB.out | apply below_alloc | apply pw_below_drewN | apply below_drew1 | refine below_set ?_ GE184.out | refine below_set ?_ GE185.out | refine below_set ?_ GE186.out) | exact HB.out)⟩⟩
    · rw [if_neg c40] at H
      have c40b0 : (t194 == 0) = false := beq_eq_false_iff_ne.mpr c40
      have c40b1 : (t194 != 0) = true := bne_iff_ne.mpr c40
      (first | rw [c40b0] | (simp only [i64_w, i32_w]; rw [c40b0]) | skip)
      have H' := Aside0.mk H
      clear H
      go_wp2
      go_meet
      case rel => exact ⟨_, (true), (by first | rfl | (simp; done) | (simp [*]; done)), H', ⟨by first | omega | exact Nat.le_refl _⟩, ⟨by (with_reducible repeat (first | refine blk_drewN ?_ _ | refine blk_drew ?_ | refine blk_alloc ?_ _)); exact BK184.out⟩, ⟨by (with_reducible repeat (first | refine blk_drewN ?_ _ | refine blk_drew ?_ | refine blk_alloc ?_ _)); exact BK185.out⟩, ⟨by (with_reducible repeat (first | refine blk_drewN ?_ _ | refine blk_drew ?_ | refine blk_alloc ?_ _)); exact BK186.out⟩, ⟨by repeat (first | (with_reducible first | exact HB.out | apply below_alloc | apply pw_below_drewN | apply below_drew1 | refine below_set ?_ GE184.out | refine below_set ?_ GE185.out | refine below_set ?_ GE186.out) | exact HB.out)⟩⟩
  case rest =>
    clear HC11
    try clear c2
    try clear p2
    try clear c3
    try clear c4
    try clear c8
    try clear c9
    try clear c25
    try clear c26
    try clear c28
    try clear c40
    try clear c40b0
    try clear c40b1
    try clear c41
    try clear c41b0
    try clear c41b1
    try clear hcz27_0
    try clear hcz27_1
    try clear hcz29_0
    try clear hcz29_1
    try clear hcz31_0
    try clear hcz31_1
    try clear hcz32_0
    try clear hcz32_1
    try clear hcz34_0
    try clear hcz34_1
    try clear hcz35_0
    try clear hcz35_1
    try clear hcz37_0
    try clear hcz37_1
    try clear hcz38_0
    try clear hcz38_1
    try clear hfz27_0
    try clear hfz27_1
    try clear hfz29_0
    try clear hfz29_1
    try clear hfz31_0
    try clear hfz31_1
    try clear hfz32_0
    try clear hfz32_1
    try clear hfz34_0
    try clear hfz34_1
    try clear hfz35_0
    try clear hfz35_1
    try clear hfz37_0
    try clear hfz37_1
    try clear hfz38_0
    try clear hfz38_1
    obtain ⟨kq, x54_10, rfl, HA, HJ10, BK184, BK185, BK186, HB⟩ := hcut
    cases kq with
    | zero => exact absurd HA.out (by simp [graftwoodlaw05_NodeOrder.j0])
    | succ kj10 =>
      have H := HA.out
      clear HA
      simp only [graftwoodlaw05_NodeOrder.j0] at H
      by_cases c42 : x54_10 = true
      · subst c42
        have H1 : ((node_May.f kj10 t187 t188).bind fun t201 => (if t201 = true then ((node_May.f kj10 t189 t190).bind fun t202 => (if t202 = true then ((node_May.f kj10 t191 t192).bind fun t203 => (if t203 = true then (some false) else ((graftwoodlaw05_awake.f kj10).bind fun t204 => (some t204)))) else ((graftwoodlaw05_awake.f kj10).bind fun t205 => (some t205)))) else ((graftwoodlaw05_awake.f kj10).bind fun t206 => (some t206)))) = some r := by rw [if_pos rfl] at H; exact H
        clear H
        have H := H1
        clear H1
        replace H := Option.bind_eq_some_iff.mp H
        obtain ⟨t201, A430, H⟩ := H
        replace H : (if t201 = true then ((node_May.f kj10 t189 t190).bind fun t202 => (if t202 = true then ((node_May.f kj10 t191 t192).bind fun t203 => (if t203 = true then (some false) else ((graftwoodlaw05_awake.f kj10).bind fun t204 => (some t204)))) else ((graftwoodlaw05_awake.f kj10).bind fun t205 => (some t205)))) else ((graftwoodlaw05_awake.f kj10).bind fun t206 => (some t206))) = some r := H
        have A43 := Aside0.mk A430
        clear A430
        by_cases c44 : t201 = true
        · subst c44
          have H1 : ((node_May.f kj10 t189 t190).bind fun t202 => (if t202 = true then ((node_May.f kj10 t191 t192).bind fun t203 => (if t203 = true then (some false) else ((graftwoodlaw05_awake.f kj10).bind fun t204 => (some t204)))) else ((graftwoodlaw05_awake.f kj10).bind fun t205 => (some t205)))) = some r := by rw [if_pos rfl] at H; exact H
          clear H
          have H := H1
          clear H1
          replace H := Option.bind_eq_some_iff.mp H
          obtain ⟨t202, A450, H⟩ := H
          replace H : (if t202 = true then ((node_May.f kj10 t191 t192).bind fun t203 => (if t203 = true then (some false) else ((graftwoodlaw05_awake.f kj10).bind fun t204 => (some t204)))) else ((graftwoodlaw05_awake.f kj10).bind fun t205 => (some t205))) = some r := H
          have A45 := Aside0.mk A450
          clear A450
          by_cases c46 : t202 = true
          · subst c46
            have H1 : ((node_May.f kj10 t191 t192).bind fun t203 => (if t203 = true then (some false) else ((graftwoodlaw05_awake.f kj10).bind fun t204 => (some t204)))) = some r := by rw [if_pos rfl] at H; exact H
            clear H
            have H := H1
            clear H1
            replace H := Option.bind_eq_some_iff.mp H
            obtain ⟨t203, A470, H⟩ := H
            replace H : (if t203 = true then (some false) else ((graftwoodlaw05_awake.f kj10).bind fun t204 => (some t204))) = some r := H
            have A47 := Aside0.mk A470
            clear A470
            by_cases c48 : t203 = true
            · subst c48
              have H1 : (some false) = some r := by rw [if_pos rfl] at H; exact H
              clear H
              have H := H1
              clear H1
              obtain rfl := Option.some.inj H
              have hnb49 := NB184_185.out
              have hnc49 := NB185_184.out
              have hnb50 := NB184_186.out
              have hnc50 := NB186_184.out
              have hcz51_0 : wc.cell? ⟨gb184, 0, none⟩ = some (.string t187) := (blk_cell BK184.out 0).trans rfl
              have hcz51_1 : wc.cell? ⟨gb184, 1, none⟩ = some (.string t188) := (blk_cell BK184.out 1).trans rfl
              have hfz51_0 := blk_frozen BK184.out 0
              have hfz51_1 := blk_frozen BK184.out 1
              go_wp2_with (first | ((with_reducible refine gate_callee (f := 10) rfl ?_); refine goesL_ (some 56) rfl rfl Tryd.func10 (by kernel_rfl) rfl #[.agg #[.string t187, .string t188]] rfl (by (try simp only [List.map_toArray, List.map_cons, List.map_nil]); first | done | rfl | (simp only [List.length_drop, List.length_take]; rfl)) ?_; (with_reducible refine (node_May.calls kj10 t187 t188 true _ A43.out).mono ?_); rintro e w52 ⟨rfl, hb⟩; refine ⟨_, rfl, ?_⟩; have n0_ := Aside0.mk (blk_below (g := gb184) (o := .cells #[.string t187, .string t188] 23 (0, 0)) (by (with_reducible repeat (first | refine blk_drewN ?_ _ | refine blk_drew ?_ | refine blk_alloc ?_ _)); exact BK184.out) hb); have n1_ := Aside0.mk (blk_below (g := gb185) (o := .cells #[.string t189, .string t190] 23 (0, 0)) (by (with_reducible repeat (first | refine blk_drewN ?_ _ | refine blk_drew ?_ | refine blk_alloc ?_ _)); exact BK185.out) hb); have n2_ := Aside0.mk (blk_below (g := gb186) (o := .cells #[.string t191, .string t192] 23 (0, 0)) (by (with_reducible repeat (first | refine blk_drewN ?_ _ | refine blk_drew ?_ | refine blk_alloc ?_ _)); exact BK186.out) hb); have n3_ := Aside0.mk (below_step (by repeat (first | (with_reducible first | exact HB.out | apply below_alloc | apply pw_below_drewN | apply below_drew1 | refine below_set ?_ GE184.out | refine below_set ?_ GE185.out | refine below_set ?_ GE186.out) | exact HB.out)) hb); clear BK184; clear BK185; clear BK186; clear HB; have BK184 := n0_; have BK185 := n1_; have BK186 := n2_; have HB := n3_; clear n0_ n1_ n2_ n3_; (try clear hb); (try clear hb2); (try clear hk); (try clear hi); have hnb53 := NB185_186.out; have hnc53 := NB186_185.out; have hcz54_0 : w52.cell? ⟨gb185, 0, none⟩ = some (.string t189) := (blk_cell BK185.out 0).trans rfl; have hcz54_1 : w52.cell? ⟨gb185, 1, none⟩ = some (.string t190) := (blk_cell BK185.out 1).trans rfl; have hfz54_0 := blk_frozen BK185.out 0; have hfz54_1 := blk_frozen BK185.out 1) | (go_at_call 10; (with_reducible refine (node_May.calls kj10 t189 t190 true _ A45.out).mono ?_); rintro e w55 ⟨rfl, hb⟩; have n0_ := Aside0.mk (blk_below (g := gb184) (o := .cells #[.string t187, .string t188] 23 (0, 0)) (by (with_reducible repeat (first | refine blk_drewN ?_ _ | refine blk_drew ?_ | refine blk_alloc ?_ _)); exact BK184.out) hb); have n1_ := Aside0.mk (blk_below (g := gb185) (o := .cells #[.string t189, .string t190] 23 (0, 0)) (by (with_reducible repeat (first | refine blk_drewN ?_ _ | refine blk_drew ?_ | refine blk_alloc ?_ _)); exact BK185.out) hb); have n2_ := Aside0.mk (blk_below (g := gb186) (o := .cells #[.string t191, .string t192] 23 (0, 0)) (by (with_reducible repeat (first | refine blk_drewN ?_ _ | refine blk_drew ?_ | refine blk_alloc ?_ _)); exact BK186.out) hb); have n3_ := Aside0.mk (below_step (by repeat (first | (with_reducible first | exact HB.out | apply below_alloc | apply pw_below_drewN | apply below_drew1 | refine below_set ?_ GE184.out | refine below_set ?_ GE185.out | refine below_set ?_ GE186.out) | exact HB.out)) hb); clear BK184; clear BK185; clear BK186; clear HB; have BK184 := n0_; have BK185 := n1_; have BK186 := n2_; have HB := n3_; clear n0_ n1_ n2_ n3_; (try clear hb); (try clear hb2); (try clear hk); (try clear hi); have hcz56_0 : w55.cell? ⟨gb186, 0, none⟩ = some (.string t191) := (blk_cell BK186.out 0).trans rfl; have hcz56_1 : w55.cell? ⟨gb186, 1, none⟩ = some (.string t192) := (blk_cell BK186.out 1).trans rfl; have hfz56_0 := blk_frozen BK186.out 0; have hfz56_1 := blk_frozen BK186.out 1) | (go_at_call 10; (with_reducible refine (node_May.calls kj10 t191 t192 true _ A47.out).mono ?_); rintro e w57 ⟨rfl, hb⟩; have n0_ := Aside0.mk (blk_below (g := gb184) (o := .cells #[.string t187, .string t188] 23 (0, 0)) (by (with_reducible repeat (first | refine blk_drewN ?_ _ | refine blk_drew ?_ | refine blk_alloc ?_ _)); exact BK184.out) hb); have n1_ := Aside0.mk (blk_below (g := gb185) (o := .cells #[.string t189, .string t190] 23 (0, 0)) (by (with_reducible repeat (first | refine blk_drewN ?_ _ | refine blk_drew ?_ | refine blk_alloc ?_ _)); exact BK185.out) hb); have n2_ := Aside0.mk (blk_below (g := gb186) (o := .cells #[.string t191, .string t192] 23 (0, 0)) (by (with_reducible repeat (first | refine blk_drewN ?_ _ | refine blk_drew ?_ | refine blk_alloc ?_ _)); exact BK186.out) hb); have n3_ := Aside0.mk (below_step (by repeat (first | (with_reducible first | exact HB.out | apply below_alloc | apply pw_below_drewN | apply below_drew1 | refine below_set ?_ GE184.out | refine below_set ?_ GE185.out | refine below_set ?_ GE186.out) | exact HB.out)) hb); clear BK184; clear BK185; clear BK186; clear HB; have BK184 := n0_; have BK185 := n1_; have BK186 := n2_; have HB := n3_; clear n0_ n1_ n2_ n3_; (try clear hb); (try clear hb2); (try clear hk); (try clear hi)))
              go_ret
              exact ⟨by first | rfl | (simp [errW_none, errW_some] <;> rfl) | (simp [*, errW_none, errW_some] <;> rfl), by repeat (first | (with_reducible first | exact HB.out | apply below_alloc | apply pw_below_drewN | apply below_drew1 | refine below_set ?_ GE184.out | refine below_set ?_ GE185.out | refine below_set ?_ GE186.out) | exact HB.out)⟩
            · replace c48 := Bool.eq_false_iff.mpr c48
              subst c48
              have H1 : ((graftwoodlaw05_awake.f kj10).bind fun t204 => (some t204)) = some r := by rw [if_neg (show ¬ (false = true) by decide)] at H; exact H
              clear H
              have H := H1
              clear H1
              replace H := Option.bind_eq_some_iff.mp H
              obtain ⟨t204, A580, H⟩ := H
              replace H : (some t204) = some r := H
              have A58 := Aside0.mk A580
              clear A580
              obtain rfl := Option.some.inj H
              have hnb59 := NB184_185.out
              have hnc59 := NB185_184.out
              have hnb60 := NB184_186.out
              have hnc60 := NB186_184.out
              have hcz61_0 : wc.cell? ⟨gb184, 0, none⟩ = some (.string t187) := (blk_cell BK184.out 0).trans rfl
              have hcz61_1 : wc.cell? ⟨gb184, 1, none⟩ = some (.string t188) := (blk_cell BK184.out 1).trans rfl
              have hfz61_0 := blk_frozen BK184.out 0
              have hfz61_1 := blk_frozen BK184.out 1
              go_wp2_with (first | ((with_reducible refine gate_callee (f := 10) rfl ?_); refine goesL_ (some 56) rfl rfl Tryd.func10 (by kernel_rfl) rfl #[.agg #[.string t187, .string t188]] rfl (by (try simp only [List.map_toArray, List.map_cons, List.map_nil]); first | done | rfl | (simp only [List.length_drop, List.length_take]; rfl)) ?_; (with_reducible refine (node_May.calls kj10 t187 t188 true _ A43.out).mono ?_); rintro e w62 ⟨rfl, hb⟩; refine ⟨_, rfl, ?_⟩; have n0_ := Aside0.mk (blk_below (g := gb184) (o := .cells #[.string t187, .string t188] 23 (0, 0)) (by (with_reducible repeat (first | refine blk_drewN ?_ _ | refine blk_drew ?_ | refine blk_alloc ?_ _)); exact BK184.out) hb); have n1_ := Aside0.mk (blk_below (g := gb185) (o := .cells #[.string t189, .string t190] 23 (0, 0)) (by (with_reducible repeat (first | refine blk_drewN ?_ _ | refine blk_drew ?_ | refine blk_alloc ?_ _)); exact BK185.out) hb); have n2_ := Aside0.mk (blk_below (g := gb186) (o := .cells #[.string t191, .string t192] 23 (0, 0)) (by (with_reducible repeat (first | refine blk_drewN ?_ _ | refine blk_drew ?_ | refine blk_alloc ?_ _)); exact BK186.out) hb); have n3_ := Aside0.mk (below_step (by repeat (first | (with_reducible first | exact HB.out | apply below_alloc | apply pw_below_drewN | apply below_drew1 | refine below_set ?_ GE184.out | refine below_set ?_ GE185.out | refine below_set ?_ GE186.out) | exact HB.out)) hb); clear BK184; clear BK185; clear BK186; clear HB; have BK184 := n0_; have BK185 := n1_; have BK186 := n2_; have HB := n3_; clear n0_ n1_ n2_ n3_; (try clear hb); (try clear hb2); (try clear hk); (try clear hi); have hnb63 := NB185_186.out; have hnc63 := NB186_185.out; have hcz64_0 : w62.cell? ⟨gb185, 0, none⟩ = some (.string t189) := (blk_cell BK185.out 0).trans rfl; have hcz64_1 : w62.cell? ⟨gb185, 1, none⟩ = some (.string t190) := (blk_cell BK185.out 1).trans rfl; have hfz64_0 := blk_frozen BK185.out 0; have hfz64_1 := blk_frozen BK185.out 1) | (go_at_call 10; (with_reducible refine (node_May.calls kj10 t189 t190 true _ A45.out).mono ?_); rintro e w65 ⟨rfl, hb⟩; have n0_ := Aside0.mk (blk_below (g := gb184) (o := .cells #[.string t187, .string t188] 23 (0, 0)) (by (with_reducible repeat (first | refine blk_drewN ?_ _ | refine blk_drew ?_ | refine blk_alloc ?_ _)); exact BK184.out) hb); have n1_ := Aside0.mk (blk_below (g := gb185) (o := .cells #[.string t189, .string t190] 23 (0, 0)) (by (with_reducible repeat (first | refine blk_drewN ?_ _ | refine blk_drew ?_ | refine blk_alloc ?_ _)); exact BK185.out) hb); have n2_ := Aside0.mk (blk_below (g := gb186) (o := .cells #[.string t191, .string t192] 23 (0, 0)) (by (with_reducible repeat (first | refine blk_drewN ?_ _ | refine blk_drew ?_ | refine blk_alloc ?_ _)); exact BK186.out) hb); have n3_ := Aside0.mk (below_step (by repeat (first | (with_reducible first | exact HB.out | apply below_alloc | apply pw_below_drewN | apply below_drew1 | refine below_set ?_ GE184.out | refine below_set ?_ GE185.out | refine below_set ?_ GE186.out) | exact HB.out)) hb); clear BK184; clear BK185; clear BK186; clear HB; have BK184 := n0_; have BK185 := n1_; have BK186 := n2_; have HB := n3_; clear n0_ n1_ n2_ n3_; (try clear hb); (try clear hb2); (try clear hk); (try clear hi); have hcz66_0 : w65.cell? ⟨gb186, 0, none⟩ = some (.string t191) := (blk_cell BK186.out 0).trans rfl; have hcz66_1 : w65.cell? ⟨gb186, 1, none⟩ = some (.string t192) := (blk_cell BK186.out 1).trans rfl; have hfz66_0 := blk_frozen BK186.out 0; have hfz66_1 := blk_frozen BK186.out 1) | (go_at_call 10; (with_reducible refine (node_May.calls kj10 t191 t192 false _ A47.out).mono ?_); rintro e w67 ⟨rfl, hb⟩; have n0_ := Aside0.mk (blk_below (g := gb184) (o := .cells #[.string t187, .string t188] 23 (0, 0)) (by (with_reducible repeat (first | refine blk_drewN ?_ _ | refine blk_drew ?_ | refine blk_alloc ?_ _)); exact BK184.out) hb); have n1_ := Aside0.mk (blk_below (g := gb185) (o := .cells #[.string t189, .string t190] 23 (0, 0)) (by (with_reducible repeat (first | refine blk_drewN ?_ _ | refine blk_drew ?_ | refine blk_alloc ?_ _)); exact BK185.out) hb); have n2_ := Aside0.mk (blk_below (g := gb186) (o := .cells #[.string t191, .string t192] 23 (0, 0)) (by (with_reducible repeat (first | refine blk_drewN ?_ _ | refine blk_drew ?_ | refine blk_alloc ?_ _)); exact BK186.out) hb); have n3_ := Aside0.mk (below_step (by repeat (first | (with_reducible first | exact HB.out | apply below_alloc | apply pw_below_drewN | apply below_drew1 | refine below_set ?_ GE184.out | refine below_set ?_ GE185.out | refine below_set ?_ GE186.out) | exact HB.out)) hb); clear BK184; clear BK185; clear BK186; clear HB; have BK184 := n0_; have BK185 := n1_; have BK186 := n2_; have HB := n3_; clear n0_ n1_ n2_ n3_; (try clear hb); (try clear hb2); (try clear hk); (try clear hi)) | (go_at_call 11; (with_reducible refine (graftwoodlaw05_awake.calls kj10  t204 _ A58.out).mono ?_); rintro e w68 ⟨rfl, hb⟩; have n0_ := Aside0.mk (blk_below (g := gb184) (o := .cells #[.string t187, .string t188] 23 (0, 0)) (by (with_reducible repeat (first | refine blk_drewN ?_ _ | refine blk_drew ?_ | refine blk_alloc ?_ _)); exact BK184.out) hb); have n1_ := Aside0.mk (blk_below (g := gb185) (o := .cells #[.string t189, .string t190] 23 (0, 0)) (by (with_reducible repeat (first | refine blk_drewN ?_ _ | refine blk_drew ?_ | refine blk_alloc ?_ _)); exact BK185.out) hb); have n2_ := Aside0.mk (blk_below (g := gb186) (o := .cells #[.string t191, .string t192] 23 (0, 0)) (by (with_reducible repeat (first | refine blk_drewN ?_ _ | refine blk_drew ?_ | refine blk_alloc ?_ _)); exact BK186.out) hb); have n3_ := Aside0.mk (below_step (by repeat (first | (with_reducible first | exact HB.out | apply below_alloc | apply pw_below_drewN | apply below_drew1 | refine below_set ?_ GE184.out | refine below_set ?_ GE185.out | refine below_set ?_ GE186.out) | exact HB.out)) hb); clear BK184; clear BK185; clear BK186; clear HB; have BK184 := n0_; have BK185 := n1_; have BK186 := n2_; have HB := n3_; clear n0_ n1_ n2_ n3_; (try clear hb); (try clear hb2); (try clear hk); (try clear hi)))
              go_ret
              exact ⟨by first | rfl | (simp [errW_none, errW_some] <;> rfl) | (simp [*, errW_none, errW_some] <;> rfl), by repeat (first | (with_reducible first | exact HB.out | apply below_alloc | apply pw_below_drewN | apply below_drew1 | refine below_set ?_ GE184.out | refine below_set ?_ GE185.out | refine below_set ?_ GE186.out) | exact HB.out)⟩
          · replace c46 := Bool.eq_false_iff.mpr c46
            subst c46
            have H1 : ((graftwoodlaw05_awake.f kj10).bind fun t205 => (some t205)) = some r := by rw [if_neg (show ¬ (false = true) by decide)] at H; exact H
            clear H
            have H := H1
            clear H1
            replace H := Option.bind_eq_some_iff.mp H
            obtain ⟨t205, A690, H⟩ := H
            replace H : (some t205) = some r := H
            have A69 := Aside0.mk A690
            clear A690
            obtain rfl := Option.some.inj H
            have hnb70 := NB184_185.out
            have hnc70 := NB185_184.out
            have hnb71 := NB184_186.out
            have hnc71 := NB186_184.out
            have hcz72_0 : wc.cell? ⟨gb184, 0, none⟩ = some (.string t187) := (blk_cell BK184.out 0).trans rfl
            have hcz72_1 : wc.cell? ⟨gb184, 1, none⟩ = some (.string t188) := (blk_cell BK184.out 1).trans rfl
            have hfz72_0 := blk_frozen BK184.out 0
            have hfz72_1 := blk_frozen BK184.out 1
            go_wp2_with (first | ((with_reducible refine gate_callee (f := 10) rfl ?_); refine goesL_ (some 56) rfl rfl Tryd.func10 (by kernel_rfl) rfl #[.agg #[.string t187, .string t188]] rfl (by (try simp only [List.map_toArray, List.map_cons, List.map_nil]); first | done | rfl | (simp only [List.length_drop, List.length_take]; rfl)) ?_; (with_reducible refine (node_May.calls kj10 t187 t188 true _ A43.out).mono ?_); rintro e w73 ⟨rfl, hb⟩; refine ⟨_, rfl, ?_⟩; have n0_ := Aside0.mk (blk_below (g := gb184) (o := .cells #[.string t187, .string t188] 23 (0, 0)) (by (with_reducible repeat (first | refine blk_drewN ?_ _ | refine blk_drew ?_ | refine blk_alloc ?_ _)); exact BK184.out) hb); have n1_ := Aside0.mk (blk_below (g := gb185) (o := .cells #[.string t189, .string t190] 23 (0, 0)) (by (with_reducible repeat (first | refine blk_drewN ?_ _ | refine blk_drew ?_ | refine blk_alloc ?_ _)); exact BK185.out) hb); have n2_ := Aside0.mk (blk_below (g := gb186) (o := .cells #[.string t191, .string t192] 23 (0, 0)) (by (with_reducible repeat (first | refine blk_drewN ?_ _ | refine blk_drew ?_ | refine blk_alloc ?_ _)); exact BK186.out) hb); have n3_ := Aside0.mk (below_step (by repeat (first | (with_reducible first | exact HB.out | apply below_alloc | apply pw_below_drewN | apply below_drew1 | refine below_set ?_ GE184.out | refine below_set ?_ GE185.out | refine below_set ?_ GE186.out) | exact HB.out)) hb); clear BK184; clear BK185; clear BK186; clear HB; have BK184 := n0_; have BK185 := n1_; have BK186 := n2_; have HB := n3_; clear n0_ n1_ n2_ n3_; (try clear hb); (try clear hb2); (try clear hk); (try clear hi); have hnb74 := NB185_186.out; have hnc74 := NB186_185.out; have hcz75_0 : w73.cell? ⟨gb185, 0, none⟩ = some (.string t189) := (blk_cell BK185.out 0).trans rfl; have hcz75_1 : w73.cell? ⟨gb185, 1, none⟩ = some (.string t190) := (blk_cell BK185.out 1).trans rfl; have hfz75_0 := blk_frozen BK185.out 0; have hfz75_1 := blk_frozen BK185.out 1) | (go_at_call 10; (with_reducible refine (node_May.calls kj10 t189 t190 false _ A45.out).mono ?_); rintro e w76 ⟨rfl, hb⟩; have n0_ := Aside0.mk (blk_below (g := gb184) (o := .cells #[.string t187, .string t188] 23 (0, 0)) (by (with_reducible repeat (first | refine blk_drewN ?_ _ | refine blk_drew ?_ | refine blk_alloc ?_ _)); exact BK184.out) hb); have n1_ := Aside0.mk (blk_below (g := gb185) (o := .cells #[.string t189, .string t190] 23 (0, 0)) (by (with_reducible repeat (first | refine blk_drewN ?_ _ | refine blk_drew ?_ | refine blk_alloc ?_ _)); exact BK185.out) hb); have n2_ := Aside0.mk (blk_below (g := gb186) (o := .cells #[.string t191, .string t192] 23 (0, 0)) (by (with_reducible repeat (first | refine blk_drewN ?_ _ | refine blk_drew ?_ | refine blk_alloc ?_ _)); exact BK186.out) hb); have n3_ := Aside0.mk (below_step (by repeat (first | (with_reducible first | exact HB.out | apply below_alloc | apply pw_below_drewN | apply below_drew1 | refine below_set ?_ GE184.out | refine below_set ?_ GE185.out | refine below_set ?_ GE186.out) | exact HB.out)) hb); clear BK184; clear BK185; clear BK186; clear HB; have BK184 := n0_; have BK185 := n1_; have BK186 := n2_; have HB := n3_; clear n0_ n1_ n2_ n3_; (try clear hb); (try clear hb2); (try clear hk); (try clear hi)) | (go_at_call 11; (with_reducible refine (graftwoodlaw05_awake.calls kj10  t205 _ A69.out).mono ?_); rintro e w77 ⟨rfl, hb⟩; have n0_ := Aside0.mk (blk_below (g := gb184) (o := .cells #[.string t187, .string t188] 23 (0, 0)) (by (with_reducible repeat (first | refine blk_drewN ?_ _ | refine blk_drew ?_ | refine blk_alloc ?_ _)); exact BK184.out) hb); have n1_ := Aside0.mk (blk_below (g := gb185) (o := .cells #[.string t189, .string t190] 23 (0, 0)) (by (with_reducible repeat (first | refine blk_drewN ?_ _ | refine blk_drew ?_ | refine blk_alloc ?_ _)); exact BK185.out) hb); have n2_ := Aside0.mk (blk_below (g := gb186) (o := .cells #[.string t191, .string t192] 23 (0, 0)) (by (with_reducible repeat (first | refine blk_drewN ?_ _ | refine blk_drew ?_ | refine blk_alloc ?_ _)); exact BK186.out) hb); have n3_ := Aside0.mk (below_step (by repeat (first | (with_reducible first | exact HB.out | apply below_alloc | apply pw_below_drewN | apply below_drew1 | refine below_set ?_ GE184.out | refine below_set ?_ GE185.out | refine below_set ?_ GE186.out) | exact HB.out)) hb); clear BK184; clear BK185; clear BK186; clear HB; have BK184 := n0_; have BK185 := n1_; have BK186 := n2_; have HB := n3_; clear n0_ n1_ n2_ n3_; (try clear hb); (try clear hb2); (try clear hk); (try clear hi)))
            go_ret
            exact ⟨by first | rfl | (simp [errW_none, errW_some] <;> rfl) | (simp [*, errW_none, errW_some] <;> rfl), by repeat (first | (with_reducible first | exact HB.out | apply below_alloc | apply pw_below_drewN | apply below_drew1 | refine below_set ?_ GE184.out | refine below_set ?_ GE185.out | refine below_set ?_ GE186.out) | exact HB.out)⟩
        · replace c44 := Bool.eq_false_iff.mpr c44
          subst c44
          have H1 : ((graftwoodlaw05_awake.f kj10).bind fun t206 => (some t206)) = some r := by rw [if_neg (show ¬ (false = true) by decide)] at H; exact H
          clear H
          have H := H1
          clear H1
          replace H := Option.bind_eq_some_iff.mp H
          obtain ⟨t206, A780, H⟩ := H
          replace H : (some t206) = some r := H
          have A78 := Aside0.mk A780
          clear A780
          obtain rfl := Option.some.inj H
          have hnb79 := NB184_185.out
          have hnc79 := NB185_184.out
          have hnb80 := NB184_186.out
          have hnc80 := NB186_184.out
          have hcz81_0 : wc.cell? ⟨gb184, 0, none⟩ = some (.string t187) := (blk_cell BK184.out 0).trans rfl
          have hcz81_1 : wc.cell? ⟨gb184, 1, none⟩ = some (.string t188) := (blk_cell BK184.out 1).trans rfl
          have hfz81_0 := blk_frozen BK184.out 0
          have hfz81_1 := blk_frozen BK184.out 1
          go_wp2_with (first | ((with_reducible refine gate_callee (f := 10) rfl ?_); refine goesL_ (some 56) rfl rfl Tryd.func10 (by kernel_rfl) rfl #[.agg #[.string t187, .string t188]] rfl (by (try simp only [List.map_toArray, List.map_cons, List.map_nil]); first | done | rfl | (simp only [List.length_drop, List.length_take]; rfl)) ?_; (with_reducible refine (node_May.calls kj10 t187 t188 false _ A43.out).mono ?_); rintro e w82 ⟨rfl, hb⟩; refine ⟨_, rfl, ?_⟩; have n0_ := Aside0.mk (blk_below (g := gb184) (o := .cells #[.string t187, .string t188] 23 (0, 0)) (by (with_reducible repeat (first | refine blk_drewN ?_ _ | refine blk_drew ?_ | refine blk_alloc ?_ _)); exact BK184.out) hb); have n1_ := Aside0.mk (blk_below (g := gb185) (o := .cells #[.string t189, .string t190] 23 (0, 0)) (by (with_reducible repeat (first | refine blk_drewN ?_ _ | refine blk_drew ?_ | refine blk_alloc ?_ _)); exact BK185.out) hb); have n2_ := Aside0.mk (blk_below (g := gb186) (o := .cells #[.string t191, .string t192] 23 (0, 0)) (by (with_reducible repeat (first | refine blk_drewN ?_ _ | refine blk_drew ?_ | refine blk_alloc ?_ _)); exact BK186.out) hb); have n3_ := Aside0.mk (below_step (by repeat (first | (with_reducible first | exact HB.out | apply below_alloc | apply pw_below_drewN | apply below_drew1 | refine below_set ?_ GE184.out | refine below_set ?_ GE185.out | refine below_set ?_ GE186.out) | exact HB.out)) hb); clear BK184; clear BK185; clear BK186; clear HB; have BK184 := n0_; have BK185 := n1_; have BK186 := n2_; have HB := n3_; clear n0_ n1_ n2_ n3_; (try clear hb); (try clear hb2); (try clear hk); (try clear hi)) | (go_at_call 11; (with_reducible refine (graftwoodlaw05_awake.calls kj10  t206 _ A78.out).mono ?_); rintro e w83 ⟨rfl, hb⟩; have n0_ := Aside0.mk (blk_below (g := gb184) (o := .cells #[.string t187, .string t188] 23 (0, 0)) (by (with_reducible repeat (first | refine blk_drewN ?_ _ | refine blk_drew ?_ | refine blk_alloc ?_ _)); exact BK184.out) hb); have n1_ := Aside0.mk (blk_below (g := gb185) (o := .cells #[.string t189, .string t190] 23 (0, 0)) (by (with_reducible repeat (first | refine blk_drewN ?_ _ | refine blk_drew ?_ | refine blk_alloc ?_ _)); exact BK185.out) hb); have n2_ := Aside0.mk (blk_below (g := gb186) (o := .cells #[.string t191, .string t192] 23 (0, 0)) (by (with_reducible repeat (first | refine blk_drewN ?_ _ | refine blk_drew ?_ | refine blk_alloc ?_ _)); exact BK186.out) hb); have n3_ := Aside0.mk (below_step (by repeat (first | (with_reducible first | exact HB.out | apply below_alloc | apply pw_below_drewN | apply below_drew1 | refine below_set ?_ GE184.out | refine below_set ?_ GE185.out | refine below_set ?_ GE186.out) | exact HB.out)) hb); clear BK184; clear BK185; clear BK186; clear HB; have BK184 := n0_; have BK185 := n1_; have BK186 := n2_; have HB := n3_; clear n0_ n1_ n2_ n3_; (try clear hb); (try clear hb2); (try clear hk); (try clear hi)))
          go_ret
          exact ⟨by first | rfl | (simp [errW_none, errW_some] <;> rfl) | (simp [*, errW_none, errW_some] <;> rfl), by repeat (first | (with_reducible first | exact HB.out | apply below_alloc | apply pw_below_drewN | apply below_drew1 | refine below_set ?_ GE184.out | refine below_set ?_ GE185.out | refine below_set ?_ GE186.out) | exact HB.out)⟩
      · replace c42 := Bool.eq_false_iff.mpr c42
        subst c42
        have H1 : (if t196 = 0 then (if t193 = (wrap64 (-t195)) then (if ((t193 == 0) == (t187.toList == t189.toList && (t188.toList == t190.toList))) = true then (if t193 > 0 then (if t193 ≥ 0 then ((graftwoodlaw05_awake.f kj10).bind fun t207 => (some t207)) else (if t197 ≥ 0 then ((graftwoodlaw05_awake.f kj10).bind fun t208 => (some t208)) else (if t199 < 0 then ((graftwoodlaw05_awake.f kj10).bind fun t209 => (some t209)) else (some false)))) else (if t197 > 0 then (if t193 ≥ 0 then ((graftwoodlaw05_awake.f kj10).bind fun t210 => (some t210)) else (if t197 ≥ 0 then ((graftwoodlaw05_awake.f kj10).bind fun t211 => (some t211)) else (if t199 < 0 then ((graftwoodlaw05_awake.f kj10).bind fun t212 => (some t212)) else (some false)))) else (if t199 ≤ 0 then (if t193 ≥ 0 then ((graftwoodlaw05_awake.f kj10).bind fun t213 => (some t213)) else (if t197 ≥ 0 then ((graftwoodlaw05_awake.f kj10).bind fun t214 => (some t214)) else (if t199 < 0 then ((graftwoodlaw05_awake.f kj10).bind fun t215 => (some t215)) else (some false)))) else (some false)))) else (some false)) else (some false)) else (some false)) = some r := by rw [if_neg (show ¬ (false = true) by decide)] at H; exact H
        clear H
        have H := H1
        clear H1
        by_cases c84 : t196 = 0
        · rw [if_pos c84] at H
          have c84b0 : (t196 == 0) = true := beq_iff_eq.mpr c84
          have c84b1 : (t196 != 0) = false := bne_eq_false_iff_eq.mpr c84
          clear c84
          by_cases c85 : t193 = (wrap64 (-t195))
          · rw [if_pos c85] at H
            have c85b0 : (t193 == (wrap64 (-t195))) = true := beq_iff_eq.mpr c85
            have c85b1 : (t193 != (wrap64 (-t195))) = false := bne_eq_false_iff_eq.mpr c85
            clear c85
            by_cases c86 : ((t193 == 0) == (t187.toList == t189.toList && (t188.toList == t190.toList))) = true
            · rw [if_pos c86] at H
              have c86b0 : ((t193 == 0) == (t187.toList == t189.toList && (t188.toList == t190.toList))) = true := c86
              (try (have c86b1 : decide ((t193 == 0) = (t187.toList == t189.toList && (t188.toList == t190.toList))) = true := by simpa using c86))
              (try (have c86b2 : ((t193 == 0) == (t187.toList == t189.toList && (t188.toList == t190.toList))) = true := by simpa using c86))
              clear c86
              by_cases c87 : t193 > 0
              · rw [if_pos c87] at H
                have c87b0 : decide (0 < t193) = true := decide_eq_true c87
                clear c87
                by_cases c88 : t193 ≥ 0
                · rw [if_pos c88] at H
                  have c88b0 : decide (0 ≤ t193) = true := decide_eq_true c88
                  clear c88
                  replace H := Option.bind_eq_some_iff.mp H
                  obtain ⟨t207, A890, H⟩ := H
                  replace H : (some t207) = some r := H
                  have A89 := Aside0.mk A890
                  clear A890
                  obtain rfl := Option.some.inj H
                  have hnb90 := NB184_185.out
                  have hnc90 := NB185_184.out
                  have hnb91 := NB184_186.out
                  have hnc91 := NB186_184.out
                  have hcz92_0 : wc.cell? ⟨gb184, 0, none⟩ = some (.string t187) := (blk_cell BK184.out 0).trans rfl
                  have hcz92_1 : wc.cell? ⟨gb184, 1, none⟩ = some (.string t188) := (blk_cell BK184.out 1).trans rfl
                  have hfz92_0 := blk_frozen BK184.out 0
                  have hfz92_1 := blk_frozen BK184.out 1
                  have hnb93 := NB185_186.out
                  have hnc93 := NB186_185.out
                  have hcz94_0 : wc.cell? ⟨gb185, 0, none⟩ = some (.string t189) := (blk_cell BK185.out 0).trans rfl
                  have hcz94_1 : wc.cell? ⟨gb185, 1, none⟩ = some (.string t190) := (blk_cell BK185.out 1).trans rfl
                  have hfz94_0 := blk_frozen BK185.out 0
                  have hfz94_1 := blk_frozen BK185.out 1
                  go_wp2_with (first | (go_at_call 11; (with_reducible refine (graftwoodlaw05_awake.calls kj10  t207 _ A89.out).mono ?_); rintro e w95 ⟨rfl, hb⟩; have n0_ := Aside0.mk (blk_below (g := gb184) (o := .cells #[.string t187, .string t188] 23 (0, 0)) (by (with_reducible repeat (first | refine blk_drewN ?_ _ | refine blk_drew ?_ | refine blk_alloc ?_ _)); exact BK184.out) hb); have n1_ := Aside0.mk (blk_below (g := gb185) (o := .cells #[.string t189, .string t190] 23 (0, 0)) (by (with_reducible repeat (first | refine blk_drewN ?_ _ | refine blk_drew ?_ | refine blk_alloc ?_ _)); exact BK185.out) hb); have n2_ := Aside0.mk (blk_below (g := gb186) (o := .cells #[.string t191, .string t192] 23 (0, 0)) (by (with_reducible repeat (first | refine blk_drewN ?_ _ | refine blk_drew ?_ | refine blk_alloc ?_ _)); exact BK186.out) hb); have n3_ := Aside0.mk (below_step (by repeat (first | (with_reducible first | exact HB.out | apply below_alloc | apply pw_below_drewN | apply below_drew1 | refine below_set ?_ GE184.out | refine below_set ?_ GE185.out | refine below_set ?_ GE186.out) | exact HB.out)) hb); clear BK184; clear BK185; clear BK186; clear HB; have BK184 := n0_; have BK185 := n1_; have BK186 := n2_; have HB := n3_; clear n0_ n1_ n2_ n3_; (try clear hb); (try clear hb2); (try clear hk); (try clear hi)))
                  go_ret
                  exact ⟨by first | rfl | (simp [errW_none, errW_some] <;> rfl) | (simp [*, errW_none, errW_some] <;> rfl), by repeat (first | (with_reducible first | exact HB.out | apply below_alloc | apply pw_below_drewN | apply below_drew1 | refine below_set ?_ GE184.out | refine below_set ?_ GE185.out | refine below_set ?_ GE186.out) | exact HB.out)⟩
                · rw [if_neg c88] at H
                  have c88b0 : decide (0 ≤ t193) = false := decide_eq_false c88
                  clear c88
                  by_cases c96 : t197 ≥ 0
                  · rw [if_pos c96] at H
                    have c96b0 : decide (0 ≤ t197) = true := decide_eq_true c96
                    clear c96
                    replace H := Option.bind_eq_some_iff.mp H
                    obtain ⟨t208, A970, H⟩ := H
                    replace H : (some t208) = some r := H
                    have A97 := Aside0.mk A970
                    clear A970
                    obtain rfl := Option.some.inj H
                    have hnb98 := NB184_185.out
                    have hnc98 := NB185_184.out
                    have hnb99 := NB184_186.out
                    have hnc99 := NB186_184.out
                    have hcz100_0 : wc.cell? ⟨gb184, 0, none⟩ = some (.string t187) := (blk_cell BK184.out 0).trans rfl
                    have hcz100_1 : wc.cell? ⟨gb184, 1, none⟩ = some (.string t188) := (blk_cell BK184.out 1).trans rfl
                    have hfz100_0 := blk_frozen BK184.out 0
                    have hfz100_1 := blk_frozen BK184.out 1
                    have hnb101 := NB185_186.out
                    have hnc101 := NB186_185.out
                    have hcz102_0 : wc.cell? ⟨gb185, 0, none⟩ = some (.string t189) := (blk_cell BK185.out 0).trans rfl
                    have hcz102_1 : wc.cell? ⟨gb185, 1, none⟩ = some (.string t190) := (blk_cell BK185.out 1).trans rfl
                    have hfz102_0 := blk_frozen BK185.out 0
                    have hfz102_1 := blk_frozen BK185.out 1
                    go_wp2_with (first | (go_at_call 11; (with_reducible refine (graftwoodlaw05_awake.calls kj10  t208 _ A97.out).mono ?_); rintro e w103 ⟨rfl, hb⟩; have n0_ := Aside0.mk (blk_below (g := gb184) (o := .cells #[.string t187, .string t188] 23 (0, 0)) (by (with_reducible repeat (first | refine blk_drewN ?_ _ | refine blk_drew ?_ | refine blk_alloc ?_ _)); exact BK184.out) hb); have n1_ := Aside0.mk (blk_below (g := gb185) (o := .cells #[.string t189, .string t190] 23 (0, 0)) (by (with_reducible repeat (first | refine blk_drewN ?_ _ | refine blk_drew ?_ | refine blk_alloc ?_ _)); exact BK185.out) hb); have n2_ := Aside0.mk (blk_below (g := gb186) (o := .cells #[.string t191, .string t192] 23 (0, 0)) (by (with_reducible repeat (first | refine blk_drewN ?_ _ | refine blk_drew ?_ | refine blk_alloc ?_ _)); exact BK186.out) hb); have n3_ := Aside0.mk (below_step (by repeat (first | (with_reducible first | exact HB.out | apply below_alloc | apply pw_below_drewN | apply below_drew1 | refine below_set ?_ GE184.out | refine below_set ?_ GE185.out | refine below_set ?_ GE186.out) | exact HB.out)) hb); clear BK184; clear BK185; clear BK186; clear HB; have BK184 := n0_; have BK185 := n1_; have BK186 := n2_; have HB := n3_; clear n0_ n1_ n2_ n3_; (try clear hb); (try clear hb2); (try clear hk); (try clear hi)))
                    go_ret
                    exact ⟨by first | rfl | (simp [errW_none, errW_some] <;> rfl) | (simp [*, errW_none, errW_some] <;> rfl), by repeat (first | (with_reducible first | exact HB.out | apply below_alloc | apply pw_below_drewN | apply below_drew1 | refine below_set ?_ GE184.out | refine below_set ?_ GE185.out | refine below_set ?_ GE186.out) | exact HB.out)⟩
                  · rw [if_neg c96] at H
                    have c96b0 : decide (0 ≤ t197) = false := decide_eq_false c96
                    clear c96
                    by_cases c104 : t199 < 0
                    · rw [if_pos c104] at H
                      have c104b0 : decide (t199 < 0) = true := decide_eq_true c104
                      clear c104
                      replace H := Option.bind_eq_some_iff.mp H
                      obtain ⟨t209, A1050, H⟩ := H
                      replace H : (some t209) = some r := H
                      have A105 := Aside0.mk A1050
                      clear A1050
                      obtain rfl := Option.some.inj H
                      have hnb106 := NB184_185.out
                      have hnc106 := NB185_184.out
                      have hnb107 := NB184_186.out
                      have hnc107 := NB186_184.out
                      have hcz108_0 : wc.cell? ⟨gb184, 0, none⟩ = some (.string t187) := (blk_cell BK184.out 0).trans rfl
                      have hcz108_1 : wc.cell? ⟨gb184, 1, none⟩ = some (.string t188) := (blk_cell BK184.out 1).trans rfl
                      have hfz108_0 := blk_frozen BK184.out 0
                      have hfz108_1 := blk_frozen BK184.out 1
                      have hnb109 := NB185_186.out
                      have hnc109 := NB186_185.out
                      have hcz110_0 : wc.cell? ⟨gb185, 0, none⟩ = some (.string t189) := (blk_cell BK185.out 0).trans rfl
                      have hcz110_1 : wc.cell? ⟨gb185, 1, none⟩ = some (.string t190) := (blk_cell BK185.out 1).trans rfl
                      have hfz110_0 := blk_frozen BK185.out 0
                      have hfz110_1 := blk_frozen BK185.out 1
                      go_wp2_with (first | (go_at_call 11; (with_reducible refine (graftwoodlaw05_awake.calls kj10  t209 _ A105.out).mono ?_); rintro e w111 ⟨rfl, hb⟩; have n0_ := Aside0.mk (blk_below (g := gb184) (o := .cells #[.string t187, .string t188] 23 (0, 0)) (by (with_reducible repeat (first | refine blk_drewN ?_ _ | refine blk_drew ?_ | refine blk_alloc ?_ _)); exact BK184.out) hb); have n1_ := Aside0.mk (blk_below (g := gb185) (o := .cells #[.string t189, .string t190] 23 (0, 0)) (by (with_reducible repeat (first | refine blk_drewN ?_ _ | refine blk_drew ?_ | refine blk_alloc ?_ _)); exact BK185.out) hb); have n2_ := Aside0.mk (blk_below (g := gb186) (o := .cells #[.string t191, .string t192] 23 (0, 0)) (by (with_reducible repeat (first | refine blk_drewN ?_ _ | refine blk_drew ?_ | refine blk_alloc ?_ _)); exact BK186.out) hb); have n3_ := Aside0.mk (below_step (by repeat (first | (with_reducible first | exact HB.out | apply below_alloc | apply pw_below_drewN | apply below_drew1 | refine below_set ?_ GE184.out | refine below_set ?_ GE185.out | refine below_set ?_ GE186.out) | exact HB.out)) hb); clear BK184; clear BK185; clear BK186; clear HB; have BK184 := n0_; have BK185 := n1_; have BK186 := n2_; have HB := n3_; clear n0_ n1_ n2_ n3_; (try clear hb); (try clear hb2); (try clear hk); (try clear hi)))
                      go_ret
                      exact ⟨by first | rfl | (simp [errW_none, errW_some] <;> rfl) | (simp [*, errW_none, errW_some] <;> rfl), by repeat (first | (with_reducible first | exact HB.out | apply below_alloc | apply pw_below_drewN | apply below_drew1 | refine below_set ?_ GE184.out | refine below_set ?_ GE185.out | refine below_set ?_ GE186.out) | exact HB.out)⟩
                    · rw [if_neg c104] at H
                      have c104b0 : decide (t199 < 0) = false := decide_eq_false c104
                      clear c104
                      obtain rfl := Option.some.inj H
                      have hnb112 := NB184_185.out
                      have hnc112 := NB185_184.out
                      have hnb113 := NB184_186.out
                      have hnc113 := NB186_184.out
                      have hcz114_0 : wc.cell? ⟨gb184, 0, none⟩ = some (.string t187) := (blk_cell BK184.out 0).trans rfl
                      have hcz114_1 : wc.cell? ⟨gb184, 1, none⟩ = some (.string t188) := (blk_cell BK184.out 1).trans rfl
                      have hfz114_0 := blk_frozen BK184.out 0
                      have hfz114_1 := blk_frozen BK184.out 1
                      have hnb115 := NB185_186.out
                      have hnc115 := NB186_185.out
                      have hcz116_0 : wc.cell? ⟨gb185, 0, none⟩ = some (.string t189) := (blk_cell BK185.out 0).trans rfl
                      have hcz116_1 : wc.cell? ⟨gb185, 1, none⟩ = some (.string t190) := (blk_cell BK185.out 1).trans rfl
                      have hfz116_0 := blk_frozen BK185.out 0
                      have hfz116_1 := blk_frozen BK185.out 1
                      go_wp2
                      go_ret
                      exact ⟨by first | rfl | (simp [errW_none, errW_some] <;> rfl) | (simp [*, errW_none, errW_some] <;> rfl), by repeat (first | (with_reducible first | exact HB.out | apply below_alloc | apply pw_below_drewN | apply below_drew1 | refine below_set ?_ GE184.out | refine below_set ?_ GE185.out | refine below_set ?_ GE186.out) | exact HB.out)⟩
              · rw [if_neg c87] at H
                have c87b0 : decide (0 < t193) = false := decide_eq_false c87
                clear c87
                by_cases c117 : t197 > 0
                · rw [if_pos c117] at H
                  have c117b0 : decide (0 < t197) = true := decide_eq_true c117
                  clear c117
                  by_cases c118 : t193 ≥ 0
                  · rw [if_pos c118] at H
                    have c118b0 : decide (0 ≤ t193) = true := decide_eq_true c118
                    clear c118
                    replace H := Option.bind_eq_some_iff.mp H
                    obtain ⟨t210, A1190, H⟩ := H
                    replace H : (some t210) = some r := H
                    have A119 := Aside0.mk A1190
                    clear A1190
                    obtain rfl := Option.some.inj H
                    have hnb120 := NB184_185.out
                    have hnc120 := NB185_184.out
                    have hnb121 := NB184_186.out
                    have hnc121 := NB186_184.out
                    have hcz122_0 : wc.cell? ⟨gb184, 0, none⟩ = some (.string t187) := (blk_cell BK184.out 0).trans rfl
                    have hcz122_1 : wc.cell? ⟨gb184, 1, none⟩ = some (.string t188) := (blk_cell BK184.out 1).trans rfl
                    have hfz122_0 := blk_frozen BK184.out 0
                    have hfz122_1 := blk_frozen BK184.out 1
                    have hnb123 := NB185_186.out
                    have hnc123 := NB186_185.out
                    have hcz124_0 : wc.cell? ⟨gb185, 0, none⟩ = some (.string t189) := (blk_cell BK185.out 0).trans rfl
                    have hcz124_1 : wc.cell? ⟨gb185, 1, none⟩ = some (.string t190) := (blk_cell BK185.out 1).trans rfl
                    have hfz124_0 := blk_frozen BK185.out 0
                    have hfz124_1 := blk_frozen BK185.out 1
                    go_wp2_with (first | (go_at_call 11; (with_reducible refine (graftwoodlaw05_awake.calls kj10  t210 _ A119.out).mono ?_); rintro e w125 ⟨rfl, hb⟩; have n0_ := Aside0.mk (blk_below (g := gb184) (o := .cells #[.string t187, .string t188] 23 (0, 0)) (by (with_reducible repeat (first | refine blk_drewN ?_ _ | refine blk_drew ?_ | refine blk_alloc ?_ _)); exact BK184.out) hb); have n1_ := Aside0.mk (blk_below (g := gb185) (o := .cells #[.string t189, .string t190] 23 (0, 0)) (by (with_reducible repeat (first | refine blk_drewN ?_ _ | refine blk_drew ?_ | refine blk_alloc ?_ _)); exact BK185.out) hb); have n2_ := Aside0.mk (blk_below (g := gb186) (o := .cells #[.string t191, .string t192] 23 (0, 0)) (by (with_reducible repeat (first | refine blk_drewN ?_ _ | refine blk_drew ?_ | refine blk_alloc ?_ _)); exact BK186.out) hb); have n3_ := Aside0.mk (below_step (by repeat (first | (with_reducible first | exact HB.out | apply below_alloc | apply pw_below_drewN | apply below_drew1 | refine below_set ?_ GE184.out | refine below_set ?_ GE185.out | refine below_set ?_ GE186.out) | exact HB.out)) hb); clear BK184; clear BK185; clear BK186; clear HB; have BK184 := n0_; have BK185 := n1_; have BK186 := n2_; have HB := n3_; clear n0_ n1_ n2_ n3_; (try clear hb); (try clear hb2); (try clear hk); (try clear hi)))
                    go_ret
                    exact ⟨by first | rfl | (simp [errW_none, errW_some] <;> rfl) | (simp [*, errW_none, errW_some] <;> rfl), by repeat (first | (with_reducible first | exact HB.out | apply below_alloc | apply pw_below_drewN | apply below_drew1 | refine below_set ?_ GE184.out | refine below_set ?_ GE185.out | refine below_set ?_ GE186.out) | exact HB.out)⟩
                  · rw [if_neg c118] at H
                    have c118b0 : decide (0 ≤ t193) = false := decide_eq_false c118
                    clear c118
                    by_cases c126 : t197 ≥ 0
                    · rw [if_pos c126] at H
                      have c126b0 : decide (0 ≤ t197) = true := decide_eq_true c126
                      clear c126
                      replace H := Option.bind_eq_some_iff.mp H
                      obtain ⟨t211, A1270, H⟩ := H
                      replace H : (some t211) = some r := H
                      have A127 := Aside0.mk A1270
                      clear A1270
                      obtain rfl := Option.some.inj H
                      have hnb128 := NB184_185.out
                      have hnc128 := NB185_184.out
                      have hnb129 := NB184_186.out
                      have hnc129 := NB186_184.out
                      have hcz130_0 : wc.cell? ⟨gb184, 0, none⟩ = some (.string t187) := (blk_cell BK184.out 0).trans rfl
                      have hcz130_1 : wc.cell? ⟨gb184, 1, none⟩ = some (.string t188) := (blk_cell BK184.out 1).trans rfl
                      have hfz130_0 := blk_frozen BK184.out 0
                      have hfz130_1 := blk_frozen BK184.out 1
                      have hnb131 := NB185_186.out
                      have hnc131 := NB186_185.out
                      have hcz132_0 : wc.cell? ⟨gb185, 0, none⟩ = some (.string t189) := (blk_cell BK185.out 0).trans rfl
                      have hcz132_1 : wc.cell? ⟨gb185, 1, none⟩ = some (.string t190) := (blk_cell BK185.out 1).trans rfl
                      have hfz132_0 := blk_frozen BK185.out 0
                      have hfz132_1 := blk_frozen BK185.out 1
                      go_wp2_with (first | (go_at_call 11; (with_reducible refine (graftwoodlaw05_awake.calls kj10  t211 _ A127.out).mono ?_); rintro e w133 ⟨rfl, hb⟩; have n0_ := Aside0.mk (blk_below (g := gb184) (o := .cells #[.string t187, .string t188] 23 (0, 0)) (by (with_reducible repeat (first | refine blk_drewN ?_ _ | refine blk_drew ?_ | refine blk_alloc ?_ _)); exact BK184.out) hb); have n1_ := Aside0.mk (blk_below (g := gb185) (o := .cells #[.string t189, .string t190] 23 (0, 0)) (by (with_reducible repeat (first | refine blk_drewN ?_ _ | refine blk_drew ?_ | refine blk_alloc ?_ _)); exact BK185.out) hb); have n2_ := Aside0.mk (blk_below (g := gb186) (o := .cells #[.string t191, .string t192] 23 (0, 0)) (by (with_reducible repeat (first | refine blk_drewN ?_ _ | refine blk_drew ?_ | refine blk_alloc ?_ _)); exact BK186.out) hb); have n3_ := Aside0.mk (below_step (by repeat (first | (with_reducible first | exact HB.out | apply below_alloc | apply pw_below_drewN | apply below_drew1 | refine below_set ?_ GE184.out | refine below_set ?_ GE185.out | refine below_set ?_ GE186.out) | exact HB.out)) hb); clear BK184; clear BK185; clear BK186; clear HB; have BK184 := n0_; have BK185 := n1_; have BK186 := n2_; have HB := n3_; clear n0_ n1_ n2_ n3_; (try clear hb); (try clear hb2); (try clear hk); (try clear hi)))
                      go_ret
                      exact ⟨by first | rfl | (simp [errW_none, errW_some] <;> rfl) | (simp [*, errW_none, errW_some] <;> rfl), by repeat (first | (with_reducible first | exact HB.out | apply below_alloc | apply pw_below_drewN | apply below_drew1 | refine below_set ?_ GE184.out | refine below_set ?_ GE185.out | refine below_set ?_ GE186.out) | exact HB.out)⟩
                    · rw [if_neg c126] at H
                      have c126b0 : decide (0 ≤ t197) = false := decide_eq_false c126
                      clear c126
                      by_cases c134 : t199 < 0
                      · rw [if_pos c134] at H
                        have c134b0 : decide (t199 < 0) = true := decide_eq_true c134
                        clear c134
                        replace H := Option.bind_eq_some_iff.mp H
                        obtain ⟨t212, A1350, H⟩ := H
                        replace H : (some t212) = some r := H
                        have A135 := Aside0.mk A1350
                        clear A1350
                        obtain rfl := Option.some.inj H
                        have hnb136 := NB184_185.out
                        have hnc136 := NB185_184.out
                        have hnb137 := NB184_186.out
                        have hnc137 := NB186_184.out
                        have hcz138_0 : wc.cell? ⟨gb184, 0, none⟩ = some (.string t187) := (blk_cell BK184.out 0).trans rfl
                        have hcz138_1 : wc.cell? ⟨gb184, 1, none⟩ = some (.string t188) := (blk_cell BK184.out 1).trans rfl
                        have hfz138_0 := blk_frozen BK184.out 0
                        have hfz138_1 := blk_frozen BK184.out 1
                        have hnb139 := NB185_186.out
                        have hnc139 := NB186_185.out
                        have hcz140_0 : wc.cell? ⟨gb185, 0, none⟩ = some (.string t189) := (blk_cell BK185.out 0).trans rfl
                        have hcz140_1 : wc.cell? ⟨gb185, 1, none⟩ = some (.string t190) := (blk_cell BK185.out 1).trans rfl
                        have hfz140_0 := blk_frozen BK185.out 0
                        have hfz140_1 := blk_frozen BK185.out 1
                        go_wp2_with (first | (go_at_call 11; (with_reducible refine (graftwoodlaw05_awake.calls kj10  t212 _ A135.out).mono ?_); rintro e w141 ⟨rfl, hb⟩; have n0_ := Aside0.mk (blk_below (g := gb184) (o := .cells #[.string t187, .string t188] 23 (0, 0)) (by (with_reducible repeat (first | refine blk_drewN ?_ _ | refine blk_drew ?_ | refine blk_alloc ?_ _)); exact BK184.out) hb); have n1_ := Aside0.mk (blk_below (g := gb185) (o := .cells #[.string t189, .string t190] 23 (0, 0)) (by (with_reducible repeat (first | refine blk_drewN ?_ _ | refine blk_drew ?_ | refine blk_alloc ?_ _)); exact BK185.out) hb); have n2_ := Aside0.mk (blk_below (g := gb186) (o := .cells #[.string t191, .string t192] 23 (0, 0)) (by (with_reducible repeat (first | refine blk_drewN ?_ _ | refine blk_drew ?_ | refine blk_alloc ?_ _)); exact BK186.out) hb); have n3_ := Aside0.mk (below_step (by repeat (first | (with_reducible first | exact HB.out | apply below_alloc | apply pw_below_drewN | apply below_drew1 | refine below_set ?_ GE184.out | refine below_set ?_ GE185.out | refine below_set ?_ GE186.out) | exact HB.out)) hb); clear BK184; clear BK185; clear BK186; clear HB; have BK184 := n0_; have BK185 := n1_; have BK186 := n2_; have HB := n3_; clear n0_ n1_ n2_ n3_; (try clear hb); (try clear hb2); (try clear hk); (try clear hi)))
                        go_ret
                        exact ⟨by first | rfl | (simp [errW_none, errW_some] <;> rfl) | (simp [*, errW_none, errW_some] <;> rfl), by repeat (first | (with_reducible first | exact HB.out | apply below_alloc | apply pw_below_drewN | apply below_drew1 | refine below_set ?_ GE184.out | refine below_set ?_ GE185.out | refine below_set ?_ GE186.out) | exact HB.out)⟩
                      · rw [if_neg c134] at H
                        have c134b0 : decide (t199 < 0) = false := decide_eq_false c134
                        clear c134
                        obtain rfl := Option.some.inj H
                        have hnb142 := NB184_185.out
                        have hnc142 := NB185_184.out
                        have hnb143 := NB184_186.out
                        have hnc143 := NB186_184.out
                        have hcz144_0 : wc.cell? ⟨gb184, 0, none⟩ = some (.string t187) := (blk_cell BK184.out 0).trans rfl
                        have hcz144_1 : wc.cell? ⟨gb184, 1, none⟩ = some (.string t188) := (blk_cell BK184.out 1).trans rfl
                        have hfz144_0 := blk_frozen BK184.out 0
                        have hfz144_1 := blk_frozen BK184.out 1
                        have hnb145 := NB185_186.out
                        have hnc145 := NB186_185.out
                        have hcz146_0 : wc.cell? ⟨gb185, 0, none⟩ = some (.string t189) := (blk_cell BK185.out 0).trans rfl
                        have hcz146_1 : wc.cell? ⟨gb185, 1, none⟩ = some (.string t190) := (blk_cell BK185.out 1).trans rfl
                        have hfz146_0 := blk_frozen BK185.out 0
                        have hfz146_1 := blk_frozen BK185.out 1
                        go_wp2
                        go_ret
                        exact ⟨by first | rfl | (simp [errW_none, errW_some] <;> rfl) | (simp [*, errW_none, errW_some] <;> rfl), by repeat (first | (with_reducible first | exact HB.out | apply below_alloc | apply pw_below_drewN | apply below_drew1 | refine below_set ?_ GE184.out | refine below_set ?_ GE185.out | refine below_set ?_ GE186.out) | exact HB.out)⟩
                · rw [if_neg c117] at H
                  have c117b0 : decide (0 < t197) = false := decide_eq_false c117
                  clear c117
                  by_cases c147 : t199 ≤ 0
                  · rw [if_pos c147] at H
                    have c147b0 : decide (t199 ≤ 0) = true := decide_eq_true c147
                    clear c147
                    by_cases c148 : t193 ≥ 0
                    · rw [if_pos c148] at H
                      have c148b0 : decide (0 ≤ t193) = true := decide_eq_true c148
                      clear c148
                      replace H := Option.bind_eq_some_iff.mp H
                      obtain ⟨t213, A1490, H⟩ := H
                      replace H : (some t213) = some r := H
                      have A149 := Aside0.mk A1490
                      clear A1490
                      obtain rfl := Option.some.inj H
                      have hnb150 := NB184_185.out
                      have hnc150 := NB185_184.out
                      have hnb151 := NB184_186.out
                      have hnc151 := NB186_184.out
                      have hcz152_0 : wc.cell? ⟨gb184, 0, none⟩ = some (.string t187) := (blk_cell BK184.out 0).trans rfl
                      have hcz152_1 : wc.cell? ⟨gb184, 1, none⟩ = some (.string t188) := (blk_cell BK184.out 1).trans rfl
                      have hfz152_0 := blk_frozen BK184.out 0
                      have hfz152_1 := blk_frozen BK184.out 1
                      have hnb153 := NB185_186.out
                      have hnc153 := NB186_185.out
                      have hcz154_0 : wc.cell? ⟨gb185, 0, none⟩ = some (.string t189) := (blk_cell BK185.out 0).trans rfl
                      have hcz154_1 : wc.cell? ⟨gb185, 1, none⟩ = some (.string t190) := (blk_cell BK185.out 1).trans rfl
                      have hfz154_0 := blk_frozen BK185.out 0
                      have hfz154_1 := blk_frozen BK185.out 1
                      go_wp2_with (first | (go_at_call 11; (with_reducible refine (graftwoodlaw05_awake.calls kj10  t213 _ A149.out).mono ?_); rintro e w155 ⟨rfl, hb⟩; have n0_ := Aside0.mk (blk_below (g := gb184) (o := .cells #[.string t187, .string t188] 23 (0, 0)) (by (with_reducible repeat (first | refine blk_drewN ?_ _ | refine blk_drew ?_ | refine blk_alloc ?_ _)); exact BK184.out) hb); have n1_ := Aside0.mk (blk_below (g := gb185) (o := .cells #[.string t189, .string t190] 23 (0, 0)) (by (with_reducible repeat (first | refine blk_drewN ?_ _ | refine blk_drew ?_ | refine blk_alloc ?_ _)); exact BK185.out) hb); have n2_ := Aside0.mk (blk_below (g := gb186) (o := .cells #[.string t191, .string t192] 23 (0, 0)) (by (with_reducible repeat (first | refine blk_drewN ?_ _ | refine blk_drew ?_ | refine blk_alloc ?_ _)); exact BK186.out) hb); have n3_ := Aside0.mk (below_step (by repeat (first | (with_reducible first | exact HB.out | apply below_alloc | apply pw_below_drewN | apply below_drew1 | refine below_set ?_ GE184.out | refine below_set ?_ GE185.out | refine below_set ?_ GE186.out) | exact HB.out)) hb); clear BK184; clear BK185; clear BK186; clear HB; have BK184 := n0_; have BK185 := n1_; have BK186 := n2_; have HB := n3_; clear n0_ n1_ n2_ n3_; (try clear hb); (try clear hb2); (try clear hk); (try clear hi)))
                      go_ret
                      exact ⟨by first | rfl | (simp [errW_none, errW_some] <;> rfl) | (simp [*, errW_none, errW_some] <;> rfl), by repeat (first | (with_reducible first | exact HB.out | apply below_alloc | apply pw_below_drewN | apply below_drew1 | refine below_set ?_ GE184.out | refine below_set ?_ GE185.out | refine below_set ?_ GE186.out) | exact HB.out)⟩
                    · rw [if_neg c148] at H
                      have c148b0 : decide (0 ≤ t193) = false := decide_eq_false c148
                      clear c148
                      by_cases c156 : t197 ≥ 0
                      · rw [if_pos c156] at H
                        have c156b0 : decide (0 ≤ t197) = true := decide_eq_true c156
                        clear c156
                        replace H := Option.bind_eq_some_iff.mp H
                        obtain ⟨t214, A1570, H⟩ := H
                        replace H : (some t214) = some r := H
                        have A157 := Aside0.mk A1570
                        clear A1570
                        obtain rfl := Option.some.inj H
                        have hnb158 := NB184_185.out
                        have hnc158 := NB185_184.out
                        have hnb159 := NB184_186.out
                        have hnc159 := NB186_184.out
                        have hcz160_0 : wc.cell? ⟨gb184, 0, none⟩ = some (.string t187) := (blk_cell BK184.out 0).trans rfl
                        have hcz160_1 : wc.cell? ⟨gb184, 1, none⟩ = some (.string t188) := (blk_cell BK184.out 1).trans rfl
                        have hfz160_0 := blk_frozen BK184.out 0
                        have hfz160_1 := blk_frozen BK184.out 1
                        have hnb161 := NB185_186.out
                        have hnc161 := NB186_185.out
                        have hcz162_0 : wc.cell? ⟨gb185, 0, none⟩ = some (.string t189) := (blk_cell BK185.out 0).trans rfl
                        have hcz162_1 : wc.cell? ⟨gb185, 1, none⟩ = some (.string t190) := (blk_cell BK185.out 1).trans rfl
                        have hfz162_0 := blk_frozen BK185.out 0
                        have hfz162_1 := blk_frozen BK185.out 1
                        go_wp2_with (first | (go_at_call 11; (with_reducible refine (graftwoodlaw05_awake.calls kj10  t214 _ A157.out).mono ?_); rintro e w163 ⟨rfl, hb⟩; have n0_ := Aside0.mk (blk_below (g := gb184) (o := .cells #[.string t187, .string t188] 23 (0, 0)) (by (with_reducible repeat (first | refine blk_drewN ?_ _ | refine blk_drew ?_ | refine blk_alloc ?_ _)); exact BK184.out) hb); have n1_ := Aside0.mk (blk_below (g := gb185) (o := .cells #[.string t189, .string t190] 23 (0, 0)) (by (with_reducible repeat (first | refine blk_drewN ?_ _ | refine blk_drew ?_ | refine blk_alloc ?_ _)); exact BK185.out) hb); have n2_ := Aside0.mk (blk_below (g := gb186) (o := .cells #[.string t191, .string t192] 23 (0, 0)) (by (with_reducible repeat (first | refine blk_drewN ?_ _ | refine blk_drew ?_ | refine blk_alloc ?_ _)); exact BK186.out) hb); have n3_ := Aside0.mk (below_step (by repeat (first | (with_reducible first | exact HB.out | apply below_alloc | apply pw_below_drewN | apply below_drew1 | refine below_set ?_ GE184.out | refine below_set ?_ GE185.out | refine below_set ?_ GE186.out) | exact HB.out)) hb); clear BK184; clear BK185; clear BK186; clear HB; have BK184 := n0_; have BK185 := n1_; have BK186 := n2_; have HB := n3_; clear n0_ n1_ n2_ n3_; (try clear hb); (try clear hb2); (try clear hk); (try clear hi)))
                        go_ret
                        exact ⟨by first | rfl | (simp [errW_none, errW_some] <;> rfl) | (simp [*, errW_none, errW_some] <;> rfl), by repeat (first | (with_reducible first | exact HB.out | apply below_alloc | apply pw_below_drewN | apply below_drew1 | refine below_set ?_ GE184.out | refine below_set ?_ GE185.out | refine below_set ?_ GE186.out) | exact HB.out)⟩
                      · rw [if_neg c156] at H
                        have c156b0 : decide (0 ≤ t197) = false := decide_eq_false c156
                        clear c156
                        by_cases c164 : t199 < 0
                        · rw [if_pos c164] at H
                          have c164b0 : decide (t199 < 0) = true := decide_eq_true c164
                          clear c164
                          replace H := Option.bind_eq_some_iff.mp H
                          obtain ⟨t215, A1650, H⟩ := H
                          replace H : (some t215) = some r := H
                          have A165 := Aside0.mk A1650
                          clear A1650
                          obtain rfl := Option.some.inj H
                          have hnb166 := NB184_185.out
                          have hnc166 := NB185_184.out
                          have hnb167 := NB184_186.out
                          have hnc167 := NB186_184.out
                          have hcz168_0 : wc.cell? ⟨gb184, 0, none⟩ = some (.string t187) := (blk_cell BK184.out 0).trans rfl
                          have hcz168_1 : wc.cell? ⟨gb184, 1, none⟩ = some (.string t188) := (blk_cell BK184.out 1).trans rfl
                          have hfz168_0 := blk_frozen BK184.out 0
                          have hfz168_1 := blk_frozen BK184.out 1
                          have hnb169 := NB185_186.out
                          have hnc169 := NB186_185.out
                          have hcz170_0 : wc.cell? ⟨gb185, 0, none⟩ = some (.string t189) := (blk_cell BK185.out 0).trans rfl
                          have hcz170_1 : wc.cell? ⟨gb185, 1, none⟩ = some (.string t190) := (blk_cell BK185.out 1).trans rfl
                          have hfz170_0 := blk_frozen BK185.out 0
                          have hfz170_1 := blk_frozen BK185.out 1
                          go_wp2_with (first | (go_at_call 11; (with_reducible refine (graftwoodlaw05_awake.calls kj10  t215 _ A165.out).mono ?_); rintro e w171 ⟨rfl, hb⟩; have n0_ := Aside0.mk (blk_below (g := gb184) (o := .cells #[.string t187, .string t188] 23 (0, 0)) (by (with_reducible repeat (first | refine blk_drewN ?_ _ | refine blk_drew ?_ | refine blk_alloc ?_ _)); exact BK184.out) hb); have n1_ := Aside0.mk (blk_below (g := gb185) (o := .cells #[.string t189, .string t190] 23 (0, 0)) (by (with_reducible repeat (first | refine blk_drewN ?_ _ | refine blk_drew ?_ | refine blk_alloc ?_ _)); exact BK185.out) hb); have n2_ := Aside0.mk (blk_below (g := gb186) (o := .cells #[.string t191, .string t192] 23 (0, 0)) (by (with_reducible repeat (first | refine blk_drewN ?_ _ | refine blk_drew ?_ | refine blk_alloc ?_ _)); exact BK186.out) hb); have n3_ := Aside0.mk (below_step (by repeat (first | (with_reducible first | exact HB.out | apply below_alloc | apply pw_below_drewN | apply below_drew1 | refine below_set ?_ GE184.out | refine below_set ?_ GE185.out | refine below_set ?_ GE186.out) | exact HB.out)) hb); clear BK184; clear BK185; clear BK186; clear HB; have BK184 := n0_; have BK185 := n1_; have BK186 := n2_; have HB := n3_; clear n0_ n1_ n2_ n3_; (try clear hb); (try clear hb2); (try clear hk); (try clear hi)))
                          go_ret
                          exact ⟨by first | rfl | (simp [errW_none, errW_some] <;> rfl) | (simp [*, errW_none, errW_some] <;> rfl), by repeat (first | (with_reducible first | exact HB.out | apply below_alloc | apply pw_below_drewN | apply below_drew1 | refine below_set ?_ GE184.out | refine below_set ?_ GE185.out | refine below_set ?_ GE186.out) | exact HB.out)⟩
                        · rw [if_neg c164] at H
                          have c164b0 : decide (t199 < 0) = false := decide_eq_false c164
                          clear c164
                          obtain rfl := Option.some.inj H
                          have hnb172 := NB184_185.out
                          have hnc172 := NB185_184.out
                          have hnb173 := NB184_186.out
                          have hnc173 := NB186_184.out
                          have hcz174_0 : wc.cell? ⟨gb184, 0, none⟩ = some (.string t187) := (blk_cell BK184.out 0).trans rfl
                          have hcz174_1 : wc.cell? ⟨gb184, 1, none⟩ = some (.string t188) := (blk_cell BK184.out 1).trans rfl
                          have hfz174_0 := blk_frozen BK184.out 0
                          have hfz174_1 := blk_frozen BK184.out 1
                          have hnb175 := NB185_186.out
                          have hnc175 := NB186_185.out
                          have hcz176_0 : wc.cell? ⟨gb185, 0, none⟩ = some (.string t189) := (blk_cell BK185.out 0).trans rfl
                          have hcz176_1 : wc.cell? ⟨gb185, 1, none⟩ = some (.string t190) := (blk_cell BK185.out 1).trans rfl
                          have hfz176_0 := blk_frozen BK185.out 0
                          have hfz176_1 := blk_frozen BK185.out 1
                          go_wp2
                          go_ret
                          exact ⟨by first | rfl | (simp [errW_none, errW_some] <;> rfl) | (simp [*, errW_none, errW_some] <;> rfl), by repeat (first | (with_reducible first | exact HB.out | apply below_alloc | apply pw_below_drewN | apply below_drew1 | refine below_set ?_ GE184.out | refine below_set ?_ GE185.out | refine below_set ?_ GE186.out) | exact HB.out)⟩
                  · rw [if_neg c147] at H
                    have c147b0 : decide (t199 ≤ 0) = false := decide_eq_false c147
                    clear c147
                    obtain rfl := Option.some.inj H
                    have hnb177 := NB184_185.out
                    have hnc177 := NB185_184.out
                    have hnb178 := NB184_186.out
                    have hnc178 := NB186_184.out
                    have hcz179_0 : wc.cell? ⟨gb184, 0, none⟩ = some (.string t187) := (blk_cell BK184.out 0).trans rfl
                    have hcz179_1 : wc.cell? ⟨gb184, 1, none⟩ = some (.string t188) := (blk_cell BK184.out 1).trans rfl
                    have hfz179_0 := blk_frozen BK184.out 0
                    have hfz179_1 := blk_frozen BK184.out 1
                    have hnb180 := NB185_186.out
                    have hnc180 := NB186_185.out
                    have hcz181_0 : wc.cell? ⟨gb185, 0, none⟩ = some (.string t189) := (blk_cell BK185.out 0).trans rfl
                    have hcz181_1 : wc.cell? ⟨gb185, 1, none⟩ = some (.string t190) := (blk_cell BK185.out 1).trans rfl
                    have hfz181_0 := blk_frozen BK185.out 0
                    have hfz181_1 := blk_frozen BK185.out 1
                    go_wp2
                    go_ret
                    exact ⟨by first | rfl | (simp [errW_none, errW_some] <;> rfl) | (simp [*, errW_none, errW_some] <;> rfl), by repeat (first | (with_reducible first | exact HB.out | apply below_alloc | apply pw_below_drewN | apply below_drew1 | refine below_set ?_ GE184.out | refine below_set ?_ GE185.out | refine below_set ?_ GE186.out) | exact HB.out)⟩
            · rw [if_neg c86] at H
              have c86b0 : ((t193 == 0) == (t187.toList == t189.toList && (t188.toList == t190.toList))) = false := by simpa using c86
              (try (have c86b1 : decide ((t193 == 0) = (t187.toList == t189.toList && (t188.toList == t190.toList))) = false := by simpa using c86))
              (try (have c86b2 : ((t193 == 0) == (t187.toList == t189.toList && (t188.toList == t190.toList))) = false := by simpa using c86))
              (try (have c86b3 : ¬ ((t193 == 0) = (t187.toList == t189.toList && (t188.toList == t190.toList))) := by simpa using c86))
              clear c86
              obtain rfl := Option.some.inj H
              have hnb182 := NB184_185.out
              have hnc182 := NB185_184.out
              have hnb183 := NB184_186.out
              have hnc183 := NB186_184.out
              have hcz184_0 : wc.cell? ⟨gb184, 0, none⟩ = some (.string t187) := (blk_cell BK184.out 0).trans rfl
              have hcz184_1 : wc.cell? ⟨gb184, 1, none⟩ = some (.string t188) := (blk_cell BK184.out 1).trans rfl
              have hfz184_0 := blk_frozen BK184.out 0
              have hfz184_1 := blk_frozen BK184.out 1
              have hnb185 := NB185_186.out
              have hnc185 := NB186_185.out
              have hcz186_0 : wc.cell? ⟨gb185, 0, none⟩ = some (.string t189) := (blk_cell BK185.out 0).trans rfl
              have hcz186_1 : wc.cell? ⟨gb185, 1, none⟩ = some (.string t190) := (blk_cell BK185.out 1).trans rfl
              have hfz186_0 := blk_frozen BK185.out 0
              have hfz186_1 := blk_frozen BK185.out 1
              go_wp2
              go_ret
              exact ⟨by first | rfl | (simp [errW_none, errW_some] <;> rfl) | (simp [*, errW_none, errW_some] <;> rfl), by repeat (first | (with_reducible first | exact HB.out | apply below_alloc | apply pw_below_drewN | apply below_drew1 | refine below_set ?_ GE184.out | refine below_set ?_ GE185.out | refine below_set ?_ GE186.out) | exact HB.out)⟩
          · rw [if_neg c85] at H
            have c85b0 : (t193 == (wrap64 (-t195))) = false := beq_eq_false_iff_ne.mpr c85
            have c85b1 : (t193 != (wrap64 (-t195))) = true := bne_iff_ne.mpr c85
            obtain rfl := Option.some.inj H
            go_wp2
            go_ret
            exact ⟨by first | rfl | (simp [errW_none, errW_some] <;> rfl) | (simp [*, errW_none, errW_some] <;> rfl), by repeat (first | (with_reducible first | exact HB.out | apply below_alloc | apply pw_below_drewN | apply below_drew1 | refine below_set ?_ GE184.out | refine below_set ?_ GE185.out | refine below_set ?_ GE186.out) | exact HB.out)⟩
        · rw [if_neg c84] at H
          have c84b0 : (t196 == 0) = false := beq_eq_false_iff_ne.mpr c84
          have c84b1 : (t196 != 0) = true := bne_iff_ne.mpr c84
          obtain rfl := Option.some.inj H
          go_wp2
          go_ret
          exact ⟨by first | rfl | (simp [errW_none, errW_some] <;> rfl) | (simp [*, errW_none, errW_some] <;> rfl), by repeat (first | (with_reducible first | exact HB.out | apply below_alloc | apply pw_below_drewN | apply below_drew1 | refine below_set ?_ GE184.out | refine below_set ?_ GE185.out | refine below_set ?_ GE186.out) | exact HB.out)⟩

end Go.Proofs.YtnknjhdpjjddeaaDoor.Q

namespace Go.Proofs.YtnknjhdpjjddeaaDoor.Q
open Go.Proofs.YtnknjhdpjjddeaaDoor.QB.D
open Go Go.RowKit Go.Lib Go.Proofs.YtnknjhdpjjddeaaDoorW.PrintWords Go.Proofs.YtnknjhdpjjddeaaDoorW.PrintLast Go.Proofs.YtnknjhdpjjddeaaDoorW.PrintMore Gw
set_option linter.unusedVariables false
set_option linter.unusedSimpArgs false
set_option maxHeartbeats 2000000 in
theorem order_true (k : Nat) (hk : 1100 ≤ k) (a0 a1 b0 b1 c0 c1 : ByteArray) : graftwoodlaw05_NodeOrder.f (k + 1) a0 a1 b0 b1 c0 c1 = some true := by
  unfold graftwoodlaw05_NodeOrder.f
  rw [One_val, One_val, One_val]
  simp only [Option.bind_some]
  have x1 := few_size a0
  have x2 := few_size a1
  have y1 := few_size b0
  have y2 := few_size b1
  have z1 := few_size c0
  have z2 := few_size c1
  generalize few a0 = xa at *
  generalize few a1 = xb at *
  generalize few b0 = ya at *
  generalize few b1 = yb at *
  generalize few c0 = za at *
  generalize few c1 = zb at *
  have hx : Brief ⟨xa, xb⟩ := ⟨x1, x2⟩
  have hy : Brief ⟨ya, yb⟩ := ⟨y1, y2⟩
  have hz : Brief ⟨za, zb⟩ := ⟨z1, z2⟩
  have e1 := node_Cmp_val (k + 1) ⟨xa, xb⟩ ⟨ya, yb⟩ hx hy (by omega)
  have e2 := node_Cmp_val (k + 1) ⟨ya, yb⟩ ⟨xa, xb⟩ hy hx (by omega)
  have e3 := node_Cmp_val (k + 1) ⟨ya, yb⟩ ⟨za, zb⟩ hy hz (by omega)
  have e4 := node_Cmp_val (k + 1) ⟨xa, xb⟩ ⟨za, zb⟩ hx hz (by omega)
  simp only [] at e1 e2 e3 e4
  rw [e1, e2, e3, e4]
  simp only [Option.bind_some]
  have m1 := node_May_val k ⟨xa, xb⟩ hx.tiny (by simp only []; omega)
  have m2 := node_May_val k ⟨ya, yb⟩ hy.tiny (by simp only []; omega)
  have m3 := node_May_val k ⟨za, zb⟩ hz.tiny (by simp only []; omega)
  have hw := awake_val k hk
  simp only [] at m1 m2 m3
  unfold cmpM
  cases hmx : mayN ⟨xa, xb⟩
  · simp [graftwoodlaw05_NodeOrder.j0, m1, hmx, hw]
  · cases hmy : mayN ⟨ya, yb⟩
    · simp [graftwoodlaw05_NodeOrder.j0, m1, m2, hmx, hmy, hw]
    · cases hmz : mayN ⟨za, zb⟩
      · simp [graftwoodlaw05_NodeOrder.j0, m1, m2, m3, hmx, hmy, hmz, hw]
      · have gx := mayN_good hx.tiny hmx
        have gy := mayN_good hy.tiny hmy
        have gz := mayN_good hz.tiny hmz
        have s := ordN_to.sym ⟨xa, xb⟩ ⟨ya, yb⟩ gx gy
        have t1 := ordN_to.tri ⟨xa, xb⟩ ⟨ya, yb⟩
        have t2 := ordN_to.tri ⟨ya, yb⟩ ⟨za, zb⟩
        have t3 := ordN_to.tri ⟨xa, xb⟩ ⟨za, zb⟩
        have q := ordN_to.eq ⟨xa, xb⟩ ⟨ya, yb⟩ gx gy
        have l1 := ordN_to.le ⟨xa, xb⟩ ⟨ya, yb⟩ ⟨za, zb⟩ gx gy gz
        have he : ((ordN ⟨xa, xb⟩ ⟨ya, yb⟩ == 0) == (xa.toList == ya.toList && (xb.toList == yb.toList))) = true := by
          rw [str_eq, str_eq]
          by_cases h : ordN ⟨xa, xb⟩ ⟨ya, yb⟩ = 0
          · have h2 := q.1 h
            injection h2 with h3 h4
            rw [decide_eq_true h3, decide_eq_true h4, h]
            rfl
          · have h2 : ¬ (xa = ya ∧ xb = yb) := fun h3 => h (q.2 (by rw [h3.1, h3.2]))
            rw [beq_eq_false_iff_ne.2 h]
            by_cases h3 : xa = ya
            · have h4 : xb ≠ yb := fun h4 => h2 ⟨h3, h4⟩
              simp [h3, h4]
            · simp [h3]
        have hwr : ordN ⟨xa, xb⟩ ⟨ya, yb⟩ = wrap64 (-ordN ⟨ya, yb⟩ ⟨xa, xb⟩) := by
          rw [s]; unfold wrap64; omega
        simp only [Bool.and_self, if_true, graftwoodlaw05_NodeOrder.j0, hw, Option.bind_some]
        rw [if_neg (by decide), ← hwr, if_pos rfl, if_pos he]
        generalize ordN ⟨xa, xb⟩ ⟨ya, yb⟩ = u at *
        generalize ordN ⟨ya, yb⟩ ⟨za, zb⟩ = v at *
        generalize ordN ⟨xa, xb⟩ ⟨za, zb⟩ = t at *
        clear e1 e2 e3 e4 m1 m2 m3 he hwr q s
        repeat' split
        all_goals first | rfl | (exfalso; omega) | (exfalso; have := l1 (by omega) (by omega); omega)
end Go.Proofs.YtnknjhdpjjddeaaDoor.Q
