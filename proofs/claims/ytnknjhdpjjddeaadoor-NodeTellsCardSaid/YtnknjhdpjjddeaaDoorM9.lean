/- M9: several texts of this claim one behind the other: Q12, PureTells. What each shows stands in its theorems; conditions: sizes of texts, as the definitions of the functions say. -/
import Derived.Test.YtnknjhdpjjddeaaDoorM3
import Derived.Test.YtnknjhdpjjddeaaDoorM1
import Derived.Test.YtnknjhdpjjddeaaDoorM8
import Derived.Test.YtnknjhdpjjddeaaDoorM4
import Derived.Test.YtnknjhdpjjddeaaDoorM5
namespace Go.Proofs.YtnknjhdpjjddeaaDoor.Q
open Go.Proofs.YtnknjhdpjjddeaaDoor.QB.D
open Go.RowKit Go.Proofs.YtnknjhdpjjddeaaDoorW.PrintWords Go.Proofs.YtnknjhdpjjddeaaDoorW.PrintLast Go.Proofs.YtnknjhdpjjddeaaDoorW.PrintMore
attribute [local go_sem] max2_int min2_int max_two min_two max_three min_three max_four min_four   -- for this text's walks alone
set_option linter.unusedVariables false
set_option linter.unusedSimpArgs false

attribute [local go_sem high] eqA23
/-! ### graftwoodlaw05_NodeTells: function 5 -/
mutual
def graftwoodlaw05_NodeTells.j0 : Nat → ByteArray → Int → Int → Bool → ByteArray → ByteArray → ByteArray → ByteArray → Option (Bool)
  | 0, _, _, _, _, _, _, _, _ => none
  | k + 1, x2, x7, x8, x38, x272000, x272001, x273000, x273001 => if x38 = true then (some false) else ((node_Read.f k x2).bind fun bt283 => (if bt283.2.2 = 0 then ((graftwoodref05_May.f k bt283.1 bt283.2.1).bind fun t287 => (if t287 = true then (if bt283.1.size + 1 ≤ 9223372036854775807 then (if (bt283.1 ++ (⟨#[64]⟩ : ByteArray)).size + bt283.2.1.size ≤ 9223372036854775807 then (if ((bt283.1 ++ (⟨#[64]⟩ : ByteArray)) ++ bt283.2.1).toList = x2.toList then (graftwoodlaw05_NodeTells.j1 k x7 x8 false x272000 x272001 x273000 x273001) else (graftwoodlaw05_NodeTells.j1 k x7 x8 true x272000 x272001 x273000 x273001)) else (none)) else (none)) else (graftwoodlaw05_NodeTells.j1 k x7 x8 true x272000 x272001 x273000 x273001))) else (if bt283.2.2 = 1 then (graftwoodlaw05_NodeTells.j1 k x7 x8 (!(bt283.1.toList == ([] : List UInt8)) || (!(bt283.2.1.toList == ([] : List UInt8)))) x272000 x272001 x273000 x273001) else (graftwoodlaw05_NodeTells.j1 k x7 x8 true x272000 x272001 x273000 x273001))))
def graftwoodlaw05_NodeTells.j1 : Nat → Int → Int → Bool → ByteArray → ByteArray → ByteArray → ByteArray → Option (Bool)
  | 0, _, _, _, _, _, _, _ => none
  | k + 1, x7, x8, x73, x272000, x272001, x273000, x273001 => if x73 = true then (some false) else ((graftwoodref05_May.f k x272000 x272001).bind fun t288 => (if t288 = true then ((graftwoodref05_May.f k x273000 x273001).bind fun t289 => (graftwoodlaw05_NodeTells.j2 k x7 x8 (!t289) x272000 x272001 x273000 x273001)) else (graftwoodlaw05_NodeTells.j2 k x7 x8 true x272000 x272001 x273000 x273001)))
def graftwoodlaw05_NodeTells.j2 : Nat → Int → Int → Bool → ByteArray → ByteArray → ByteArray → ByteArray → Option (Bool)
  | 0, _, _, _, _, _, _, _ => none
  | k + 1, x7, x8, x81, x272000, x272001, x273000, x273001 => if x81 = true then (if x7 = 0 then (if x8 = 1 then ((graftwoodlaw05_awake.f k).bind fun t290 => (some t290)) else (some false)) else (some false)) else (if x8 = 0 then ((graftwoodref05_Less.f k x272000 x272001 x273000 x273001).bind fun t291 => (if ((decide (x7 < 0)) == t291) = true then ((graftwoodref05_Less.f k x273000 x273001 x272000 x272001).bind fun t292 => (if ((decide (x7 > 0)) == t292) = true then (if x7 ≥ (-1) then (if x7 ≤ 1 then ((graftwoodlaw05_awake.f k).bind fun t293 => (some t293)) else (some false)) else (some false)) else (some false))) else (some false))) else (some false))
end
def graftwoodlaw05_NodeTells.f (k : Nat) (a0_0 : ByteArray) (a0_1 : ByteArray) (a1_0 : ByteArray) (a1_1 : ByteArray) (a2 : ByteArray) : Option (Bool) := (graftwoodlaw05_One.f a0_0 a0_1).bind fun bt273 => ((graftwoodlaw05_One.f a1_0 a1_1).bind fun bt275 => ((graftwoodlaw01_Few.f a2).bind fun t277 => ((node_Cmp.f k bt273.1 bt273.2 bt275.1 bt275.2).bind fun bt278 => ((node_May.f k bt273.1 bt273.2).bind fun t280 => ((graftwoodref05_May.f k bt273.1 bt273.2).bind fun t281 => (if (t280 != t281) = true then (graftwoodlaw05_NodeTells.j0 k t277 bt278.1 bt278.2 true bt273.1 bt273.2 bt275.1 bt275.2) else ((node_Text.f bt273.1 bt273.2).bind fun t282 => (if bt273.1.size + 1 ≤ 9223372036854775807 then (if (bt273.1 ++ (⟨#[64]⟩ : ByteArray)).size + bt273.2.size ≤ 9223372036854775807 then (graftwoodlaw05_NodeTells.j0 k t277 bt278.1 bt278.2 (t282.toList != ((bt273.1 ++ (⟨#[64]⟩ : ByteArray)) ++ bt273.2).toList) bt273.1 bt273.2 bt275.1 bt275.2) else (none)) else (none)))))))))
theorem graftwoodlaw05_NodeTells.mono_l : ∀ k, (∀ y0 y1 y2 y3 y4 y5 y6 y7, LeO (graftwoodlaw05_NodeTells.j0 k y0 y1 y2 y3 y4 y5 y6 y7) (graftwoodlaw05_NodeTells.j0 (k + 1) y0 y1 y2 y3 y4 y5 y6 y7)) ∧ (∀ y0 y1 y2 y3 y4 y5 y6, LeO (graftwoodlaw05_NodeTells.j1 k y0 y1 y2 y3 y4 y5 y6) (graftwoodlaw05_NodeTells.j1 (k + 1) y0 y1 y2 y3 y4 y5 y6)) ∧ (∀ y0 y1 y2 y3 y4 y5 y6, LeO (graftwoodlaw05_NodeTells.j2 k y0 y1 y2 y3 y4 y5 y6) (graftwoodlaw05_NodeTells.j2 (k + 1) y0 y1 y2 y3 y4 y5 y6))
  | 0 => ⟨fun _ _ _ _ _ _ _ _ r h => by simp [graftwoodlaw05_NodeTells.j0] at h, fun _ _ _ _ _ _ _ r h => by simp [graftwoodlaw05_NodeTells.j1] at h, fun _ _ _ _ _ _ _ r h => by simp [graftwoodlaw05_NodeTells.j2] at h⟩
  | k + 1 => by
    obtain ⟨ih0, ih1, ih2⟩ := graftwoodlaw05_NodeTells.mono_l k
    refine ⟨?_, ?_, ?_⟩
    · intro y0 y1 y2 y3 y4 y5 y6 y7
      unfold graftwoodlaw05_NodeTells.j0
      repeat' first
      | (with_reducible exact ih0 _ _ _ _ _ _ _ _)
      | (with_reducible exact ih1 _ _ _ _ _ _ _)
      | (with_reducible exact ih2 _ _ _ _ _ _ _)
      | (with_reducible exact graftwoodlaw05_awake.mono _)
      | (with_reducible exact graftwoodref05_Less.mono _ _ _ _ _)
      | (with_reducible exact graftwoodref05_May.mono _ _ _)
      | (with_reducible exact node_Cmp.mono _ _ _ _ _)
      | (with_reducible exact node_May.mono _ _ _)
      | (with_reducible exact node_Read.mono _ _)
      | (with_reducible exact LeO.refl _)
      | (with_reducible exact LeO.none _)
      | (with_reducible refine LeO.ite ?_ ?_)
      | (with_reducible refine LeO.bind ?_ (fun _ => ?_))
      | exact ih0 _ _ _ _ _ _ _ _
      | exact ih1 _ _ _ _ _ _ _
      | exact ih2 _ _ _ _ _ _ _
      | exact graftwoodlaw05_awake.mono _
      | exact graftwoodref05_Less.mono _ _ _ _ _
      | exact graftwoodref05_May.mono _ _ _
      | exact node_Cmp.mono _ _ _ _ _
      | exact node_May.mono _ _ _
      | exact node_Read.mono _ _
      | exact LeO.none _
      | refine LeO.ite ?_ ?_
      | refine LeO.bind ?_ (fun _ => ?_)
    · intro y0 y1 y2 y3 y4 y5 y6
      unfold graftwoodlaw05_NodeTells.j1
      repeat' first
      | (with_reducible exact ih0 _ _ _ _ _ _ _ _)
      | (with_reducible exact ih1 _ _ _ _ _ _ _)
      | (with_reducible exact ih2 _ _ _ _ _ _ _)
      | (with_reducible exact graftwoodlaw05_awake.mono _)
      | (with_reducible exact graftwoodref05_Less.mono _ _ _ _ _)
      | (with_reducible exact graftwoodref05_May.mono _ _ _)
      | (with_reducible exact node_Cmp.mono _ _ _ _ _)
      | (with_reducible exact node_May.mono _ _ _)
      | (with_reducible exact node_Read.mono _ _)
      | (with_reducible exact LeO.refl _)
      | (with_reducible exact LeO.none _)
      | (with_reducible refine LeO.ite ?_ ?_)
      | (with_reducible refine LeO.bind ?_ (fun _ => ?_))
      | exact ih0 _ _ _ _ _ _ _ _
      | exact ih1 _ _ _ _ _ _ _
      | exact ih2 _ _ _ _ _ _ _
      | exact graftwoodlaw05_awake.mono _
      | exact graftwoodref05_Less.mono _ _ _ _ _
      | exact graftwoodref05_May.mono _ _ _
      | exact node_Cmp.mono _ _ _ _ _
      | exact node_May.mono _ _ _
      | exact node_Read.mono _ _
      | exact LeO.none _
      | refine LeO.ite ?_ ?_
      | refine LeO.bind ?_ (fun _ => ?_)
    · intro y0 y1 y2 y3 y4 y5 y6
      unfold graftwoodlaw05_NodeTells.j2
      repeat' first
      | (with_reducible exact ih0 _ _ _ _ _ _ _ _)
      | (with_reducible exact ih1 _ _ _ _ _ _ _)
      | (with_reducible exact ih2 _ _ _ _ _ _ _)
      | (with_reducible exact graftwoodlaw05_awake.mono _)
      | (with_reducible exact graftwoodref05_Less.mono _ _ _ _ _)
      | (with_reducible exact graftwoodref05_May.mono _ _ _)
      | (with_reducible exact node_Cmp.mono _ _ _ _ _)
      | (with_reducible exact node_May.mono _ _ _)
      | (with_reducible exact node_Read.mono _ _)
      | (with_reducible exact LeO.refl _)
      | (with_reducible exact LeO.none _)
      | (with_reducible refine LeO.ite ?_ ?_)
      | (with_reducible refine LeO.bind ?_ (fun _ => ?_))
      | exact ih0 _ _ _ _ _ _ _ _
      | exact ih1 _ _ _ _ _ _ _
      | exact ih2 _ _ _ _ _ _ _
      | exact graftwoodlaw05_awake.mono _
      | exact graftwoodref05_Less.mono _ _ _ _ _
      | exact graftwoodref05_May.mono _ _ _
      | exact node_Cmp.mono _ _ _ _ _
      | exact node_May.mono _ _ _
      | exact node_Read.mono _ _
      | exact LeO.none _
      | refine LeO.ite ?_ ?_
      | refine LeO.bind ?_ (fun _ => ?_)
theorem graftwoodlaw05_NodeTells.mono : ∀ a0 a1 a2 a3 a4 k, LeO (graftwoodlaw05_NodeTells.f k a0 a1 a2 a3 a4) (graftwoodlaw05_NodeTells.f (k + 1) a0 a1 a2 a3 a4) := by
  intro a0 a1 a2 a3 a4 k
  obtain ⟨ih0, ih1, ih2⟩ := graftwoodlaw05_NodeTells.mono_l k
  unfold graftwoodlaw05_NodeTells.f
  repeat' first
      | (with_reducible exact ih0 _ _ _ _ _ _ _ _)
      | (with_reducible exact ih1 _ _ _ _ _ _ _)
      | (with_reducible exact ih2 _ _ _ _ _ _ _)
      | (with_reducible exact graftwoodlaw05_awake.mono _)
      | (with_reducible exact graftwoodref05_Less.mono _ _ _ _ _)
      | (with_reducible exact graftwoodref05_May.mono _ _ _)
      | (with_reducible exact node_Cmp.mono _ _ _ _ _)
      | (with_reducible exact node_May.mono _ _ _)
      | (with_reducible exact node_Read.mono _ _)
      | (with_reducible exact LeO.refl _)
      | (with_reducible exact LeO.none _)
      | (with_reducible refine LeO.ite ?_ ?_)
      | (with_reducible refine LeO.bind ?_ (fun _ => ?_))
      | exact ih0 _ _ _ _ _ _ _ _
      | exact ih1 _ _ _ _ _ _ _
      | exact ih2 _ _ _ _ _ _ _
      | exact graftwoodlaw05_awake.mono _
      | exact graftwoodref05_Less.mono _ _ _ _ _
      | exact graftwoodref05_May.mono _ _ _
      | exact node_Cmp.mono _ _ _ _ _
      | exact node_May.mono _ _ _
      | exact node_Read.mono _ _
      | exact LeO.none _
      | refine LeO.ite ?_ ?_
      | refine LeO.bind ?_ (fun _ => ?_)
def graftwoodlaw05_NodeTells.T1 : Bool × List (List Nat × List Nat) := (true, [([], []), ([0], [0]), ([], []), ([2, 1], [2]), ([], []), ([4, 3], [4]), ([1, 5, 0, 1], [1]), ([3, 6, 0, 1, 2, 3, 6], [3]), ([5, 7, 0, 1, 2, 3, 4, 5, 6, 7], [4, 5])])
def graftwoodlaw05_NodeTells.B1 : List Nat := [0, 1, 0, 7, 0, 31, 63, 127, 255]
theorem graftwoodlaw05_NodeTells.tab1 : rtab .any (opsOf Tryd.f5 1) = graftwoodlaw05_NodeTells.T1 := by kernel_rfl
theorem graftwoodlaw05_NodeTells.bits1 : waitsOk graftwoodlaw05_NodeTells.T1.2 graftwoodlaw05_NodeTells.B1 = true := by kernel_rfl
def graftwoodlaw05_NodeTells.T3 : Bool × List (List Nat × List Nat) := (true, [([], []), ([0], [0]), ([], []), ([2, 1], [2]), ([1, 3], [1, 3]), ([4, 3], [4]), ([5], [5]), ([6, 5, 5], [5, 6]), ([5], [5]), ([8, 5], [5, 8]), ([9, 5], [5, 9]), ([5], [5]), ([11, 5], [5, 11]), ([10, 12, 5], [5, 10, 12]), ([7, 13, 5], [5, 7, 13]), ([5, 14], [5, 14])])
def graftwoodlaw05_NodeTells.B3 : List Nat := [0, 1, 0, 7, 15, 31, 63, 127, 63, 319, 831, 63, 2111, 7999, 16383, 32767]
theorem graftwoodlaw05_NodeTells.tab3 : rtab .any (opsOf Tryd.f5 3) = graftwoodlaw05_NodeTells.T3 := by kernel_rfl
theorem graftwoodlaw05_NodeTells.bits3 : waitsOk graftwoodlaw05_NodeTells.T3.2 graftwoodlaw05_NodeTells.B3 = true := by kernel_rfl
set_option maxHeartbeats 8000000 in
set_option maxRecDepth 100000 in
theorem graftwoodlaw05_NodeTells.calls (k : Nat) (a0_0 : ByteArray) (a0_1 : ByteArray) (a1_0 : ByteArray) (a1_1 : ByteArray) (a2 : ByteArray) (r : Bool) (w : World) (h : graftwoodlaw05_NodeTells.f k a0_0 a0_1 a1_0 a1_1 a2 = some r) :
    Calls Tryd.prog 5 #[.agg #[.string a0_0, .string a0_1], .agg #[.string a1_0, .string a1_1], .string a2] w fun e w' => e = .returned (.bool r) ∧ Below w.heap.size w w' := by
  have hu23 := Tryd.underlying23
  have HB := Aside0.mk (Below.refl w.heap.size w)
  have H : ((graftwoodlaw05_One.f a0_0 a0_1).bind fun bt273 => ((graftwoodlaw05_One.f a1_0 a1_1).bind fun bt275 => ((graftwoodlaw01_Few.f a2).bind fun t277 => ((node_Cmp.f k bt273.1 bt273.2 bt275.1 bt275.2).bind fun bt278 => ((node_May.f k bt273.1 bt273.2).bind fun t280 => ((graftwoodref05_May.f k bt273.1 bt273.2).bind fun t281 => (if (t280 != t281) = true then (graftwoodlaw05_NodeTells.j0 k t277 bt278.1 bt278.2 true bt273.1 bt273.2 bt275.1 bt275.2) else ((node_Text.f bt273.1 bt273.2).bind fun t282 => (if bt273.1.size + 1 ≤ 9223372036854775807 then (if (bt273.1 ++ (⟨#[64]⟩ : ByteArray)).size + bt273.2.size ≤ 9223372036854775807 then (graftwoodlaw05_NodeTells.j0 k t277 bt278.1 bt278.2 (t282.toList != ((bt273.1 ++ (⟨#[64]⟩ : ByteArray)) ++ bt273.2).toList) bt273.1 bt273.2 bt275.1 bt275.2) else (none)) else (none)))))))))) = some r := h
  clear h
  replace H := Option.bind_eq_some_iff.mp H
  obtain ⟨⟨t273, t274⟩, A40, H⟩ := H
  replace H : ((graftwoodlaw05_One.f a1_0 a1_1).bind fun bt275 => ((graftwoodlaw01_Few.f a2).bind fun t277 => ((node_Cmp.f k t273 t274 bt275.1 bt275.2).bind fun bt278 => ((node_May.f k t273 t274).bind fun t280 => ((graftwoodref05_May.f k t273 t274).bind fun t281 => (if (t280 != t281) = true then (graftwoodlaw05_NodeTells.j0 k t277 bt278.1 bt278.2 true t273 t274 bt275.1 bt275.2) else ((node_Text.f t273 t274).bind fun t282 => (if t273.size + 1 ≤ 9223372036854775807 then (if (t273 ++ (⟨#[64]⟩ : ByteArray)).size + t274.size ≤ 9223372036854775807 then (graftwoodlaw05_NodeTells.j0 k t277 bt278.1 bt278.2 (t282.toList != ((t273 ++ (⟨#[64]⟩ : ByteArray)) ++ t274).toList) t273 t274 bt275.1 bt275.2) else (none)) else (none))))))))) = some r := H
  have A4 := Aside0.mk A40
  clear A40
  replace H := Option.bind_eq_some_iff.mp H
  obtain ⟨⟨t275, t276⟩, A50, H⟩ := H
  replace H : ((graftwoodlaw01_Few.f a2).bind fun t277 => ((node_Cmp.f k t273 t274 t275 t276).bind fun bt278 => ((node_May.f k t273 t274).bind fun t280 => ((graftwoodref05_May.f k t273 t274).bind fun t281 => (if (t280 != t281) = true then (graftwoodlaw05_NodeTells.j0 k t277 bt278.1 bt278.2 true t273 t274 t275 t276) else ((node_Text.f t273 t274).bind fun t282 => (if t273.size + 1 ≤ 9223372036854775807 then (if (t273 ++ (⟨#[64]⟩ : ByteArray)).size + t274.size ≤ 9223372036854775807 then (graftwoodlaw05_NodeTells.j0 k t277 bt278.1 bt278.2 (t282.toList != ((t273 ++ (⟨#[64]⟩ : ByteArray)) ++ t274).toList) t273 t274 t275 t276) else (none)) else (none)))))))) = some r := H
  have A5 := Aside0.mk A50
  clear A50
  replace H := Option.bind_eq_some_iff.mp H
  obtain ⟨t277, A60, H⟩ := H
  replace H : ((node_Cmp.f k t273 t274 t275 t276).bind fun bt278 => ((node_May.f k t273 t274).bind fun t280 => ((graftwoodref05_May.f k t273 t274).bind fun t281 => (if (t280 != t281) = true then (graftwoodlaw05_NodeTells.j0 k t277 bt278.1 bt278.2 true t273 t274 t275 t276) else ((node_Text.f t273 t274).bind fun t282 => (if t273.size + 1 ≤ 9223372036854775807 then (if (t273 ++ (⟨#[64]⟩ : ByteArray)).size + t274.size ≤ 9223372036854775807 then (graftwoodlaw05_NodeTells.j0 k t277 bt278.1 bt278.2 (t282.toList != ((t273 ++ (⟨#[64]⟩ : ByteArray)) ++ t274).toList) t273 t274 t275 t276) else (none)) else (none))))))) = some r := H
  have A6 := Aside0.mk A60
  clear A60
  replace H := Option.bind_eq_some_iff.mp H
  obtain ⟨⟨t278, t279⟩, A70, H⟩ := H
  replace H : ((node_May.f k t273 t274).bind fun t280 => ((graftwoodref05_May.f k t273 t274).bind fun t281 => (if (t280 != t281) = true then (graftwoodlaw05_NodeTells.j0 k t277 t278 t279 true t273 t274 t275 t276) else ((node_Text.f t273 t274).bind fun t282 => (if t273.size + 1 ≤ 9223372036854775807 then (if (t273 ++ (⟨#[64]⟩ : ByteArray)).size + t274.size ≤ 9223372036854775807 then (graftwoodlaw05_NodeTells.j0 k t277 t278 t279 (t282.toList != ((t273 ++ (⟨#[64]⟩ : ByteArray)) ++ t274).toList) t273 t274 t275 t276) else (none)) else (none)))))) = some r := H
  have A7 := Aside0.mk A70
  clear A70
  have HC8 := Aside0.mk H
  clear H
  go_enter Tryd.func5, Tryd.ntmps5
  try go_wp2_with (first | ((with_reducible refine gate_dst (N := 3) rfl ?_); refine box_event ?hg (N := 3) ?hd (cs := #[.string a0_0, .string a0_1]) (t := 23) ?hr ?_; (case hd => rfl); (case hg => rfl); (case hr => first | (go_simp; done) | (go_simp; rfl)); intro gb271 hg w9 hbox hb; have n0_ := Aside0.mk (below_step (by repeat (first | (with_reducible first | exact HB.out | apply below_alloc | apply pw_below_drewN | apply below_drew1) | exact HB.out)) hb); have n1_ := Aside0.mk (hbox); have n2_ := Aside0.mk ((by rw [hg]; exact (below_size (by repeat (first | (with_reducible first | exact HB.out | apply below_alloc | apply pw_below_drewN | apply below_drew1) | exact HB.out))) : w.heap.size ≤ gb271)); have n3_ := Aside0.mk ((by rw [hg]; exact (below_size (by repeat (first | (with_reducible first | exact HB.out | apply below_alloc | apply pw_below_drewN | apply below_drew1) | exact HB.out))) : w.heap.size ≤ gb271)); clear HB; have HB := n0_; have BK271 := n1_; have GW271 := n2_; have GE271 := n3_; clear n0_ n1_ n2_ n3_; clear hb hbox hg) | ((with_reducible refine gate_dst (N := 4) rfl ?_); refine box_event ?hg (N := 4) ?hd (cs := #[.string a1_0, .string a1_1]) (t := 23) ?hr ?_; (case hd => rfl); (case hg => rfl); (case hr => first | (go_simp; done) | (go_simp; rfl)); intro gb272 hg w10 hbox hb; have n0_ := Aside0.mk (blk_below (g := gb271) (o := .cells #[.string a0_0, .string a0_1] 23 (0, 0)) (by (with_reducible repeat (first | refine blk_drewN ?_ _ | refine blk_drew ?_ | refine blk_alloc ?_ _)); exact BK271.out) hb); have n1_ := Aside0.mk (below_step (by repeat (first | (with_reducible first | exact HB.out | apply below_alloc | apply pw_below_drewN | apply below_drew1 | refine below_set ?_ GE271.out) | exact HB.out)) hb); have n2_ := Aside0.mk (hbox); have n3_ := Aside0.mk ((by rw [hg]; exact (below_size (by repeat (first | (with_reducible first | exact HB.out | apply below_alloc | apply pw_below_drewN | apply below_drew1 | refine below_set ?_ GE271.out) | exact HB.out))) : w.heap.size ≤ gb272)); have n4_ := Aside0.mk ((by rw [hg]; exact (below_size (by repeat (first | (with_reducible first | exact HB.out | apply below_alloc | apply pw_below_drewN | apply below_drew1 | refine below_set ?_ GE271.out) | exact HB.out))) : w.heap.size ≤ gb272)); have n5_ := Aside0.mk ((by rw [hg]; exact Nat.ne_of_lt (blk_lt (g := gb271) (o := .cells #[.string a0_0, .string a0_1] 23 (0, 0)) (by (with_reducible repeat (first | refine blk_drewN ?_ _ | refine blk_drew ?_ | refine blk_alloc ?_ _)); exact BK271.out)) : gb271 ≠ gb272)); have n6_ := Aside0.mk ((by rw [hg]; exact Nat.ne_of_gt (blk_lt (g := gb271) (o := .cells #[.string a0_0, .string a0_1] 23 (0, 0)) (by (with_reducible repeat (first | refine blk_drewN ?_ _ | refine blk_drew ?_ | refine blk_alloc ?_ _)); exact BK271.out)) : gb272 ≠ gb271)); clear BK271; clear HB; have BK271 := n0_; have HB := n1_; have BK272 := n2_; have GW272 := n3_; have GE272 := n4_; have NB271_272 := n5_; have NB272_271 := n6_; clear n0_ n1_ n2_ n3_ n4_ n5_ n6_; clear hb hbox hg))
  have n0_ := Aside0.mk (blk_drew BK271.out)
  have n1_ := Aside0.mk (blk_drew BK272.out)
  have n2_ := Aside0.mk (below_drew1 HB.out)
  clear BK271
  clear BK272
  clear HB
  have BK271 := n0_
  have BK272 := n1_
  have HB := n2_
  clear n0_ n1_ n2_
  refine start_ (n := 9) (S := fun w' => w'.cell? ⟨gb271, 0, none⟩ = some (.string a0_0) ∧ w'.cell? ⟨gb271, 1, none⟩ = some (.string a0_1) ∧ w'.cell? ⟨gb272, 0, none⟩ = some (.string a1_0) ∧ w'.cell? ⟨gb272, 1, none⟩ = some (.string a1_1)) (ds := [6, 7]) #[false, false, false, false, false, false, false, false, false] (by kernel_rfl) rfl rfl ⟨(blk_cell BK271.out 0).trans rfl, (blk_cell BK271.out 1).trans rfl, (blk_cell BK272.out 0).trans rfl, (blk_cell BK272.out 1).trans rfl⟩ (fun hHeld => ?_); refine with_tabW graftwoodlaw05_NodeTells.tab1 graftwoodlaw05_NodeTells.bits1 (fun HT_ HW_ => ?_)
  generalize w10.drew = w11 at BK271 BK272 HB hHeld ⊢
  refine pure_ (i := 4) (N := some 15) (v := ?_) (a' := ?_) #[false, false, false, false, true, false, false, false, false] rfl rfl (any_of HT_.out (by kernel_rfl)) (fun _ _ _ h => h) (Or.inl ⟨by rfl, ?_⟩) ?_ ?_
  rotate_left
  · intro w'
    go_simp
    with_reducible rfl
  rotate_left
  · simp only [Act.put, List.setIfInBounds_toArray, List.set_cons_zero, List.set_cons_succ, i64_w, i32_w]
    rfl
  refine take_ (i := 0) (N := some 11) (v := ?_) (a' := ?_) #[true, false, false, false, true, false, false, false, false] rfl rfl (take_ofW HT_.out HW_.out (by kernel_rfl)) (fun _ _ _ h => h) (Or.inl ⟨by rfl, ?_⟩) hHeld ?_ ?_
  rotate_left
  · rintro w' ⟨s0, s1, s2, s3⟩
    go_simp
    with_reducible rfl
  rotate_left
  · simp only [Act.put, List.setIfInBounds_toArray, List.set_cons_zero, List.set_cons_succ, i64_w, i32_w]
    rfl
  refine take_ (i := 2) (N := some 13) (v := ?_) (a' := ?_) #[true, false, true, false, true, false, false, false, false] rfl rfl (take_ofW HT_.out HW_.out (by kernel_rfl)) (fun _ _ _ h => h) (Or.inl ⟨by rfl, ?_⟩) hHeld ?_ ?_
  rotate_left
  · rintro w' ⟨s0, s1, s2, s3⟩
    go_simp
    with_reducible rfl
  rotate_left
  · simp only [Act.put, List.setIfInBounds_toArray, List.set_cons_zero, List.set_cons_succ, i64_w, i32_w]
    rfl
  refine one_ (i := 1) (N := some 12) #[true, true, true, false, true, false, false, false, false] rfl rfl (one_of HT_.out (by kernel_rfl)) (by decide) (fun K hK => ?_)
  refine goes_ Tryd.func8 (by kernel_rfl) rfl #[.agg #[.string a0_0, .string a0_1]] (by rfl) rfl rfl (by (try simp only [List.map_toArray, List.map_cons, List.map_nil]); first | done | rfl | (simp only [List.length_drop, List.length_take]; rfl)) ?_
  with_reducible refine (graftwoodlaw05_One.calls a0_0 a0_1 t273 t274 _ A4.out).mono ?_
  rintro e w12 ⟨rfl, hb⟩
  refine ⟨_, rfl, ?_⟩
  have n0_ := Aside0.mk (blk_below (g := gb271) (o := .cells #[.string a0_0, .string a0_1] 23 (0, 0)) (by (with_reducible repeat (first | refine blk_drewN ?_ _ | refine blk_drew ?_ | refine blk_alloc ?_ _)); exact BK271.out) hb)
  have n1_ := Aside0.mk (blk_below (g := gb272) (o := .cells #[.string a1_0, .string a1_1] 23 (0, 0)) (by (with_reducible repeat (first | refine blk_drewN ?_ _ | refine blk_drew ?_ | refine blk_alloc ?_ _)); exact BK272.out) hb)
  have n2_ := Aside0.mk (below_step (by repeat (first | (with_reducible first | exact HB.out | apply below_alloc | apply pw_below_drewN | apply below_drew1 | refine below_set ?_ GE271.out | refine below_set ?_ GE272.out) | exact HB.out)) hb)
  clear BK271
  clear BK272
  clear HB
  have BK271 := n0_
  have BK272 := n1_
  have HB := n2_
  clear n0_ n1_ n2_
  (try clear hb)
  (try clear hb2)
  (try clear hk)
  (try clear hi)
  refine hK.out _ _ ⟨(blk_cell BK271.out 0).trans rfl, (blk_cell BK271.out 1).trans rfl, (blk_cell BK272.out 0).trans rfl, (blk_cell BK272.out 1).trans rfl⟩ (fun hHeld => ?_)
  clear hK K
  refine norm_ (a' := ?_) ?_ ?_
  rotate_left
  · show Act.put _ (some 12) _ = _
    simp only [Act.put, List.setIfInBounds_toArray, List.set_cons_zero, List.set_cons_succ, i64_w, i32_w]
    rfl
  refine one_ (i := 3) (N := some 14) #[true, true, true, true, true, false, false, false, false] rfl rfl (one_of HT_.out (by kernel_rfl)) (by decide) (fun K hK => ?_)
  refine goes_ Tryd.func8 (by kernel_rfl) rfl #[.agg #[.string a1_0, .string a1_1]] (by rfl) rfl rfl (by (try simp only [List.map_toArray, List.map_cons, List.map_nil]); first | done | rfl | (simp only [List.length_drop, List.length_take]; rfl)) ?_
  with_reducible refine (graftwoodlaw05_One.calls a1_0 a1_1 t275 t276 _ A5.out).mono ?_
  rintro e w13 ⟨rfl, hb⟩
  refine ⟨_, rfl, ?_⟩
  have n0_ := Aside0.mk (blk_below (g := gb271) (o := .cells #[.string a0_0, .string a0_1] 23 (0, 0)) (by (with_reducible repeat (first | refine blk_drewN ?_ _ | refine blk_drew ?_ | refine blk_alloc ?_ _)); exact BK271.out) hb)
  have n1_ := Aside0.mk (blk_below (g := gb272) (o := .cells #[.string a1_0, .string a1_1] 23 (0, 0)) (by (with_reducible repeat (first | refine blk_drewN ?_ _ | refine blk_drew ?_ | refine blk_alloc ?_ _)); exact BK272.out) hb)
  have n2_ := Aside0.mk (below_step (by repeat (first | (with_reducible first | exact HB.out | apply below_alloc | apply pw_below_drewN | apply below_drew1 | refine below_set ?_ GE271.out | refine below_set ?_ GE272.out) | exact HB.out)) hb)
  clear BK271
  clear BK272
  clear HB
  have BK271 := n0_
  have BK272 := n1_
  have HB := n2_
  clear n0_ n1_ n2_
  (try clear hb)
  (try clear hb2)
  (try clear hk)
  (try clear hi)
  refine hK.out _ _ ⟨(blk_cell BK271.out 0).trans rfl, (blk_cell BK271.out 1).trans rfl, (blk_cell BK272.out 0).trans rfl, (blk_cell BK272.out 1).trans rfl⟩ (fun hHeld => ?_)
  clear hK K
  refine norm_ (a' := ?_) ?_ ?_
  rotate_left
  · show Act.put _ (some 14) _ = _
    simp only [Act.put, List.setIfInBounds_toArray, List.set_cons_zero, List.set_cons_succ, i64_w, i32_w]
    rfl
  refine one_ (i := 5) (N := some 16) #[true, true, true, true, true, true, false, false, false] rfl rfl (one_of HT_.out (by kernel_rfl)) (by decide) (fun K hK => ?_)
  refine goes_ Tryd.func12 (by kernel_rfl) rfl #[.string a2] (by rfl) rfl rfl (by (try simp only [List.map_toArray, List.map_cons, List.map_nil]); first | done | rfl | (simp only [List.length_drop, List.length_take]; rfl)) ?_
  with_reducible refine (graftwoodlaw01_Few.calls a2 t277 _ A6.out).mono ?_
  rintro e w' ⟨rfl, ⟨nd, rfl⟩⟩
  refine ⟨_, rfl, ?_⟩
  refine hK.out _ _ ⟨(blk_cell BK271.out 0).trans rfl, (blk_cell BK271.out 1).trans rfl, (blk_cell BK272.out 0).trans rfl, (blk_cell BK272.out 1).trans rfl⟩ (fun hHeld => ?_)
  clear hK K
  refine norm_ (a' := ?_) ?_ ?_
  rotate_left
  · show Act.put _ (some 16) _ = _
    simp only [Act.put, List.setIfInBounds_toArray, List.set_cons_zero, List.set_cons_succ, i64_w, i32_w]
    rfl
  refine last_ (i := 6) (N := none) #[true, true, true, true, true, true, true, false, false] rfl rfl (one_of HT_.out (by kernel_rfl)) (by decide) (fun K hK => ?_)
  have hs14 : w13.cell? ⟨gb271, 0, none⟩ = some (.string a0_0) := (blk_cell BK271.out 0).trans rfl
  have hfs14 := blk_frozen BK271.out 0
  have hns14_1 := NB272_271.out
  have hms14_1 := NB271_272.out
  have hs15 : w13.cell? ⟨gb271, 1, none⟩ = some (.string a0_1) := (blk_cell BK271.out 1).trans rfl
  have hfs15 := blk_frozen BK271.out 1
  have hns15_1 := NB272_271.out
  have hms15_1 := NB271_272.out
  refine skip_ (w1 := ?_) (by rfl) rfl ?_ ?_
  rotate_left
  · go_simp
    rfl
  refine hK.out _ _ ?_
  clear hK K
  refine last_ (i := 7) (N := none) #[true, true, true, true, true, true, true, true, false] rfl rfl (one_of HT_.out (by kernel_rfl)) (by decide) (fun K hK => ?_)
  have hs16 : w13.cell? ⟨gb272, 0, none⟩ = some (.string a1_0) := (blk_cell BK272.out 0).trans rfl
  have hfs16 := blk_frozen BK272.out 0
  have hns16_0 := NB271_272.out
  have hms16_0 := NB272_271.out
  have hs17 : w13.cell? ⟨gb272, 1, none⟩ = some (.string a1_1) := (blk_cell BK272.out 1).trans rfl
  have hfs17 := blk_frozen BK272.out 1
  have hns17_0 := NB271_272.out
  have hms17_0 := NB272_271.out
  refine skip_ (w1 := ?_) (by rfl) rfl ?_ ?_
  rotate_left
  · go_simp
    rfl
  refine hK.out _ _ ?_
  clear hK K
  refine pure_ (i := 8) (N := some 2) (v := ?_) (a' := ?_) #[true, true, true, true, true, true, true, true, true] rfl rfl (any_of HT_.out (by kernel_rfl)) (fun _ _ _ h => h) (Or.inl ⟨by rfl, ?_⟩) ?_ ?_
  rotate_left
  · intro w'
    go_simp
    with_reducible rfl
  rotate_left
  · simp only [Act.put, List.setIfInBounds_toArray, List.set_cons_zero, List.set_cons_succ, i64_w, i32_w]
    rfl
  refine done_ (done_of HT_.out (by kernel_rfl)) ?_
  have hnb18 := NB271_272.out
  have hnc18 := NB272_271.out
  have hcz19_0 : w13.cell? ⟨gb271, 0, none⟩ = some (.string a0_0) := (blk_cell BK271.out 0).trans rfl
  have hcz19_1 : w13.cell? ⟨gb271, 1, none⟩ = some (.string a0_1) := (blk_cell BK271.out 1).trans rfl
  have hfz19_0 := blk_frozen BK271.out 0
  have hfz19_1 := blk_frozen BK271.out 1
  have hcz20_0 : w13.cell? ⟨gb272, 0, none⟩ = some (.string a1_0) := (blk_cell BK272.out 0).trans rfl
  have hcz20_1 : w13.cell? ⟨gb272, 1, none⟩ = some (.string a1_1) := (blk_cell BK272.out 1).trans rfl
  have hfz20_0 := blk_frozen BK272.out 0
  have hfz20_1 := blk_frozen BK272.out 1
  go_upto_region 3 with (first | ((with_reducible refine gate_callee (f := 9) rfl ?_); refine goesL_ (some 20) rfl rfl Tryd.func9 (by kernel_rfl) rfl #[.agg #[.string t273, .string t274], .agg #[.string t275, .string t276]] rfl (by (try simp only [List.map_toArray, List.map_cons, List.map_nil]); first | done | rfl | (simp only [List.length_drop, List.length_take]; rfl)) ?_; (with_reducible refine (node_Cmp.calls k t273 t274 t275 t276 t278 t279 _ A7.out).mono ?_); rintro e w21 ⟨rfl, hb⟩; refine ⟨_, rfl, ?_⟩; have n0_ := Aside0.mk (blk_below (g := gb271) (o := .cells #[.string t273, .string t274] 23 (0, 0)) (by (with_reducible repeat (first | refine blk_drewN ?_ _ | refine blk_drew ?_ | refine blk_alloc ?_ _)); refine blk_far ?_ NB271_272.out _; (with_reducible repeat (first | refine blk_drewN ?_ _ | refine blk_drew ?_ | refine blk_alloc ?_ _)); refine blk_far ?_ NB271_272.out _; (with_reducible repeat (first | refine blk_drewN ?_ _ | refine blk_drew ?_ | refine blk_alloc ?_ _)); refine blk_put (cs := #[.string t273, .string a0_1]) ?_ 1 _ rfl; (with_reducible repeat (first | refine blk_drewN ?_ _ | refine blk_drew ?_ | refine blk_alloc ?_ _)); refine blk_put (cs := #[.string a0_0, .string a0_1]) ?_ 0 _ rfl; (with_reducible repeat (first | refine blk_drewN ?_ _ | refine blk_drew ?_ | refine blk_alloc ?_ _)); exact BK271.out) hb); have n1_ := Aside0.mk (blk_below (g := gb272) (o := .cells #[.string t275, .string t276] 23 (0, 0)) (by (with_reducible repeat (first | refine blk_drewN ?_ _ | refine blk_drew ?_ | refine blk_alloc ?_ _)); refine blk_put (cs := #[.string t275, .string a1_1]) ?_ 1 _ rfl; (with_reducible repeat (first | refine blk_drewN ?_ _ | refine blk_drew ?_ | refine blk_alloc ?_ _)); refine blk_put (cs := #[.string a1_0, .string a1_1]) ?_ 0 _ rfl; (with_reducible repeat (first | refine blk_drewN ?_ _ | refine blk_drew ?_ | refine blk_alloc ?_ _)); refine blk_far ?_ NB272_271.out _; (with_reducible repeat (first | refine blk_drewN ?_ _ | refine blk_drew ?_ | refine blk_alloc ?_ _)); refine blk_far ?_ NB272_271.out _; (with_reducible repeat (first | refine blk_drewN ?_ _ | refine blk_drew ?_ | refine blk_alloc ?_ _)); exact BK272.out) hb); have n2_ := Aside0.mk (below_step (by repeat (first | (with_reducible first | exact HB.out | apply below_alloc | apply pw_below_drewN | apply below_drew1 | refine below_set ?_ GE271.out | refine below_set ?_ GE272.out) | exact HB.out)) hb); clear BK271; clear BK272; clear HB; have BK271 := n0_; have BK272 := n1_; have HB := n2_; clear n0_ n1_ n2_; (try clear hb); (try clear hb2); (try clear hk); (try clear hi)))
  (try simp only [Act.put, List.setIfInBounds_toArray, List.set_cons_zero, List.set_cons_succ])
  go_cut [38] (fun v38 wc => ∃ (kq : Nat) (x38_7 : Bool), v38 = .bool x38_7 ∧ Aside0 (graftwoodlaw05_NodeTells.j0 kq t277 t278 t279 x38_7 t273 t274 t275 t276 = some r) ∧ Aside0 (kq ≤ k) ∧ Aside0 (wc.heap[gb271]? = some (.cells #[.string t273, .string t274] 23 (0, 0))) ∧ Aside0 (wc.heap[gb272]? = some (.cells #[.string t275, .string t276] 23 (0, 0))) ∧ Aside0 (Below w.heap.size w wc))
  case first =>
    have H := HC8.out
    clear HC8
    replace H := Option.bind_eq_some_iff.mp H
    obtain ⟨t280, A220, H⟩ := H
    replace H : ((graftwoodref05_May.f k t273 t274).bind fun t281 => (if (t280 != t281) = true then (graftwoodlaw05_NodeTells.j0 k t277 t278 t279 true t273 t274 t275 t276) else ((node_Text.f t273 t274).bind fun t282 => (if t273.size + 1 ≤ 9223372036854775807 then (if (t273 ++ (⟨#[64]⟩ : ByteArray)).size + t274.size ≤ 9223372036854775807 then (graftwoodlaw05_NodeTells.j0 k t277 t278 t279 (t282.toList != ((t273 ++ (⟨#[64]⟩ : ByteArray)) ++ t274).toList) t273 t274 t275 t276) else (none)) else (none))))) = some r := H
    have A22 := Aside0.mk A220
    clear A220
    replace H := Option.bind_eq_some_iff.mp H
    obtain ⟨t281, A230, H⟩ := H
    replace H : (if (t280 != t281) = true then (graftwoodlaw05_NodeTells.j0 k t277 t278 t279 true t273 t274 t275 t276) else ((node_Text.f t273 t274).bind fun t282 => (if t273.size + 1 ≤ 9223372036854775807 then (if (t273 ++ (⟨#[64]⟩ : ByteArray)).size + t274.size ≤ 9223372036854775807 then (graftwoodlaw05_NodeTells.j0 k t277 t278 t279 (t282.toList != ((t273 ++ (⟨#[64]⟩ : ByteArray)) ++ t274).toList) t273 t274 t275 t276) else (none)) else (none)))) = some r := H
    have A23 := Aside0.mk A230
    clear A230
    by_cases c24 : (t280 != t281) = true
    · rw [if_pos c24] at H
      have c24b0 : (t280 != t281) = true := c24
      (try (have c24b1 : decide (t280 = t281) = false := by simpa using c24))
      (try (have c24b2 : (t280 == t281) = false := by simpa using c24))
      (try (have c24b3 : ¬ (t280 = t281) := by simpa using c24))
      clear c24
      (first | rw [c24b0] | (simp only [i64_w, i32_w]; rw [c24b0]) | skip)
      have H' := Aside0.mk H
      clear H
      try go_wp2
      have n0_ := Aside0.mk (blk_drew BK271.out)
      have n1_ := Aside0.mk (blk_drew BK272.out)
      have n2_ := Aside0.mk (below_drew1 HB.out)
      clear BK271
      clear BK272
      clear HB
      have BK271 := n0_
      have BK272 := n1_
      have HB := n2_
      clear n0_ n1_ n2_
      refine start_ (n := 16) (S := fun w' => w'.cell? ⟨gb271, 0, none⟩ = some (.string t273) ∧ w'.cell? ⟨gb271, 1, none⟩ = some (.string t274)) (ds := []) #[false, false, false, false, false, false, false, false, false, false, false, false, false, false, false, false] (by kernel_rfl) rfl rfl ⟨(blk_cell BK271.out 0).trans rfl, (blk_cell BK271.out 1).trans rfl⟩ (fun hHeld => ?_); refine with_tabW graftwoodlaw05_NodeTells.tab3 graftwoodlaw05_NodeTells.bits3 (fun HT_ HW_ => ?_)
      generalize w21.drew = w25 at BK271 BK272 HB hHeld ⊢
      refine take_ (i := 0) (N := some 23) (v := ?_) (a' := ?_) #[true, false, false, false, false, false, false, false, false, false, false, false, false, false, false, false] rfl rfl (take_ofW HT_.out HW_.out (by kernel_rfl)) (fun _ _ _ h => h) (Or.inl ⟨by rfl, ?_⟩) hHeld ?_ ?_
      rotate_left
      · rintro w' ⟨s0, s1⟩
        go_simp
        with_reducible rfl
      rotate_left
      · simp only [Act.put, List.setIfInBounds_toArray, List.set_cons_zero, List.set_cons_succ, i64_w, i32_w]
        rfl
      refine take_ (i := 2) (N := some 25) (v := ?_) (a' := ?_) #[true, false, true, false, false, false, false, false, false, false, false, false, false, false, false, false] rfl rfl (take_ofW HT_.out HW_.out (by kernel_rfl)) (fun _ _ _ h => h) (Or.inl ⟨by rfl, ?_⟩) hHeld ?_ ?_
      rotate_left
      · rintro w' ⟨s0, s1⟩
        go_simp
        with_reducible rfl
      rotate_left
      · simp only [Act.put, List.setIfInBounds_toArray, List.set_cons_zero, List.set_cons_succ, i64_w, i32_w]
        rfl
      refine one_ (i := 1) (N := some 24) #[true, true, true, false, false, false, false, false, false, false, false, false, false, false, false, false] rfl rfl (one_of HT_.out (by kernel_rfl)) (by decide) (fun K hK => ?_)
      refine goes_ Tryd.func10 (by kernel_rfl) rfl #[.agg #[.string t273, .string t274]] (by rfl) rfl rfl (by (try simp only [List.map_toArray, List.map_cons, List.map_nil]); first | done | rfl | (simp only [List.length_drop, List.length_take]; rfl)) ?_
      with_reducible refine (node_May.calls k t273 t274 t280 _ A22.out).mono ?_
      rintro e w26 ⟨rfl, hb⟩
      refine ⟨_, rfl, ?_⟩
      have n0_ := Aside0.mk (blk_below (g := gb271) (o := .cells #[.string t273, .string t274] 23 (0, 0)) (by (with_reducible repeat (first | refine blk_drewN ?_ _ | refine blk_drew ?_ | refine blk_alloc ?_ _)); exact BK271.out) hb)
      have n1_ := Aside0.mk (blk_below (g := gb272) (o := .cells #[.string t275, .string t276] 23 (0, 0)) (by (with_reducible repeat (first | refine blk_drewN ?_ _ | refine blk_drew ?_ | refine blk_alloc ?_ _)); exact BK272.out) hb)
      have n2_ := Aside0.mk (below_step (by repeat (first | (with_reducible first | exact HB.out | apply below_alloc | apply pw_below_drewN | apply below_drew1 | refine below_set ?_ GE271.out | refine below_set ?_ GE272.out) | exact HB.out)) hb)
      clear BK271
      clear BK272
      clear HB
      have BK271 := n0_
      have BK272 := n1_
      have HB := n2_
      clear n0_ n1_ n2_
      (try clear hb)
      (try clear hb2)
      (try clear hk)
      (try clear hi)
      refine hK.out _ _ ⟨(blk_cell BK271.out 0).trans rfl, (blk_cell BK271.out 1).trans rfl⟩ (fun hHeld => ?_)
      clear hK K
      refine norm_ (a' := ?_) ?_ ?_
      rotate_left
      · show Act.put _ (some 24) _ = _
        simp only [Act.put, List.setIfInBounds_toArray, List.set_cons_zero, List.set_cons_succ, i64_w, i32_w]
        rfl
      refine one_ (i := 3) (N := some 26) #[true, true, true, true, false, false, false, false, false, false, false, false, false, false, false, false] rfl rfl (one_of HT_.out (by kernel_rfl)) (by decide) (fun K hK => ?_)
      refine goes_ Tryd.func13 (by kernel_rfl) rfl #[.agg #[.string t273, .string t274]] (by rfl) rfl rfl (by (try simp only [List.map_toArray, List.map_cons, List.map_nil]); first | done | rfl | (simp only [List.length_drop, List.length_take]; rfl)) ?_
      with_reducible refine (graftwoodref05_May.calls k t273 t274 t281 _ A23.out).mono ?_
      rintro e w27 ⟨rfl, hb⟩
      refine ⟨_, rfl, ?_⟩
      have n0_ := Aside0.mk (blk_below (g := gb271) (o := .cells #[.string t273, .string t274] 23 (0, 0)) (by (with_reducible repeat (first | refine blk_drewN ?_ _ | refine blk_drew ?_ | refine blk_alloc ?_ _)); exact BK271.out) hb)
      have n1_ := Aside0.mk (blk_below (g := gb272) (o := .cells #[.string t275, .string t276] 23 (0, 0)) (by (with_reducible repeat (first | refine blk_drewN ?_ _ | refine blk_drew ?_ | refine blk_alloc ?_ _)); exact BK272.out) hb)
      have n2_ := Aside0.mk (below_step (by repeat (first | (with_reducible first | exact HB.out | apply below_alloc | apply pw_below_drewN | apply below_drew1 | refine below_set ?_ GE271.out | refine below_set ?_ GE272.out) | exact HB.out)) hb)
      clear BK271
      clear BK272
      clear HB
      have BK271 := n0_
      have BK272 := n1_
      have HB := n2_
      clear n0_ n1_ n2_
      (try clear hb)
      (try clear hb2)
      (try clear hk)
      (try clear hi)
      refine hK.out _ _ ⟨(blk_cell BK271.out 0).trans rfl, (blk_cell BK271.out 1).trans rfl⟩ (fun hHeld => ?_)
      clear hK K
      refine norm_ (a' := ?_) ?_ ?_
      rotate_left
      · show Act.put _ (some 26) _ = _
        simp only [Act.put, List.setIfInBounds_toArray, List.set_cons_zero, List.set_cons_succ, i64_w, i32_w]
        rfl
      refine pure_ (i := 4) (N := some 27) (v := ?_) (a' := ?_) #[true, true, true, true, true, false, false, false, false, false, false, false, false, false, false, false] rfl rfl (any_of HT_.out (by kernel_rfl)) (fun _ _ _ h => h) (Or.inl ⟨by rfl, ?_⟩) ?_ ?_
      rotate_left
      · intro w'
        go_simp
        with_reducible rfl
      rotate_left
      · simp only [Act.put, List.setIfInBounds_toArray, List.set_cons_zero, List.set_cons_succ, i64_w, i32_w]
        rfl
      refine pure_ (i := 5) (N := some 28) (v := ?_) (a' := ?_) #[true, true, true, true, true, true, false, false, false, false, false, false, false, false, false, false] rfl rfl (any_of HT_.out (by kernel_rfl)) (fun _ _ _ h => h) (Or.inl ⟨by rfl, ?_⟩) ?_ ?_
      rotate_left
      · intro w'
        go_simp
        with_reducible rfl
      rotate_left
      · simp only [Act.put, List.setIfInBounds_toArray, List.set_cons_zero, List.set_cons_succ, i64_w, i32_w]
        rfl
      refine pure_ (i := 6) (N := some 29) (v := undef) (a' := ?_) #[true, true, true, true, true, true, true, false, false, false, false, false, false, false, false, false] rfl rfl (any_of HT_.out (by kernel_rfl)) (fun _ _ _ h => h) (Or.inr ⟨by rfl, rfl⟩) ?_ ?_
      rotate_left
      · simp only [Act.put, List.setIfInBounds_toArray, List.set_cons_zero, List.set_cons_succ, i64_w, i32_w]
        rfl
      refine pure_ (i := 7) (N := some 30) (v := undef) (a' := ?_) #[true, true, true, true, true, true, true, true, false, false, false, false, false, false, false, false] rfl rfl (any_of HT_.out (by kernel_rfl)) (fun _ _ _ h => h) (Or.inr ⟨by rfl, rfl⟩) ?_ ?_
      rotate_left
      · simp only [Act.put, List.setIfInBounds_toArray, List.set_cons_zero, List.set_cons_succ, i64_w, i32_w]
        rfl
      refine pure_ (i := 8) (N := some 31) (v := undef) (a' := ?_) #[true, true, true, true, true, true, true, true, true, false, false, false, false, false, false, false] rfl rfl (any_of HT_.out (by kernel_rfl)) (fun _ _ _ h => h) (Or.inr ⟨by rfl, rfl⟩) ?_ ?_
      rotate_left
      · simp only [Act.put, List.setIfInBounds_toArray, List.set_cons_zero, List.set_cons_succ, i64_w, i32_w]
        rfl
      refine pure_ (i := 9) (N := some 32) (v := undef) (a' := ?_) #[true, true, true, true, true, true, true, true, true, true, false, false, false, false, false, false] rfl rfl (any_of HT_.out (by kernel_rfl)) (fun _ _ _ h => h) (Or.inr ⟨by rfl, rfl⟩) ?_ ?_
      rotate_left
      · simp only [Act.put, List.setIfInBounds_toArray, List.set_cons_zero, List.set_cons_succ, i64_w, i32_w]
        rfl
      refine pure_ (i := 10) (N := some 33) (v := undef) (a' := ?_) #[true, true, true, true, true, true, true, true, true, true, true, false, false, false, false, false] rfl rfl (any_of HT_.out (by kernel_rfl)) (fun _ _ _ h => h) (Or.inr ⟨by rfl, rfl⟩) ?_ ?_
      rotate_left
      · simp only [Act.put, List.setIfInBounds_toArray, List.set_cons_zero, List.set_cons_succ, i64_w, i32_w]
        rfl
      refine pure_ (i := 11) (N := some 34) (v := undef) (a' := ?_) #[true, true, true, true, true, true, true, true, true, true, true, true, false, false, false, false] rfl rfl (any_of HT_.out (by kernel_rfl)) (fun _ _ _ h => h) (Or.inr ⟨by rfl, rfl⟩) ?_ ?_
      rotate_left
      · simp only [Act.put, List.setIfInBounds_toArray, List.set_cons_zero, List.set_cons_succ, i64_w, i32_w]
        rfl
      refine pure_ (i := 12) (N := some 35) (v := undef) (a' := ?_) #[true, true, true, true, true, true, true, true, true, true, true, true, true, false, false, false] rfl rfl (any_of HT_.out (by kernel_rfl)) (fun _ _ _ h => h) (Or.inr ⟨by rfl, rfl⟩) ?_ ?_
      rotate_left
      · simp only [Act.put, List.setIfInBounds_toArray, List.set_cons_zero, List.set_cons_succ, i64_w, i32_w]
        rfl
      refine pure_ (i := 13) (N := some 36) (v := undef) (a' := ?_) #[true, true, true, true, true, true, true, true, true, true, true, true, true, true, false, false] rfl rfl (any_of HT_.out (by kernel_rfl)) (fun _ _ _ h => h) (Or.inr ⟨by rfl, rfl⟩) ?_ ?_
      rotate_left
      · simp only [Act.put, List.setIfInBounds_toArray, List.set_cons_zero, List.set_cons_succ, i64_w, i32_w]
        rfl
      refine pure_ (i := 14) (N := some 37) (v := undef) (a' := ?_) #[true, true, true, true, true, true, true, true, true, true, true, true, true, true, true, false] rfl rfl (any_of HT_.out (by kernel_rfl)) (fun _ _ _ h => h) (Or.inr ⟨by rfl, rfl⟩) ?_ ?_
      rotate_left
      · simp only [Act.put, List.setIfInBounds_toArray, List.set_cons_zero, List.set_cons_succ, i64_w, i32_w]
        rfl
      refine pure_ (i := 15) (N := some 38) (v := ?_) (a' := ?_) #[true, true, true, true, true, true, true, true, true, true, true, true, true, true, true, true] rfl rfl (any_of HT_.out (by kernel_rfl)) (fun _ _ _ h => h) (Or.inl ⟨by rfl, ?_⟩) ?_ ?_
      rotate_left
      · intro w'
        go_simp
        with_reducible rfl
      rotate_left
      · simp only [Act.put, List.setIfInBounds_toArray, List.set_cons_zero, List.set_cons_succ, i64_w, i32_w]
        rfl
      refine done_ (done_of HT_.out (by kernel_rfl)) ?_
      try go_wp2
      go_meet
      case rel => exact ⟨_, (true), (by first | rfl | (simp; done) | (simp [*]; done)), H', ⟨by first | omega | exact Nat.le_refl _⟩, ⟨by (with_reducible repeat (first | refine blk_drewN ?_ _ | refine blk_drew ?_ | refine blk_alloc ?_ _)); exact BK271.out⟩, ⟨by (with_reducible repeat (first | refine blk_drewN ?_ _ | refine blk_drew ?_ | refine blk_alloc ?_ _)); exact BK272.out⟩, ⟨by repeat (first | (with_reducible first | exact HB.out | apply below_alloc | apply pw_below_drewN | apply below_drew1 | refine below_set ?_ GE271.out | refine below_set ?_ GE272.out) | exact HB.out)⟩⟩
    · rw [if_neg c24] at H
      have c24b0 : (t280 != t281) = false := by simpa using c24
      (try (have c24b1 : decide (t280 = t281) = true := by simpa using c24))
      (try (have c24b2 : (t280 == t281) = true := by simpa using c24))
      clear c24
      (first | rw [c24b0] | (simp only [i64_w, i32_w]; rw [c24b0]) | skip)
      replace H := Option.bind_eq_some_iff.mp H
      obtain ⟨t282, A280, H⟩ := H
      replace H : (if t273.size + 1 ≤ 9223372036854775807 then (if (t273 ++ (⟨#[64]⟩ : ByteArray)).size + t274.size ≤ 9223372036854775807 then (graftwoodlaw05_NodeTells.j0 k t277 t278 t279 (t282.toList != ((t273 ++ (⟨#[64]⟩ : ByteArray)) ++ t274).toList) t273 t274 t275 t276) else (none)) else (none)) = some r := H
      have A28 := Aside0.mk A280
      clear A280
      by_cases c29 : t273.size + 1 ≤ 9223372036854775807
      · rw [if_pos c29] at H
        have c29b0 := eq_true c29
        have c29b1 : decide (t273.size + 1 ≤ 9223372036854775807) = true := decide_eq_true c29
        try have c29b2 : (9223372036854775807 < t273.size + 1) = False := eq_false (Nat.not_lt.2 c29)
        by_cases c30 : (t273 ++ (⟨#[64]⟩ : ByteArray)).size + t274.size ≤ 9223372036854775807
        · rw [if_pos c30] at H
          have c30b0 := eq_true c30
          have c30b1 : decide ((t273 ++ (⟨#[64]⟩ : ByteArray)).size + t274.size ≤ 9223372036854775807) = true := decide_eq_true c30
          try have c30b2 : (9223372036854775807 < (t273 ++ (⟨#[64]⟩ : ByteArray)).size + t274.size) = False := eq_false (Nat.not_lt.2 c30)
          have c30b9_ : (9223372036854775807 < t273.size + 1 + t274.size) = False := eq_false (Nat.not_lt.2 (by have h9 := c30; rw [ByteArray.size_append] at h9; exact h9))
          have H' := Aside0.mk H
          clear H
          try go_wp2
          have n0_ := Aside0.mk (blk_drew BK271.out)
          have n1_ := Aside0.mk (blk_drew BK272.out)
          have n2_ := Aside0.mk (below_drew1 HB.out)
          clear BK271
          clear BK272
          clear HB
          have BK271 := n0_
          have BK272 := n1_
          have HB := n2_
          clear n0_ n1_ n2_
          refine start_ (n := 16) (S := fun w' => w'.cell? ⟨gb271, 0, none⟩ = some (.string t273) ∧ w'.cell? ⟨gb271, 1, none⟩ = some (.string t274)) (ds := []) #[false, false, false, false, false, false, false, false, false, false, false, false, false, false, false, false] (by kernel_rfl) rfl rfl ⟨(blk_cell BK271.out 0).trans rfl, (blk_cell BK271.out 1).trans rfl⟩ (fun hHeld => ?_); refine with_tabW graftwoodlaw05_NodeTells.tab3 graftwoodlaw05_NodeTells.bits3 (fun HT_ HW_ => ?_)
          generalize w21.drew = w31 at BK271 BK272 HB hHeld ⊢
          refine take_ (i := 0) (N := some 23) (v := ?_) (a' := ?_) #[true, false, false, false, false, false, false, false, false, false, false, false, false, false, false, false] rfl rfl (take_ofW HT_.out HW_.out (by kernel_rfl)) (fun _ _ _ h => h) (Or.inl ⟨by rfl, ?_⟩) hHeld ?_ ?_
          rotate_left
          · rintro w' ⟨s0, s1⟩
            go_simp
            with_reducible rfl
          rotate_left
          · simp only [Act.put, List.setIfInBounds_toArray, List.set_cons_zero, List.set_cons_succ, i64_w, i32_w]
            rfl
          refine take_ (i := 2) (N := some 25) (v := ?_) (a' := ?_) #[true, false, true, false, false, false, false, false, false, false, false, false, false, false, false, false] rfl rfl (take_ofW HT_.out HW_.out (by kernel_rfl)) (fun _ _ _ h => h) (Or.inl ⟨by rfl, ?_⟩) hHeld ?_ ?_
          rotate_left
          · rintro w' ⟨s0, s1⟩
            go_simp
            with_reducible rfl
          rotate_left
          · simp only [Act.put, List.setIfInBounds_toArray, List.set_cons_zero, List.set_cons_succ, i64_w, i32_w]
            rfl
          refine one_ (i := 1) (N := some 24) #[true, true, true, false, false, false, false, false, false, false, false, false, false, false, false, false] rfl rfl (one_of HT_.out (by kernel_rfl)) (by decide) (fun K hK => ?_)
          refine goes_ Tryd.func10 (by kernel_rfl) rfl #[.agg #[.string t273, .string t274]] (by rfl) rfl rfl (by (try simp only [List.map_toArray, List.map_cons, List.map_nil]); first | done | rfl | (simp only [List.length_drop, List.length_take]; rfl)) ?_
          with_reducible refine (node_May.calls k t273 t274 t280 _ A22.out).mono ?_
          rintro e w32 ⟨rfl, hb⟩
          refine ⟨_, rfl, ?_⟩
          have n0_ := Aside0.mk (blk_below (g := gb271) (o := .cells #[.string t273, .string t274] 23 (0, 0)) (by (with_reducible repeat (first | refine blk_drewN ?_ _ | refine blk_drew ?_ | refine blk_alloc ?_ _)); exact BK271.out) hb)
          have n1_ := Aside0.mk (blk_below (g := gb272) (o := .cells #[.string t275, .string t276] 23 (0, 0)) (by (with_reducible repeat (first | refine blk_drewN ?_ _ | refine blk_drew ?_ | refine blk_alloc ?_ _)); exact BK272.out) hb)
          have n2_ := Aside0.mk (below_step (by repeat (first | (with_reducible first | exact HB.out | apply below_alloc | apply pw_below_drewN | apply below_drew1 | refine below_set ?_ GE271.out | refine below_set ?_ GE272.out) | exact HB.out)) hb)
          clear BK271
          clear BK272
          clear HB
          have BK271 := n0_
          have BK272 := n1_
          have HB := n2_
          clear n0_ n1_ n2_
          (try clear hb)
          (try clear hb2)
          (try clear hk)
          (try clear hi)
          refine hK.out _ _ ⟨(blk_cell BK271.out 0).trans rfl, (blk_cell BK271.out 1).trans rfl⟩ (fun hHeld => ?_)
          clear hK K
          refine norm_ (a' := ?_) ?_ ?_
          rotate_left
          · show Act.put _ (some 24) _ = _
            simp only [Act.put, List.setIfInBounds_toArray, List.set_cons_zero, List.set_cons_succ, i64_w, i32_w]
            rfl
          refine one_ (i := 3) (N := some 26) #[true, true, true, true, false, false, false, false, false, false, false, false, false, false, false, false] rfl rfl (one_of HT_.out (by kernel_rfl)) (by decide) (fun K hK => ?_)
          refine goes_ Tryd.func13 (by kernel_rfl) rfl #[.agg #[.string t273, .string t274]] (by rfl) rfl rfl (by (try simp only [List.map_toArray, List.map_cons, List.map_nil]); first | done | rfl | (simp only [List.length_drop, List.length_take]; rfl)) ?_
          with_reducible refine (graftwoodref05_May.calls k t273 t274 t281 _ A23.out).mono ?_
          rintro e w33 ⟨rfl, hb⟩
          refine ⟨_, rfl, ?_⟩
          have n0_ := Aside0.mk (blk_below (g := gb271) (o := .cells #[.string t273, .string t274] 23 (0, 0)) (by (with_reducible repeat (first | refine blk_drewN ?_ _ | refine blk_drew ?_ | refine blk_alloc ?_ _)); exact BK271.out) hb)
          have n1_ := Aside0.mk (blk_below (g := gb272) (o := .cells #[.string t275, .string t276] 23 (0, 0)) (by (with_reducible repeat (first | refine blk_drewN ?_ _ | refine blk_drew ?_ | refine blk_alloc ?_ _)); exact BK272.out) hb)
          have n2_ := Aside0.mk (below_step (by repeat (first | (with_reducible first | exact HB.out | apply below_alloc | apply pw_below_drewN | apply below_drew1 | refine below_set ?_ GE271.out | refine below_set ?_ GE272.out) | exact HB.out)) hb)
          clear BK271
          clear BK272
          clear HB
          have BK271 := n0_
          have BK272 := n1_
          have HB := n2_
          clear n0_ n1_ n2_
          (try clear hb)
          (try clear hb2)
          (try clear hk)
          (try clear hi)
          refine hK.out _ _ ⟨(blk_cell BK271.out 0).trans rfl, (blk_cell BK271.out 1).trans rfl⟩ (fun hHeld => ?_)
          clear hK K
          refine norm_ (a' := ?_) ?_ ?_
          rotate_left
          · show Act.put _ (some 26) _ = _
            simp only [Act.put, List.setIfInBounds_toArray, List.set_cons_zero, List.set_cons_succ, i64_w, i32_w]
            rfl
          refine pure_ (i := 4) (N := some 27) (v := ?_) (a' := ?_) #[true, true, true, true, true, false, false, false, false, false, false, false, false, false, false, false] rfl rfl (any_of HT_.out (by kernel_rfl)) (fun _ _ _ h => h) (Or.inl ⟨by rfl, ?_⟩) ?_ ?_
          rotate_left
          · intro w'
            go_simp
            with_reducible rfl
          rotate_left
          · simp only [Act.put, List.setIfInBounds_toArray, List.set_cons_zero, List.set_cons_succ, i64_w, i32_w]
            rfl
          refine pure_ (i := 5) (N := some 28) (v := ?_) (a' := ?_) #[true, true, true, true, true, true, false, false, false, false, false, false, false, false, false, false] rfl rfl (any_of HT_.out (by kernel_rfl)) (fun _ _ _ h => h) (Or.inl ⟨by rfl, ?_⟩) ?_ ?_
          rotate_left
          · intro w'
            go_simp
            with_reducible rfl
          rotate_left
          · simp only [Act.put, List.setIfInBounds_toArray, List.set_cons_zero, List.set_cons_succ, i64_w, i32_w]
            rfl
          refine pure_ (i := 8) (N := some 31) (v := ?_) (a' := ?_) #[true, true, true, true, true, true, false, false, true, false, false, false, false, false, false, false] rfl rfl (any_of HT_.out (by kernel_rfl)) (fun _ _ _ h => h) (Or.inl ⟨by rfl, ?_⟩) ?_ ?_
          rotate_left
          · intro w'
            go_simp
            with_reducible rfl
          rotate_left
          · simp only [Act.put, List.setIfInBounds_toArray, List.set_cons_zero, List.set_cons_succ, i64_w, i32_w]
            rfl
          refine pure_ (i := 11) (N := some 34) (v := ?_) (a' := ?_) #[true, true, true, true, true, true, false, false, true, false, false, true, false, false, false, false] rfl rfl (any_of HT_.out (by kernel_rfl)) (fun _ _ _ h => h) (Or.inl ⟨by rfl, ?_⟩) ?_ ?_
          rotate_left
          · intro w'
            go_simp
            with_reducible rfl
          rotate_left
          · simp only [Act.put, List.setIfInBounds_toArray, List.set_cons_zero, List.set_cons_succ, i64_w, i32_w]
            rfl
          refine take_ (i := 6) (N := some 29) (v := ?_) (a' := ?_) #[true, true, true, true, true, true, true, false, true, false, false, true, false, false, false, false] rfl rfl (take_ofW HT_.out HW_.out (by kernel_rfl)) (fun _ _ _ h => h) (Or.inl ⟨by rfl, ?_⟩) hHeld ?_ ?_
          rotate_left
          · rintro w' ⟨s0, s1⟩
            go_simp
            with_reducible rfl
          rotate_left
          · simp only [Act.put, List.setIfInBounds_toArray, List.set_cons_zero, List.set_cons_succ, i64_w, i32_w]
            rfl
          refine take_ (i := 9) (N := some 32) (v := ?_) (a' := ?_) #[true, true, true, true, true, true, true, false, true, true, false, true, false, false, false, false] rfl rfl (take_ofW HT_.out HW_.out (by kernel_rfl)) (fun _ _ _ h => h) (Or.inl ⟨by rfl, ?_⟩) hHeld ?_ ?_
          rotate_left
          · rintro w' ⟨s0, s1⟩
            go_simp
            with_reducible rfl
          rotate_left
          · simp only [Act.put, List.setIfInBounds_toArray, List.set_cons_zero, List.set_cons_succ, i64_w, i32_w]
            rfl
          refine pure_ (i := 10) (N := some 33) (v := ?_) (a' := ?_) #[true, true, true, true, true, true, true, false, true, true, true, true, false, false, false, false] rfl rfl (any_of HT_.out (by kernel_rfl)) (fun _ _ _ h => h) (Or.inl ⟨by rfl, ?_⟩) ?_ ?_
          rotate_left
          · intro w'
            go_simp
            with_reducible rfl
          rotate_left
          · simp only [Act.put, List.setIfInBounds_toArray, List.set_cons_zero, List.set_cons_succ, i64_w, i32_w]
            rfl
          refine take_ (i := 12) (N := some 35) (v := ?_) (a' := ?_) #[true, true, true, true, true, true, true, false, true, true, true, true, true, false, false, false] rfl rfl (take_ofW HT_.out HW_.out (by kernel_rfl)) (fun _ _ _ h => h) (Or.inl ⟨by rfl, ?_⟩) hHeld ?_ ?_
          rotate_left
          · rintro w' ⟨s0, s1⟩
            go_simp
            with_reducible rfl
          rotate_left
          · simp only [Act.put, List.setIfInBounds_toArray, List.set_cons_zero, List.set_cons_succ, i64_w, i32_w]
            rfl
          refine pure_ (i := 13) (N := some 36) (v := ?_) (a' := ?_) #[true, true, true, true, true, true, true, false, true, true, true, true, true, true, false, false] rfl rfl (any_of HT_.out (by kernel_rfl)) (fun _ _ _ h => h) (Or.inl ⟨by rfl, ?_⟩) ?_ ?_
          rotate_left
          · intro w'
            go_simp
            with_reducible rfl
          rotate_left
          · simp only [Act.put, List.setIfInBounds_toArray, List.set_cons_zero, List.set_cons_succ, i64_w, i32_w]
            rfl
          refine one_ (i := 7) (N := some 30) #[true, true, true, true, true, true, true, true, true, true, true, true, true, true, false, false] rfl rfl (one_of HT_.out (by kernel_rfl)) (by decide) (fun K hK => ?_)
          refine goes_ Tryd.func14 (by kernel_rfl) rfl #[.agg #[.string t273, .string t274]] (by rfl) rfl rfl (by (try simp only [List.map_toArray, List.map_cons, List.map_nil]); first | done | rfl | (simp only [List.length_drop, List.length_take]; rfl)) ?_
          with_reducible refine (node_Text.calls t273 t274 t282 _ A28.out).mono ?_
          rintro e w34 ⟨rfl, hb⟩
          refine ⟨_, rfl, ?_⟩
          have n0_ := Aside0.mk (blk_below (g := gb271) (o := .cells #[.string t273, .string t274] 23 (0, 0)) (by (with_reducible repeat (first | refine blk_drewN ?_ _ | refine blk_drew ?_ | refine blk_alloc ?_ _)); exact BK271.out) hb)
          have n1_ := Aside0.mk (blk_below (g := gb272) (o := .cells #[.string t275, .string t276] 23 (0, 0)) (by (with_reducible repeat (first | refine blk_drewN ?_ _ | refine blk_drew ?_ | refine blk_alloc ?_ _)); exact BK272.out) hb)
          have n2_ := Aside0.mk (below_step (by repeat (first | (with_reducible first | exact HB.out | apply below_alloc | apply pw_below_drewN | apply below_drew1 | refine below_set ?_ GE271.out | refine below_set ?_ GE272.out) | exact HB.out)) hb)
          clear BK271
          clear BK272
          clear HB
          have BK271 := n0_
          have BK272 := n1_
          have HB := n2_
          clear n0_ n1_ n2_
          (try clear hb)
          (try clear hb2)
          (try clear hk)
          (try clear hi)
          refine hK.out _ _ ⟨(blk_cell BK271.out 0).trans rfl, (blk_cell BK271.out 1).trans rfl⟩ (fun hHeld => ?_)
          clear hK K
          refine norm_ (a' := ?_) ?_ ?_
          rotate_left
          · show Act.put _ (some 30) _ = _
            simp only [Act.put, List.setIfInBounds_toArray, List.set_cons_zero, List.set_cons_succ, i64_w, i32_w]
            rfl
          refine pure_ (i := 14) (N := some 37) (v := ?_) (a' := ?_) #[true, true, true, true, true, true, true, true, true, true, true, true, true, true, true, false] rfl rfl (any_of HT_.out (by kernel_rfl)) (fun _ _ _ h => h) (Or.inl ⟨by rfl, ?_⟩) ?_ ?_
          rotate_left
          · intro w'
            go_simp
            with_reducible rfl
          rotate_left
          · simp only [Act.put, List.setIfInBounds_toArray, List.set_cons_zero, List.set_cons_succ, i64_w, i32_w]
            rfl
          refine pure_ (i := 15) (N := some 38) (v := ?_) (a' := ?_) #[true, true, true, true, true, true, true, true, true, true, true, true, true, true, true, true] rfl rfl (any_of HT_.out (by kernel_rfl)) (fun _ _ _ h => h) (Or.inl ⟨by rfl, ?_⟩) ?_ ?_
          rotate_left
          · intro w'
            go_simp
            with_reducible rfl
          rotate_left
          · simp only [Act.put, List.setIfInBounds_toArray, List.set_cons_zero, List.set_cons_succ, i64_w, i32_w]
            rfl
          refine done_ (done_of HT_.out (by kernel_rfl)) ?_
          try go_wp2
          go_meet
          case rel => exact ⟨_, ((t282.toList != ((t273 ++ (⟨#[64]⟩ : ByteArray)) ++ t274).toList)), (by first | rfl | (simp; done) | (simp [*]; done)), H', ⟨by first | omega | exact Nat.le_refl _⟩, ⟨by (with_reducible repeat (first | refine blk_drewN ?_ _ | refine blk_drew ?_ | refine blk_alloc ?_ _)); exact BK271.out⟩, ⟨by (with_reducible repeat (first | refine blk_drewN ?_ _ | refine blk_drew ?_ | refine blk_alloc ?_ _)); exact BK272.out⟩, ⟨by repeat (first | (with_reducible first | exact HB.out | apply below_alloc | apply pw_below_drewN | apply below_drew1 | refine below_set ?_ GE271.out | refine below_set ?_ GE272.out) | exact HB.out)⟩⟩
        · rw [if_neg c30] at H
          exact absurd H (by simp)
      · rw [if_neg c29] at H
        exact absurd H (by simp)
  case rest =>
    clear HC8
    try clear c1
    try clear c2
    try clear p2
    try clear c3
    try clear c5
    try clear c8
    try clear c9
    try clear c10
    try clear c12
    try clear c13
    try clear c14
    try clear c18
    try clear c24
    try clear c24b0
    try clear c24b1
    try clear c24b2
    try clear c29
    try clear c29b0
    try clear c29b1
    try clear c29b2
    try clear c30
    try clear c30b0
    try clear c30b1
    try clear c30b2
    try clear hcz19_0
    try clear hcz19_1
    try clear hcz20_0
    try clear hcz20_1
    try clear hfz19_0
    try clear hfz19_1
    try clear hfz20_0
    try clear hfz20_1
    obtain ⟨kq, x38_7, rfl, HA, HJ7, BK271, BK272, HB⟩ := hcut
    cases kq with
    | zero => exact absurd HA.out (by simp [graftwoodlaw05_NodeTells.j0])
    | succ kj7 =>
      have H := HA.out
      clear HA
      simp only [graftwoodlaw05_NodeTells.j0] at H
      by_cases c35 : x38_7 = true
      · subst c35
        have H1 : (some false) = some r := by rw [if_pos rfl] at H; exact H
        clear H
        have H := H1
        clear H1
        obtain rfl := Option.some.inj H
        go_wp2
        go_ret
        exact ⟨by first | rfl | (simp [errW_none, errW_some] <;> rfl) | (simp [*, errW_none, errW_some] <;> rfl), by repeat (first | (with_reducible first | exact HB.out | apply below_alloc | apply pw_below_drewN | apply below_drew1 | refine below_set ?_ GE271.out | refine below_set ?_ GE272.out) | exact HB.out)⟩
      · replace c35 := Bool.eq_false_iff.mpr c35
        subst c35
        have H1 : ((node_Read.f kj7 t277).bind fun bt283 => (if bt283.2.2 = 0 then ((graftwoodref05_May.f kj7 bt283.1 bt283.2.1).bind fun t287 => (if t287 = true then (if bt283.1.size + 1 ≤ 9223372036854775807 then (if (bt283.1 ++ (⟨#[64]⟩ : ByteArray)).size + bt283.2.1.size ≤ 9223372036854775807 then (if ((bt283.1 ++ (⟨#[64]⟩ : ByteArray)) ++ bt283.2.1).toList = t277.toList then (graftwoodlaw05_NodeTells.j1 kj7 t278 t279 false t273 t274 t275 t276) else (graftwoodlaw05_NodeTells.j1 kj7 t278 t279 true t273 t274 t275 t276)) else (none)) else (none)) else (graftwoodlaw05_NodeTells.j1 kj7 t278 t279 true t273 t274 t275 t276))) else (if bt283.2.2 = 1 then (graftwoodlaw05_NodeTells.j1 kj7 t278 t279 (!(bt283.1.toList == ([] : List UInt8)) || (!(bt283.2.1.toList == ([] : List UInt8)))) t273 t274 t275 t276) else (graftwoodlaw05_NodeTells.j1 kj7 t278 t279 true t273 t274 t275 t276)))) = some r := by rw [if_neg (show ¬ (false = true) by decide)] at H; exact H
        clear H
        have H := H1
        clear H1
        replace H := Option.bind_eq_some_iff.mp H
        obtain ⟨⟨t283, t284, t285⟩, A360, H⟩ := H
        replace H : (if t285 = 0 then ((graftwoodref05_May.f kj7 t283 t284).bind fun t287 => (if t287 = true then (if t283.size + 1 ≤ 9223372036854775807 then (if (t283 ++ (⟨#[64]⟩ : ByteArray)).size + t284.size ≤ 9223372036854775807 then (if ((t283 ++ (⟨#[64]⟩ : ByteArray)) ++ t284).toList = t277.toList then (graftwoodlaw05_NodeTells.j1 kj7 t278 t279 false t273 t274 t275 t276) else (graftwoodlaw05_NodeTells.j1 kj7 t278 t279 true t273 t274 t275 t276)) else (none)) else (none)) else (graftwoodlaw05_NodeTells.j1 kj7 t278 t279 true t273 t274 t275 t276))) else (if t285 = 1 then (graftwoodlaw05_NodeTells.j1 kj7 t278 t279 (!(t283.toList == ([] : List UInt8)) || (!(t284.toList == ([] : List UInt8)))) t273 t274 t275 t276) else (graftwoodlaw05_NodeTells.j1 kj7 t278 t279 true t273 t274 t275 t276))) = some r := H
        have A36 := Aside0.mk A360
        clear A360
        have HC37 := Aside0.mk H
        clear H
        go_upto_region 6 with (first | ((with_reducible refine gate_callee (f := 15) rfl ?_); refine goesL_ (some 41) rfl rfl Tryd.func15 (by kernel_rfl) rfl #[.string t277] rfl (by (try simp only [List.map_toArray, List.map_cons, List.map_nil]); first | done | rfl | (simp only [List.length_drop, List.length_take]; rfl)) ?_; (with_reducible refine (node_Read.calls kj7 t277 t283 t284 t285 _ A36.out).mono ?_); rintro e w38 ⟨rfl, hb⟩; refine ⟨_, rfl, ?_⟩; have n0_ := Aside0.mk (blk_below (g := gb271) (o := .cells #[.string t273, .string t274] 23 (0, 0)) (by (with_reducible repeat (first | refine blk_drewN ?_ _ | refine blk_drew ?_ | refine blk_alloc ?_ _)); exact BK271.out) hb); have n1_ := Aside0.mk (blk_below (g := gb272) (o := .cells #[.string t275, .string t276] 23 (0, 0)) (by (with_reducible repeat (first | refine blk_drewN ?_ _ | refine blk_drew ?_ | refine blk_alloc ?_ _)); exact BK272.out) hb); have n2_ := Aside0.mk (below_step (by repeat (first | (with_reducible first | exact HB.out | apply below_alloc | apply pw_below_drewN | apply below_drew1 | refine below_set ?_ GE271.out | refine below_set ?_ GE272.out) | exact HB.out)) hb); clear BK271; clear BK272; clear HB; have BK271 := n0_; have BK272 := n1_; have HB := n2_; clear n0_ n1_ n2_; (try clear hb); (try clear hb2); (try clear hk); (try clear hi)) | ((with_reducible refine gate_dst (N := 9) rfl ?_); refine box_event ?hg (N := 9) ?hd (cs := #[.string (⟨#[]⟩ : ByteArray), .string (⟨#[]⟩ : ByteArray)]) (t := 23) ?hr ?_; (case hd => rfl); (case hg => rfl); (case hr => first | (go_simp; done) | (go_simp; rfl)); intro gb286 hg w39 hbox hb; have n0_ := Aside0.mk (blk_below (g := gb271) (o := .cells #[.string t273, .string t274] 23 (0, 0)) (by (with_reducible repeat (first | refine blk_drewN ?_ _ | refine blk_drew ?_ | refine blk_alloc ?_ _)); exact BK271.out) hb); have n1_ := Aside0.mk (blk_below (g := gb272) (o := .cells #[.string t275, .string t276] 23 (0, 0)) (by (with_reducible repeat (first | refine blk_drewN ?_ _ | refine blk_drew ?_ | refine blk_alloc ?_ _)); exact BK272.out) hb); have n2_ := Aside0.mk (below_step (by repeat (first | (with_reducible first | exact HB.out | apply below_alloc | apply pw_below_drewN | apply below_drew1 | refine below_set ?_ GE271.out | refine below_set ?_ GE272.out) | exact HB.out)) hb); have n3_ := Aside0.mk (hbox); have n4_ := Aside0.mk ((by rw [hg]; exact (below_size (by repeat (first | (with_reducible first | exact HB.out | apply below_alloc | apply pw_below_drewN | apply below_drew1 | refine below_set ?_ GE271.out | refine below_set ?_ GE272.out) | exact HB.out))) : w.heap.size ≤ gb286)); have n5_ := Aside0.mk ((by rw [hg]; exact (below_size (by repeat (first | (with_reducible first | exact HB.out | apply below_alloc | apply pw_below_drewN | apply below_drew1 | refine below_set ?_ GE271.out | refine below_set ?_ GE272.out) | exact HB.out))) : w.heap.size ≤ gb286)); have n6_ := Aside0.mk ((by rw [hg]; exact Nat.ne_of_lt (blk_lt (g := gb271) (o := .cells #[.string t273, .string t274] 23 (0, 0)) (by (with_reducible repeat (first | refine blk_drewN ?_ _ | refine blk_drew ?_ | refine blk_alloc ?_ _)); exact BK271.out)) : gb271 ≠ gb286)); have n7_ := Aside0.mk ((by rw [hg]; exact Nat.ne_of_gt (blk_lt (g := gb271) (o := .cells #[.string t273, .string t274] 23 (0, 0)) (by (with_reducible repeat (first | refine blk_drewN ?_ _ | refine blk_drew ?_ | refine blk_alloc ?_ _)); exact BK271.out)) : gb286 ≠ gb271)); have n8_ := Aside0.mk ((by rw [hg]; exact Nat.ne_of_lt (blk_lt (g := gb272) (o := .cells #[.string t275, .string t276] 23 (0, 0)) (by (with_reducible repeat (first | refine blk_drewN ?_ _ | refine blk_drew ?_ | refine blk_alloc ?_ _)); exact BK272.out)) : gb272 ≠ gb286)); have n9_ := Aside0.mk ((by rw [hg]; exact Nat.ne_of_gt (blk_lt (g := gb272) (o := .cells #[.string t275, .string t276] 23 (0, 0)) (by (with_reducible repeat (first | refine blk_drewN ?_ _ | refine blk_drew ?_ | refine blk_alloc ?_ _)); exact BK272.out)) : gb286 ≠ gb272)); clear BK271; clear BK272; clear HB; have BK271 := n0_; have BK272 := n1_; have HB := n2_; have BK286 := n3_; have GW286 := n4_; have GE286 := n5_; have NB271_286 := n6_; have NB286_271 := n7_; have NB272_286 := n8_; have NB286_272 := n9_; clear n0_ n1_ n2_ n3_ n4_ n5_ n6_ n7_ n8_ n9_; clear hb hbox hg; have hnb40 := NB286_271.out; have hnc40 := NB271_286.out; have hnb41 := NB286_272.out; have hnc41 := NB272_286.out; have hcz42_0 : w39.cell? ⟨gb286, 0, none⟩ = some (.string (⟨#[]⟩ : ByteArray)) := (blk_cell BK286.out 0).trans rfl; have hcz42_1 : w39.cell? ⟨gb286, 1, none⟩ = some (.string (⟨#[]⟩ : ByteArray)) := (blk_cell BK286.out 1).trans rfl; have hfz42_0 := blk_frozen BK286.out 0; have hfz42_1 := blk_frozen BK286.out 1))
        (try simp only [Act.put, List.setIfInBounds_toArray, List.set_cons_zero, List.set_cons_succ])
        go_cut [73] (fun v73 wc => ∃ (kq : Nat) (x73_36 : Bool), v73 = .bool x73_36 ∧ Aside0 (graftwoodlaw05_NodeTells.j1 kq t278 t279 x73_36 t273 t274 t275 t276 = some r) ∧ Aside0 (kq ≤ kj7) ∧ Aside0 (wc.heap[gb271]? = some (.cells #[.string t273, .string t274] 23 (0, 0))) ∧ Aside0 (wc.heap[gb272]? = some (.cells #[.string t275, .string t276] 23 (0, 0))) ∧ Aside0 (wc.heap[gb286]? = some (.cells #[.string t283, .string t284] 23 (0, 0))) ∧ Aside0 (Below w.heap.size w wc))
        case first =>
          have H := HC37.out
          clear HC37
          by_cases c43 : t285 = 0
          · rw [if_pos c43] at H
            have c43b0 : (t285 == 0) = true := beq_iff_eq.mpr c43
            have c43b1 : (t285 != 0) = false := bne_eq_false_iff_eq.mpr c43
            clear c43
            (first | rw [c43b0] | (simp only [i64_w, i32_w]; rw [c43b0]) | skip)
            replace H := Option.bind_eq_some_iff.mp H
            obtain ⟨t287, A440, H⟩ := H
            replace H : (if t287 = true then (if t283.size + 1 ≤ 9223372036854775807 then (if (t283 ++ (⟨#[64]⟩ : ByteArray)).size + t284.size ≤ 9223372036854775807 then (if ((t283 ++ (⟨#[64]⟩ : ByteArray)) ++ t284).toList = t277.toList then (graftwoodlaw05_NodeTells.j1 kj7 t278 t279 false t273 t274 t275 t276) else (graftwoodlaw05_NodeTells.j1 kj7 t278 t279 true t273 t274 t275 t276)) else (none)) else (none)) else (graftwoodlaw05_NodeTells.j1 kj7 t278 t279 true t273 t274 t275 t276)) = some r := H
            have A44 := Aside0.mk A440
            clear A440
            by_cases c45 : t287 = true
            · subst c45
              have H1 : (if t283.size + 1 ≤ 9223372036854775807 then (if (t283 ++ (⟨#[64]⟩ : ByteArray)).size + t284.size ≤ 9223372036854775807 then (if ((t283 ++ (⟨#[64]⟩ : ByteArray)) ++ t284).toList = t277.toList then (graftwoodlaw05_NodeTells.j1 kj7 t278 t279 false t273 t274 t275 t276) else (graftwoodlaw05_NodeTells.j1 kj7 t278 t279 true t273 t274 t275 t276)) else (none)) else (none)) = some r := by rw [if_pos rfl] at H; exact H
              clear H
              have H := H1
              clear H1
              by_cases c46 : t283.size + 1 ≤ 9223372036854775807
              · rw [if_pos c46] at H
                have c46b0 := eq_true c46
                have c46b1 : decide (t283.size + 1 ≤ 9223372036854775807) = true := decide_eq_true c46
                try have c46b2 : (9223372036854775807 < t283.size + 1) = False := eq_false (Nat.not_lt.2 c46)
                by_cases c47 : (t283 ++ (⟨#[64]⟩ : ByteArray)).size + t284.size ≤ 9223372036854775807
                · rw [if_pos c47] at H
                  have c47b0 := eq_true c47
                  have c47b1 : decide ((t283 ++ (⟨#[64]⟩ : ByteArray)).size + t284.size ≤ 9223372036854775807) = true := decide_eq_true c47
                  try have c47b2 : (9223372036854775807 < (t283 ++ (⟨#[64]⟩ : ByteArray)).size + t284.size) = False := eq_false (Nat.not_lt.2 c47)
                  have c47b9_ : (9223372036854775807 < t283.size + 1 + t284.size) = False := eq_false (Nat.not_lt.2 (by have h9 := c47; rw [ByteArray.size_append] at h9; exact h9))
                  by_cases c48 : ((t283 ++ (⟨#[64]⟩ : ByteArray)) ++ t284).toList = t277.toList
                  · rw [if_pos c48] at H
                    have c48b0 : (((t283 ++ (⟨#[64]⟩ : ByteArray)) ++ t284).toList == t277.toList) = true := beq_iff_eq.mpr c48
                    have c48b1 : (((t283 ++ (⟨#[64]⟩ : ByteArray)) ++ t284).toList != t277.toList) = false := bne_eq_false_iff_eq.mpr c48
                    clear c48
                    have H' := Aside0.mk H
                    clear H
                    have hnb49 := NB286_271.out
                    have hnc49 := NB271_286.out
                    have hnb50 := NB286_272.out
                    have hnc50 := NB272_286.out
                    have hcz51_0 : w39.cell? ⟨gb286, 0, none⟩ = some (.string (⟨#[]⟩ : ByteArray)) := (blk_cell BK286.out 0).trans rfl
                    have hcz51_1 : w39.cell? ⟨gb286, 1, none⟩ = some (.string (⟨#[]⟩ : ByteArray)) := (blk_cell BK286.out 1).trans rfl
                    have hfz51_0 := blk_frozen BK286.out 0
                    have hfz51_1 := blk_frozen BK286.out 1
                    go_wp2_with (first | (go_at_call 13; (with_reducible refine (graftwoodref05_May.calls kj7 t283 t284 true _ A44.out).mono ?_); rintro e w52 ⟨rfl, hb⟩; have n0_ := Aside0.mk (blk_below (g := gb271) (o := .cells #[.string t273, .string t274] 23 (0, 0)) (by (with_reducible repeat (first | refine blk_drewN ?_ _ | refine blk_drew ?_ | refine blk_alloc ?_ _)); refine blk_far ?_ NB271_286.out _; (with_reducible repeat (first | refine blk_drewN ?_ _ | refine blk_drew ?_ | refine blk_alloc ?_ _)); refine blk_far ?_ NB271_286.out _; (with_reducible repeat (first | refine blk_drewN ?_ _ | refine blk_drew ?_ | refine blk_alloc ?_ _)); exact BK271.out) hb); have n1_ := Aside0.mk (blk_below (g := gb272) (o := .cells #[.string t275, .string t276] 23 (0, 0)) (by (with_reducible repeat (first | refine blk_drewN ?_ _ | refine blk_drew ?_ | refine blk_alloc ?_ _)); refine blk_far ?_ NB272_286.out _; (with_reducible repeat (first | refine blk_drewN ?_ _ | refine blk_drew ?_ | refine blk_alloc ?_ _)); refine blk_far ?_ NB272_286.out _; (with_reducible repeat (first | refine blk_drewN ?_ _ | refine blk_drew ?_ | refine blk_alloc ?_ _)); exact BK272.out) hb); have n2_ := Aside0.mk (blk_below (g := gb286) (o := .cells #[.string t283, .string t284] 23 (0, 0)) (by (with_reducible repeat (first | refine blk_drewN ?_ _ | refine blk_drew ?_ | refine blk_alloc ?_ _)); refine blk_put (cs := #[.string t283, .string (⟨#[]⟩ : ByteArray)]) ?_ 1 _ rfl; (with_reducible repeat (first | refine blk_drewN ?_ _ | refine blk_drew ?_ | refine blk_alloc ?_ _)); refine blk_put (cs := #[.string (⟨#[]⟩ : ByteArray), .string (⟨#[]⟩ : ByteArray)]) ?_ 0 _ rfl; (with_reducible repeat (first | refine blk_drewN ?_ _ | refine blk_drew ?_ | refine blk_alloc ?_ _)); exact BK286.out) hb); have n3_ := Aside0.mk (below_step (by repeat (first | (with_reducible first | exact HB.out | apply below_alloc | apply pw_below_drewN | apply below_drew1 | refine below_set ?_ GE271.out | refine below_set ?_ GE272.out | refine below_set ?_ GE286.out) | exact HB.out)) hb); clear BK271; clear BK272; clear BK286; clear HB; have BK271 := n0_; have BK272 := n1_; have BK286 := n2_; have HB := n3_; clear n0_ n1_ n2_ n3_; (try clear hb); (try clear hb2); (try clear hk); (try clear hi); have hcz53_0 : w52.cell? ⟨gb286, 0, none⟩ = some (.string t283) := (blk_cell BK286.out 0).trans rfl; have hcz53_1 : w52.cell? ⟨gb286, 1, none⟩ = some (.string t284) := (blk_cell BK286.out 1).trans rfl; have hfz53_0 := blk_frozen BK286.out 0; have hfz53_1 := blk_frozen BK286.out 1))
                    go_meet
                    case rel => exact ⟨_, (false), (by first | rfl | (simp; done) | (simp [*]; done)), H', ⟨by have := HJ7.out; first | omega | exact Nat.le_refl _⟩, ⟨by (with_reducible repeat (first | refine blk_drewN ?_ _ | refine blk_drew ?_ | refine blk_alloc ?_ _)); exact BK271.out⟩, ⟨by (with_reducible repeat (first | refine blk_drewN ?_ _ | refine blk_drew ?_ | refine blk_alloc ?_ _)); exact BK272.out⟩, ⟨by (with_reducible repeat (first | refine blk_drewN ?_ _ | refine blk_drew ?_ | refine blk_alloc ?_ _)); exact BK286.out⟩, ⟨by repeat (first | (with_reducible first | exact HB.out | apply below_alloc | apply pw_below_drewN | apply below_drew1 | refine below_set ?_ GE271.out | refine below_set ?_ GE272.out | refine below_set ?_ GE286.out) | exact HB.out)⟩⟩
                  · rw [if_neg c48] at H
                    have c48b0 : (((t283 ++ (⟨#[64]⟩ : ByteArray)) ++ t284).toList == t277.toList) = false := beq_eq_false_iff_ne.mpr c48
                    have c48b1 : (((t283 ++ (⟨#[64]⟩ : ByteArray)) ++ t284).toList != t277.toList) = true := bne_iff_ne.mpr c48
                    have H' := Aside0.mk H
                    clear H
                    have hnb54 := NB286_271.out
                    have hnc54 := NB271_286.out
                    have hnb55 := NB286_272.out
                    have hnc55 := NB272_286.out
                    have hcz56_0 : w39.cell? ⟨gb286, 0, none⟩ = some (.string (⟨#[]⟩ : ByteArray)) := (blk_cell BK286.out 0).trans rfl
                    have hcz56_1 : w39.cell? ⟨gb286, 1, none⟩ = some (.string (⟨#[]⟩ : ByteArray)) := (blk_cell BK286.out 1).trans rfl
                    have hfz56_0 := blk_frozen BK286.out 0
                    have hfz56_1 := blk_frozen BK286.out 1
                    go_wp2_with (first | (go_at_call 13; (with_reducible refine (graftwoodref05_May.calls kj7 t283 t284 true _ A44.out).mono ?_); rintro e w57 ⟨rfl, hb⟩; have n0_ := Aside0.mk (blk_below (g := gb271) (o := .cells #[.string t273, .string t274] 23 (0, 0)) (by (with_reducible repeat (first | refine blk_drewN ?_ _ | refine blk_drew ?_ | refine blk_alloc ?_ _)); refine blk_far ?_ NB271_286.out _; (with_reducible repeat (first | refine blk_drewN ?_ _ | refine blk_drew ?_ | refine blk_alloc ?_ _)); refine blk_far ?_ NB271_286.out _; (with_reducible repeat (first | refine blk_drewN ?_ _ | refine blk_drew ?_ | refine blk_alloc ?_ _)); exact BK271.out) hb); have n1_ := Aside0.mk (blk_below (g := gb272) (o := .cells #[.string t275, .string t276] 23 (0, 0)) (by (with_reducible repeat (first | refine blk_drewN ?_ _ | refine blk_drew ?_ | refine blk_alloc ?_ _)); refine blk_far ?_ NB272_286.out _; (with_reducible repeat (first | refine blk_drewN ?_ _ | refine blk_drew ?_ | refine blk_alloc ?_ _)); refine blk_far ?_ NB272_286.out _; (with_reducible repeat (first | refine blk_drewN ?_ _ | refine blk_drew ?_ | refine blk_alloc ?_ _)); exact BK272.out) hb); have n2_ := Aside0.mk (blk_below (g := gb286) (o := .cells #[.string t283, .string t284] 23 (0, 0)) (by (with_reducible repeat (first | refine blk_drewN ?_ _ | refine blk_drew ?_ | refine blk_alloc ?_ _)); refine blk_put (cs := #[.string t283, .string (⟨#[]⟩ : ByteArray)]) ?_ 1 _ rfl; (with_reducible repeat (first | refine blk_drewN ?_ _ | refine blk_drew ?_ | refine blk_alloc ?_ _)); refine blk_put (cs := #[.string (⟨#[]⟩ : ByteArray), .string (⟨#[]⟩ : ByteArray)]) ?_ 0 _ rfl; (with_reducible repeat (first | refine blk_drewN ?_ _ | refine blk_drew ?_ | refine blk_alloc ?_ _)); exact BK286.out) hb); have n3_ := Aside0.mk (below_step (by repeat (first | (with_reducible first | exact HB.out | apply below_alloc | apply pw_below_drewN | apply below_drew1 | refine below_set ?_ GE271.out | refine below_set ?_ GE272.out | refine below_set ?_ GE286.out) | exact HB.out)) hb); clear BK271; clear BK272; clear BK286; clear HB; have BK271 := n0_; have BK272 := n1_; have BK286 := n2_; have HB := n3_; clear n0_ n1_ n2_ n3_; (try clear hb); (try clear hb2); (try clear hk); (try clear hi); have hcz58_0 : w57.cell? ⟨gb286, 0, none⟩ = some (.string t283) := (blk_cell BK286.out 0).trans rfl; have hcz58_1 : w57.cell? ⟨gb286, 1, none⟩ = some (.string t284) := (blk_cell BK286.out 1).trans rfl; have hfz58_0 := blk_frozen BK286.out 0; have hfz58_1 := blk_frozen BK286.out 1))
                    go_meet
                    case rel => exact ⟨_, (true), (by first | rfl | (simp; done) | (simp [*]; done)), H', ⟨by have := HJ7.out; first | omega | exact Nat.le_refl _⟩, ⟨by (with_reducible repeat (first | refine blk_drewN ?_ _ | refine blk_drew ?_ | refine blk_alloc ?_ _)); exact BK271.out⟩, ⟨by (with_reducible repeat (first | refine blk_drewN ?_ _ | refine blk_drew ?_ | refine blk_alloc ?_ _)); exact BK272.out⟩, ⟨by (with_reducible repeat (first | refine blk_drewN ?_ _ | refine blk_drew ?_ | refine blk_alloc ?_ _)); exact BK286.out⟩, ⟨by repeat (first | (with_reducible first | exact HB.out | apply below_alloc | apply pw_below_drewN | apply below_drew1 | refine below_set ?_ GE271.out | refine below_set ?_ GE272.out | refine below_set ?_ GE286.out) | exact HB.out)⟩⟩
                · rw [if_neg c47] at H
                  exact absurd H (by simp)
              · rw [if_neg c46] at H
                exact absurd H (by simp)
            · replace c45 := Bool.eq_false_iff.mpr c45
              subst c45
              have H1 : (graftwoodlaw05_NodeTells.j1 kj7 t278 t279 true t273 t274 t275 t276) = some r := by rw [if_neg (show ¬ (false = true) by decide)] at H; exact H
              clear H
              have H := H1
              clear H1
              have H' := Aside0.mk H
              clear H
              have hnb59 := NB286_271.out
              have hnc59 := NB271_286.out
              have hnb60 := NB286_272.out
              have hnc60 := NB272_286.out
              have hcz61_0 : w39.cell? ⟨gb286, 0, none⟩ = some (.string (⟨#[]⟩ : ByteArray)) := (blk_cell BK286.out 0).trans rfl
              have hcz61_1 : w39.cell? ⟨gb286, 1, none⟩ = some (.string (⟨#[]⟩ : ByteArray)) := (blk_cell BK286.out 1).trans rfl
              have hfz61_0 := blk_frozen BK286.out 0
              have hfz61_1 := blk_frozen BK286.out 1
              go_wp2_with (first | (go_at_call 13; (with_reducible refine (graftwoodref05_May.calls kj7 t283 t284 false _ A44.out).mono ?_); rintro e w62 ⟨rfl, hb⟩; have n0_ := Aside0.mk (blk_below (g := gb271) (o := .cells #[.string t273, .string t274] 23 (0, 0)) (by (with_reducible repeat (first | refine blk_drewN ?_ _ | refine blk_drew ?_ | refine blk_alloc ?_ _)); refine blk_far ?_ NB271_286.out _; (with_reducible repeat (first | refine blk_drewN ?_ _ | refine blk_drew ?_ | refine blk_alloc ?_ _)); refine blk_far ?_ NB271_286.out _; (with_reducible repeat (first | refine blk_drewN ?_ _ | refine blk_drew ?_ | refine blk_alloc ?_ _)); exact BK271.out) hb); have n1_ := Aside0.mk (blk_below (g := gb272) (o := .cells #[.string t275, .string t276] 23 (0, 0)) (by (with_reducible repeat (first | refine blk_drewN ?_ _ | refine blk_drew ?_ | refine blk_alloc ?_ _)); refine blk_far ?_ NB272_286.out _; (with_reducible repeat (first | refine blk_drewN ?_ _ | refine blk_drew ?_ | refine blk_alloc ?_ _)); refine blk_far ?_ NB272_286.out _; (with_reducible repeat (first | refine blk_drewN ?_ _ | refine blk_drew ?_ | refine blk_alloc ?_ _)); exact BK272.out) hb); have n2_ := Aside0.mk (blk_below (g := gb286) (o := .cells #[.string t283, .string t284] 23 (0, 0)) (by (with_reducible repeat (first | refine blk_drewN ?_ _ | refine blk_drew ?_ | refine blk_alloc ?_ _)); refine blk_put (cs := #[.string t283, .string (⟨#[]⟩ : ByteArray)]) ?_ 1 _ rfl; (with_reducible repeat (first | refine blk_drewN ?_ _ | refine blk_drew ?_ | refine blk_alloc ?_ _)); refine blk_put (cs := #[.string (⟨#[]⟩ : ByteArray), .string (⟨#[]⟩ : ByteArray)]) ?_ 0 _ rfl; (with_reducible repeat (first | refine blk_drewN ?_ _ | refine blk_drew ?_ | refine blk_alloc ?_ _)); exact BK286.out) hb); have n3_ := Aside0.mk (below_step (by repeat (first | (with_reducible first | exact HB.out | apply below_alloc | apply pw_below_drewN | apply below_drew1 | refine below_set ?_ GE271.out | refine below_set ?_ GE272.out | refine below_set ?_ GE286.out) | exact HB.out)) hb); clear BK271; clear BK272; clear BK286; clear HB; have BK271 := n0_; have BK272 := n1_; have BK286 := n2_; have HB := n3_; clear n0_ n1_ n2_ n3_; (try clear hb); (try clear hb2); (try clear hk); (try clear hi)))
              go_meet
              case rel => exact ⟨_, (true), (by first | rfl | (simp; done) | (simp [*]; done)), H', ⟨by have := HJ7.out; first | omega | exact Nat.le_refl _⟩, ⟨by (with_reducible repeat (first | refine blk_drewN ?_ _ | refine blk_drew ?_ | refine blk_alloc ?_ _)); exact BK271.out⟩, ⟨by (with_reducible repeat (first | refine blk_drewN ?_ _ | refine blk_drew ?_ | refine blk_alloc ?_ _)); exact BK272.out⟩, ⟨by (with_reducible repeat (first | refine blk_drewN ?_ _ | refine blk_drew ?_ | refine blk_alloc ?_ _)); exact BK286.out⟩, ⟨by repeat (first | (with_reducible first | exact HB.out | apply below_alloc | apply pw_below_drewN | apply below_drew1 | refine below_set ?_ GE271.out | refine below_set ?_ GE272.out | refine below_set ?_ GE286.out) | exact HB.out)⟩⟩
          · rw [if_neg c43] at H
            have c43b0 : (t285 == 0) = false := beq_eq_false_iff_ne.mpr c43
            have c43b1 : (t285 != 0) = true := bne_iff_ne.mpr c43
            (first | rw [c43b0] | (simp only [i64_w, i32_w]; rw [c43b0]) | skip)
            by_cases c63 : t285 = 1
            · rw [if_pos c63] at H
              have c63b0 : (t285 == 1) = true := beq_iff_eq.mpr c63
              have c63b1 : (t285 != 1) = false := bne_eq_false_iff_eq.mpr c63
              clear c63
              have H' := Aside0.mk H
              clear H
              have hnb64 := NB286_271.out
              have hnc64 := NB271_286.out
              have hnb65 := NB286_272.out
              have hnc65 := NB272_286.out
              have hcz66_0 : w39.cell? ⟨gb286, 0, none⟩ = some (.string (⟨#[]⟩ : ByteArray)) := (blk_cell BK286.out 0).trans rfl
              have hcz66_1 : w39.cell? ⟨gb286, 1, none⟩ = some (.string (⟨#[]⟩ : ByteArray)) := (blk_cell BK286.out 1).trans rfl
              have hfz66_0 := blk_frozen BK286.out 0
              have hfz66_1 := blk_frozen BK286.out 1
              go_wp2
              go_meet
              case rel => exact ⟨_, ((!(t283.toList == ([] : List UInt8)) || (!(t284.toList == ([] : List UInt8))))), (by first | rfl | (simp; done) | (simp [*]; done)), H', ⟨by have := HJ7.out; first | omega | exact Nat.le_refl _⟩, ⟨by (with_reducible repeat (first | refine blk_drewN ?_ _ | refine blk_drew ?_ | refine blk_alloc ?_ _)); refine blk_far ?_ NB271_286.out _; (with_reducible repeat (first | refine blk_drewN ?_ _ | refine blk_drew ?_ | refine blk_alloc ?_ _)); refine blk_far ?_ NB271_286.out _; (with_reducible repeat (first | refine blk_drewN ?_ _ | refine blk_drew ?_ | refine blk_alloc ?_ _)); exact BK271.out⟩, ⟨by (with_reducible repeat (first | refine blk_drewN ?_ _ | refine blk_drew ?_ | refine blk_alloc ?_ _)); refine blk_far ?_ NB272_286.out _; (with_reducible repeat (first | refine blk_drewN ?_ _ | refine blk_drew ?_ | refine blk_alloc ?_ _)); refine blk_far ?_ NB272_286.out _; (with_reducible repeat (first | refine blk_drewN ?_ _ | refine blk_drew ?_ | refine blk_alloc ?_ _)); exact BK272.out⟩, ⟨by (with_reducible repeat (first | refine blk_drewN ?_ _ | refine blk_drew ?_ | refine blk_alloc ?_ _)); refine blk_put (cs := #[.string t283, .string (⟨#[]⟩ : ByteArray)]) ?_ 1 _ rfl; (with_reducible repeat (first | refine blk_drewN ?_ _ | refine blk_drew ?_ | refine blk_alloc ?_ _)); refine blk_put (cs := #[.string (⟨#[]⟩ : ByteArray), .string (⟨#[]⟩ : ByteArray)]) ?_ 0 _ rfl; (with_reducible repeat (first | refine blk_drewN ?_ _ | refine blk_drew ?_ | refine blk_alloc ?_ _)); exact BK286.out⟩, ⟨by repeat (first | (with_reducible first | exact HB.out | apply below_alloc | apply pw_below_drewN | apply below_drew1 | refine below_set ?_ GE271.out | refine below_set ?_ GE272.out | refine below_set ?_ GE286.out) | exact HB.out)⟩⟩
            · rw [if_neg c63] at H
              have c63b0 : (t285 == 1) = false := beq_eq_false_iff_ne.mpr c63
              have c63b1 : (t285 != 1) = true := bne_iff_ne.mpr c63
              have H' := Aside0.mk H
              clear H
              go_wp2
              go_meet
              case rel => exact ⟨_, (true), (by first | rfl | (simp; done) | (simp [*]; done)), H', ⟨by have := HJ7.out; first | omega | exact Nat.le_refl _⟩, ⟨by (with_reducible repeat (first | refine blk_drewN ?_ _ | refine blk_drew ?_ | refine blk_alloc ?_ _)); refine blk_far ?_ NB271_286.out _; (with_reducible repeat (first | refine blk_drewN ?_ _ | refine blk_drew ?_ | refine blk_alloc ?_ _)); refine blk_far ?_ NB271_286.out _; (with_reducible repeat (first | refine blk_drewN ?_ _ | refine blk_drew ?_ | refine blk_alloc ?_ _)); exact BK271.out⟩, ⟨by (with_reducible repeat (first | refine blk_drewN ?_ _ | refine blk_drew ?_ | refine blk_alloc ?_ _)); refine blk_far ?_ NB272_286.out _; (with_reducible repeat (first | refine blk_drewN ?_ _ | refine blk_drew ?_ | refine blk_alloc ?_ _)); refine blk_far ?_ NB272_286.out _; (with_reducible repeat (first | refine blk_drewN ?_ _ | refine blk_drew ?_ | refine blk_alloc ?_ _)); exact BK272.out⟩, ⟨by (with_reducible repeat (first | refine blk_drewN ?_ _ | refine blk_drew ?_ | refine blk_alloc ?_ _)); refine blk_put (cs := #[.string t283, .string (⟨#[]⟩ : ByteArray)]) ?_ 1 _ rfl; (with_reducible repeat (first | refine blk_drewN ?_ _ | refine blk_drew ?_ | refine blk_alloc ?_ _)); refine blk_put (cs := #[.string (⟨#[]⟩ : ByteArray), .string (⟨#[]⟩ : ByteArray)]) ?_ 0 _ rfl; (with_reducible repeat (first | refine blk_drewN ?_ _ | refine blk_drew ?_ | refine blk_alloc ?_ _)); exact BK286.out⟩, ⟨by repeat (first | (with_reducible first | exact HB.out | apply below_alloc | apply pw_below_drewN | apply below_drew1 | refine below_set ?_ GE271.out | refine below_set ?_ GE272.out | refine below_set ?_ GE286.out) | exact HB.out)⟩⟩
        case rest =>
          clear HC37
          try clear c1
          try clear c2
          try clear p2
          try clear c3
          try clear c4
          try clear c5
          try clear c6
          try clear c8
          try clear c9
          try clear c10
          try clear c12
          try clear c13
          try clear c14
          try clear c15
          try clear c18
          try clear c24
          try clear c24b0
          try clear c24b1
          try clear c24b2
          try clear c29
          try clear c29b0
          try clear c29b1
          try clear c29b2
          try clear c30
          try clear c30b0
          try clear c30b1
          try clear c30b2
          try clear c35
          try clear c40
          try clear c41
          try clear c43
          try clear c43b0
          try clear c43b1
          try clear c45
          try clear c46
          try clear c46b0
          try clear c46b1
          try clear c46b2
          try clear c47
          try clear c47b0
          try clear c47b1
          try clear c47b2
          try clear c48
          try clear c48b0
          try clear c48b1
          try clear c49
          try clear c50
          try clear c54
          try clear c55
          try clear c59
          try clear c60
          try clear c63
          try clear c63b0
          try clear c63b1
          try clear c64
          try clear c65
          try clear hcz19_0
          try clear hcz19_1
          try clear hcz20_0
          try clear hcz20_1
          try clear hcz42_0
          try clear hcz42_1
          try clear hcz51_0
          try clear hcz51_1
          try clear hcz53_0
          try clear hcz53_1
          try clear hcz56_0
          try clear hcz56_1
          try clear hcz58_0
          try clear hcz58_1
          try clear hcz61_0
          try clear hcz61_1
          try clear hcz66_0
          try clear hcz66_1
          try clear hfz19_0
          try clear hfz19_1
          try clear hfz20_0
          try clear hfz20_1
          try clear hfz42_0
          try clear hfz42_1
          try clear hfz51_0
          try clear hfz51_1
          try clear hfz53_0
          try clear hfz53_1
          try clear hfz56_0
          try clear hfz56_1
          try clear hfz58_0
          try clear hfz58_1
          try clear hfz61_0
          try clear hfz61_1
          try clear hfz66_0
          try clear hfz66_1
          try clear p2
          obtain ⟨kq, x73_36, rfl, HA, HJ36, BK271, BK272, BK286, HB⟩ := hcut
          cases kq with
          | zero => exact absurd HA.out (by simp [graftwoodlaw05_NodeTells.j1])
          | succ kj36 =>
            have H := HA.out
            clear HA
            simp only [graftwoodlaw05_NodeTells.j1] at H
            by_cases c67 : x73_36 = true
            · subst c67
              have H1 : (some false) = some r := by rw [if_pos rfl] at H; exact H
              clear H
              have H := H1
              clear H1
              obtain rfl := Option.some.inj H
              go_wp2
              go_ret
              exact ⟨by first | rfl | (simp [errW_none, errW_some] <;> rfl) | (simp [*, errW_none, errW_some] <;> rfl), by repeat (first | (with_reducible first | exact HB.out | apply below_alloc | apply pw_below_drewN | apply below_drew1 | refine below_set ?_ GE271.out | refine below_set ?_ GE272.out | refine below_set ?_ GE286.out) | exact HB.out)⟩
            · replace c67 := Bool.eq_false_iff.mpr c67
              subst c67
              have H1 : ((graftwoodref05_May.f kj36 t273 t274).bind fun t288 => (if t288 = true then ((graftwoodref05_May.f kj36 t275 t276).bind fun t289 => (graftwoodlaw05_NodeTells.j2 kj36 t278 t279 (!t289) t273 t274 t275 t276)) else (graftwoodlaw05_NodeTells.j2 kj36 t278 t279 true t273 t274 t275 t276))) = some r := by rw [if_neg (show ¬ (false = true) by decide)] at H; exact H
              clear H
              have H := H1
              clear H1
              have HC68 := Aside0.mk H
              clear H
              go_upto_region 8 with (fail)
              go_cut [81] (fun v81 wc => ∃ (kq : Nat) (x81_67 : Bool), v81 = .bool x81_67 ∧ Aside0 (graftwoodlaw05_NodeTells.j2 kq t278 t279 x81_67 t273 t274 t275 t276 = some r) ∧ Aside0 (kq ≤ kj36) ∧ Aside0 (wc.heap[gb271]? = some (.cells #[.string t273, .string t274] 23 (0, 0))) ∧ Aside0 (wc.heap[gb272]? = some (.cells #[.string t275, .string t276] 23 (0, 0))) ∧ Aside0 (wc.heap[gb286]? = some (.cells #[.string t283, .string t284] 23 (0, 0))) ∧ Aside0 (Below w.heap.size w wc))
              case first =>
                have H := HC68.out
                clear HC68
                replace H := Option.bind_eq_some_iff.mp H
                obtain ⟨t288, A690, H⟩ := H
                replace H : (if t288 = true then ((graftwoodref05_May.f kj36 t275 t276).bind fun t289 => (graftwoodlaw05_NodeTells.j2 kj36 t278 t279 (!t289) t273 t274 t275 t276)) else (graftwoodlaw05_NodeTells.j2 kj36 t278 t279 true t273 t274 t275 t276)) = some r := H
                have A69 := Aside0.mk A690
                clear A690
                by_cases c70 : t288 = true
                · subst c70
                  have H1 : ((graftwoodref05_May.f kj36 t275 t276).bind fun t289 => (graftwoodlaw05_NodeTells.j2 kj36 t278 t279 (!t289) t273 t274 t275 t276)) = some r := by rw [if_pos rfl] at H; exact H
                  clear H
                  have H := H1
                  clear H1
                  replace H := Option.bind_eq_some_iff.mp H
                  obtain ⟨t289, A710, H⟩ := H
                  replace H : (graftwoodlaw05_NodeTells.j2 kj36 t278 t279 (!t289) t273 t274 t275 t276) = some r := H
                  have A71 := Aside0.mk A710
                  clear A710
                  have H' := Aside0.mk H
                  clear H
                  have hnb72 := NB271_272.out
                  have hnc72 := NB272_271.out
                  have hnb73 := NB271_286.out
                  have hnc73 := NB286_271.out
                  have hcz74_0 : wc.cell? ⟨gb271, 0, none⟩ = some (.string t273) := (blk_cell BK271.out 0).trans rfl
                  have hcz74_1 : wc.cell? ⟨gb271, 1, none⟩ = some (.string t274) := (blk_cell BK271.out 1).trans rfl
                  have hfz74_0 := blk_frozen BK271.out 0
                  have hfz74_1 := blk_frozen BK271.out 1
                  go_wp2_with (first | ((with_reducible refine gate_callee (f := 13) rfl ?_); refine goesL_ (some 75) rfl rfl Tryd.func13 (by kernel_rfl) rfl #[.agg #[.string t273, .string t274]] rfl (by (try simp only [List.map_toArray, List.map_cons, List.map_nil]); first | done | rfl | (simp only [List.length_drop, List.length_take]; rfl)) ?_; (with_reducible refine (graftwoodref05_May.calls kj36 t273 t274 true _ A69.out).mono ?_); rintro e w75 ⟨rfl, hb⟩; refine ⟨_, rfl, ?_⟩; have n0_ := Aside0.mk (blk_below (g := gb271) (o := .cells #[.string t273, .string t274] 23 (0, 0)) (by (with_reducible repeat (first | refine blk_drewN ?_ _ | refine blk_drew ?_ | refine blk_alloc ?_ _)); exact BK271.out) hb); have n1_ := Aside0.mk (blk_below (g := gb272) (o := .cells #[.string t275, .string t276] 23 (0, 0)) (by (with_reducible repeat (first | refine blk_drewN ?_ _ | refine blk_drew ?_ | refine blk_alloc ?_ _)); exact BK272.out) hb); have n2_ := Aside0.mk (blk_below (g := gb286) (o := .cells #[.string t283, .string t284] 23 (0, 0)) (by (with_reducible repeat (first | refine blk_drewN ?_ _ | refine blk_drew ?_ | refine blk_alloc ?_ _)); exact BK286.out) hb); have n3_ := Aside0.mk (below_step (by repeat (first | (with_reducible first | exact HB.out | apply below_alloc | apply pw_below_drewN | apply below_drew1 | refine below_set ?_ GE271.out | refine below_set ?_ GE272.out | refine below_set ?_ GE286.out) | exact HB.out)) hb); clear BK271; clear BK272; clear BK286; clear HB; have BK271 := n0_; have BK272 := n1_; have BK286 := n2_; have HB := n3_; clear n0_ n1_ n2_ n3_; (try clear hb); (try clear hb2); (try clear hk); (try clear hi); have hnb76 := NB272_286.out; have hnc76 := NB286_272.out; have hcz77_0 : w75.cell? ⟨gb272, 0, none⟩ = some (.string t275) := (blk_cell BK272.out 0).trans rfl; have hcz77_1 : w75.cell? ⟨gb272, 1, none⟩ = some (.string t276) := (blk_cell BK272.out 1).trans rfl; have hfz77_0 := blk_frozen BK272.out 0; have hfz77_1 := blk_frozen BK272.out 1) | (go_at_call 13; (with_reducible refine (graftwoodref05_May.calls kj36 t275 t276 t289 _ A71.out).mono ?_); rintro e w78 ⟨rfl, hb⟩; have n0_ := Aside0.mk (blk_below (g := gb271) (o := .cells #[.string t273, .string t274] 23 (0, 0)) (by (with_reducible repeat (first | refine blk_drewN ?_ _ | refine blk_drew ?_ | refine blk_alloc ?_ _)); exact BK271.out) hb); have n1_ := Aside0.mk (blk_below (g := gb272) (o := .cells #[.string t275, .string t276] 23 (0, 0)) (by (with_reducible repeat (first | refine blk_drewN ?_ _ | refine blk_drew ?_ | refine blk_alloc ?_ _)); exact BK272.out) hb); have n2_ := Aside0.mk (blk_below (g := gb286) (o := .cells #[.string t283, .string t284] 23 (0, 0)) (by (with_reducible repeat (first | refine blk_drewN ?_ _ | refine blk_drew ?_ | refine blk_alloc ?_ _)); exact BK286.out) hb); have n3_ := Aside0.mk (below_step (by repeat (first | (with_reducible first | exact HB.out | apply below_alloc | apply pw_below_drewN | apply below_drew1 | refine below_set ?_ GE271.out | refine below_set ?_ GE272.out | refine below_set ?_ GE286.out) | exact HB.out)) hb); clear BK271; clear BK272; clear BK286; clear HB; have BK271 := n0_; have BK272 := n1_; have BK286 := n2_; have HB := n3_; clear n0_ n1_ n2_ n3_; (try clear hb); (try clear hb2); (try clear hk); (try clear hi)))
                  go_meet
                  case rel => exact ⟨_, (!t289), (by first | rfl | (simp; done) | (simp [*]; done)), H', ⟨by have := HJ7.out; have := HJ36.out; first | omega | exact Nat.le_refl _⟩, ⟨by (with_reducible repeat (first | refine blk_drewN ?_ _ | refine blk_drew ?_ | refine blk_alloc ?_ _)); exact BK271.out⟩, ⟨by (with_reducible repeat (first | refine blk_drewN ?_ _ | refine blk_drew ?_ | refine blk_alloc ?_ _)); exact BK272.out⟩, ⟨by (with_reducible repeat (first | refine blk_drewN ?_ _ | refine blk_drew ?_ | refine blk_alloc ?_ _)); exact BK286.out⟩, ⟨by repeat (first | (with_reducible first | exact HB.out | apply below_alloc | apply pw_below_drewN | apply below_drew1 | refine below_set ?_ GE271.out | refine below_set ?_ GE272.out | refine below_set ?_ GE286.out) | exact HB.out)⟩⟩
                · replace c70 := Bool.eq_false_iff.mpr c70
                  subst c70
                  have H1 : (graftwoodlaw05_NodeTells.j2 kj36 t278 t279 true t273 t274 t275 t276) = some r := by rw [if_neg (show ¬ (false = true) by decide)] at H; exact H
                  clear H
                  have H := H1
                  clear H1
                  have H' := Aside0.mk H
                  clear H
                  have hnb79 := NB271_272.out
                  have hnc79 := NB272_271.out
                  have hnb80 := NB271_286.out
                  have hnc80 := NB286_271.out
                  have hcz81_0 : wc.cell? ⟨gb271, 0, none⟩ = some (.string t273) := (blk_cell BK271.out 0).trans rfl
                  have hcz81_1 : wc.cell? ⟨gb271, 1, none⟩ = some (.string t274) := (blk_cell BK271.out 1).trans rfl
                  have hfz81_0 := blk_frozen BK271.out 0
                  have hfz81_1 := blk_frozen BK271.out 1
                  go_wp2_with (first | ((with_reducible refine gate_callee (f := 13) rfl ?_); refine goesL_ (some 75) rfl rfl Tryd.func13 (by kernel_rfl) rfl #[.agg #[.string t273, .string t274]] rfl (by (try simp only [List.map_toArray, List.map_cons, List.map_nil]); first | done | rfl | (simp only [List.length_drop, List.length_take]; rfl)) ?_; (with_reducible refine (graftwoodref05_May.calls kj36 t273 t274 false _ A69.out).mono ?_); rintro e w82 ⟨rfl, hb⟩; refine ⟨_, rfl, ?_⟩; have n0_ := Aside0.mk (blk_below (g := gb271) (o := .cells #[.string t273, .string t274] 23 (0, 0)) (by (with_reducible repeat (first | refine blk_drewN ?_ _ | refine blk_drew ?_ | refine blk_alloc ?_ _)); exact BK271.out) hb); have n1_ := Aside0.mk (blk_below (g := gb272) (o := .cells #[.string t275, .string t276] 23 (0, 0)) (by (with_reducible repeat (first | refine blk_drewN ?_ _ | refine blk_drew ?_ | refine blk_alloc ?_ _)); exact BK272.out) hb); have n2_ := Aside0.mk (blk_below (g := gb286) (o := .cells #[.string t283, .string t284] 23 (0, 0)) (by (with_reducible repeat (first | refine blk_drewN ?_ _ | refine blk_drew ?_ | refine blk_alloc ?_ _)); exact BK286.out) hb); have n3_ := Aside0.mk (below_step (by repeat (first | (with_reducible first | exact HB.out | apply below_alloc | apply pw_below_drewN | apply below_drew1 | refine below_set ?_ GE271.out | refine below_set ?_ GE272.out | refine below_set ?_ GE286.out) | exact HB.out)) hb); clear BK271; clear BK272; clear BK286; clear HB; have BK271 := n0_; have BK272 := n1_; have BK286 := n2_; have HB := n3_; clear n0_ n1_ n2_ n3_; (try clear hb); (try clear hb2); (try clear hk); (try clear hi)))
                  go_meet
                  case rel => exact ⟨_, (true), (by first | rfl | (simp; done) | (simp [*]; done)), H', ⟨by have := HJ7.out; have := HJ36.out; first | omega | exact Nat.le_refl _⟩, ⟨by (with_reducible repeat (first | refine blk_drewN ?_ _ | refine blk_drew ?_ | refine blk_alloc ?_ _)); exact BK271.out⟩, ⟨by (with_reducible repeat (first | refine blk_drewN ?_ _ | refine blk_drew ?_ | refine blk_alloc ?_ _)); exact BK272.out⟩, ⟨by (with_reducible repeat (first | refine blk_drewN ?_ _ | refine blk_drew ?_ | refine blk_alloc ?_ _)); exact BK286.out⟩, ⟨by repeat (first | (with_reducible first | exact HB.out | apply below_alloc | apply pw_below_drewN | apply below_drew1 | refine below_set ?_ GE271.out | refine below_set ?_ GE272.out | refine below_set ?_ GE286.out) | exact HB.out)⟩⟩
              case rest =>
                clear HC68
                try clear c1
                try clear c2
                try clear p2
                try clear c3
                try clear c4
                try clear c5
                try clear c6
                try clear c7
                try clear c8
                try clear c9
                try clear c10
                try clear c12
                try clear c13
                try clear c14
                try clear c15
                try clear c18
                try clear c24
                try clear c24b0
                try clear c24b1
                try clear c24b2
                try clear c29
                try clear c29b0
                try clear c29b1
                try clear c29b2
                try clear c30
                try clear c30b0
                try clear c30b1
                try clear c30b2
                try clear c35
                try clear c40
                try clear c41
                try clear c43
                try clear c43b0
                try clear c43b1
                try clear c45
                try clear c46
                try clear c46b0
                try clear c46b1
                try clear c46b2
                try clear c47
                try clear c47b0
                try clear c47b1
                try clear c47b2
                try clear c48
                try clear c48b0
                try clear c48b1
                try clear c49
                try clear c50
                try clear c54
                try clear c55
                try clear c59
                try clear c60
                try clear c63
                try clear c63b0
                try clear c63b1
                try clear c64
                try clear c65
                try clear c67
                try clear c70
                try clear c72
                try clear c73
                try clear c76
                try clear c79
                try clear c80
                try clear hcz19_0
                try clear hcz19_1
                try clear hcz20_0
                try clear hcz20_1
                try clear hcz42_0
                try clear hcz42_1
                try clear hcz51_0
                try clear hcz51_1
                try clear hcz53_0
                try clear hcz53_1
                try clear hcz56_0
                try clear hcz56_1
                try clear hcz58_0
                try clear hcz58_1
                try clear hcz61_0
                try clear hcz61_1
                try clear hcz66_0
                try clear hcz66_1
                try clear hcz74_0
                try clear hcz74_1
                try clear hcz77_0
                try clear hcz77_1
                try clear hcz81_0
                try clear hcz81_1
                try clear hfz19_0
                try clear hfz19_1
                try clear hfz20_0
                try clear hfz20_1
                try clear hfz42_0
                try clear hfz42_1
                try clear hfz51_0
                try clear hfz51_1
                try clear hfz53_0
                try clear hfz53_1
                try clear hfz56_0
                try clear hfz56_1
                try clear hfz58_0
                try clear hfz58_1
                try clear hfz61_0
                try clear hfz61_1
                try clear hfz66_0
                try clear hfz66_1
                try clear hfz74_0
                try clear hfz74_1
                try clear hfz77_0
                try clear hfz77_1
                try clear hfz81_0
                try clear hfz81_1
                try clear p2
                obtain ⟨kq, x81_67, rfl, HA, HJ67, BK271, BK272, BK286, HB⟩ := hcut
                cases kq with
                | zero => exact absurd HA.out (by simp [graftwoodlaw05_NodeTells.j2])
                | succ kj67 =>
                  have H := HA.out
                  clear HA
                  simp only [graftwoodlaw05_NodeTells.j2] at H
                  by_cases c83 : x81_67 = true
                  · subst c83
                    have H1 : (if t278 = 0 then (if t279 = 1 then ((graftwoodlaw05_awake.f kj67).bind fun t290 => (some t290)) else (some false)) else (some false)) = some r := by rw [if_pos rfl] at H; exact H
                    clear H
                    have H := H1
                    clear H1
                    by_cases c84 : t278 = 0
                    · rw [if_pos c84] at H
                      have c84b0 : (t278 == 0) = true := beq_iff_eq.mpr c84
                      have c84b1 : (t278 != 0) = false := bne_eq_false_iff_eq.mpr c84
                      clear c84
                      by_cases c85 : t279 = 1
                      · rw [if_pos c85] at H
                        have c85b0 : (t279 == 1) = true := beq_iff_eq.mpr c85
                        have c85b1 : (t279 != 1) = false := bne_eq_false_iff_eq.mpr c85
                        clear c85
                        replace H := Option.bind_eq_some_iff.mp H
                        obtain ⟨t290, A860, H⟩ := H
                        replace H : (some t290) = some r := H
                        have A86 := Aside0.mk A860
                        clear A860
                        obtain rfl := Option.some.inj H
                        go_wp2_with (first | (go_at_call 11; (with_reducible refine (graftwoodlaw05_awake.calls kj67  t290 _ A86.out).mono ?_); rintro e w87 ⟨rfl, hb⟩; have n0_ := Aside0.mk (blk_below (g := gb271) (o := .cells #[.string t273, .string t274] 23 (0, 0)) (by (with_reducible repeat (first | refine blk_drewN ?_ _ | refine blk_drew ?_ | refine blk_alloc ?_ _)); exact BK271.out) hb); have n1_ := Aside0.mk (blk_below (g := gb272) (o := .cells #[.string t275, .string t276] 23 (0, 0)) (by (with_reducible repeat (first | refine blk_drewN ?_ _ | refine blk_drew ?_ | refine blk_alloc ?_ _)); exact BK272.out) hb); have n2_ := Aside0.mk (blk_below (g := gb286) (o := .cells #[.string t283, .string t284] 23 (0, 0)) (by (with_reducible repeat (first | refine blk_drewN ?_ _ | refine blk_drew ?_ | refine blk_alloc ?_ _)); exact BK286.out) hb); have n3_ := Aside0.mk (below_step (by repeat (first | (with_reducible first | exact HB.out | apply below_alloc | apply pw_below_drewN | apply below_drew1 | refine below_set ?_ GE271.out | refine below_set ?_ GE272.out | refine below_set ?_ GE286.out) | exact HB.out)) hb); clear BK271; clear BK272; clear BK286; clear HB; have BK271 := n0_; have BK272 := n1_; have BK286 := n2_; have HB := n3_; clear n0_ n1_ n2_ n3_; (try clear hb); (try clear hb2); (try clear hk); (try clear hi)))
                        go_ret
                        exact ⟨by first | rfl | (simp [errW_none, errW_some] <;> rfl) | (simp [*, errW_none, errW_some] <;> rfl), by repeat (first | (with_reducible first | exact HB.out | apply below_alloc | apply pw_below_drewN | apply below_drew1 | refine below_set ?_ GE271.out | refine below_set ?_ GE272.out | refine below_set ?_ GE286.out) | exact HB.out)⟩
                      · rw [if_neg c85] at H
                        have c85b0 : (t279 == 1) = false := beq_eq_false_iff_ne.mpr c85
                        have c85b1 : (t279 != 1) = true := bne_iff_ne.mpr c85
                        obtain rfl := Option.some.inj H
                        go_wp2
                        go_ret
                        exact ⟨by first | rfl | (simp [errW_none, errW_some] <;> rfl) | (simp [*, errW_none, errW_some] <;> rfl), by repeat (first | (with_reducible first | exact HB.out | apply below_alloc | apply pw_below_drewN | apply below_drew1 | refine below_set ?_ GE271.out | refine below_set ?_ GE272.out | refine below_set ?_ GE286.out) | exact HB.out)⟩
                    · rw [if_neg c84] at H
                      have c84b0 : (t278 == 0) = false := beq_eq_false_iff_ne.mpr c84
                      have c84b1 : (t278 != 0) = true := bne_iff_ne.mpr c84
                      obtain rfl := Option.some.inj H
                      go_wp2
                      go_ret
                      exact ⟨by first | rfl | (simp [errW_none, errW_some] <;> rfl) | (simp [*, errW_none, errW_some] <;> rfl), by repeat (first | (with_reducible first | exact HB.out | apply below_alloc | apply pw_below_drewN | apply below_drew1 | refine below_set ?_ GE271.out | refine below_set ?_ GE272.out | refine below_set ?_ GE286.out) | exact HB.out)⟩
                  · replace c83 := Bool.eq_false_iff.mpr c83
                    subst c83
                    have H1 : (if t279 = 0 then ((graftwoodref05_Less.f kj67 t273 t274 t275 t276).bind fun t291 => (if ((decide (t278 < 0)) == t291) = true then ((graftwoodref05_Less.f kj67 t275 t276 t273 t274).bind fun t292 => (if ((decide (t278 > 0)) == t292) = true then (if t278 ≥ (-1) then (if t278 ≤ 1 then ((graftwoodlaw05_awake.f kj67).bind fun t293 => (some t293)) else (some false)) else (some false)) else (some false))) else (some false))) else (some false)) = some r := by rw [if_neg (show ¬ (false = true) by decide)] at H; exact H
                    clear H
                    have H := H1
                    clear H1
                    by_cases c88 : t279 = 0
                    · rw [if_pos c88] at H
                      have c88b0 : (t279 == 0) = true := beq_iff_eq.mpr c88
                      have c88b1 : (t279 != 0) = false := bne_eq_false_iff_eq.mpr c88
                      clear c88
                      replace H := Option.bind_eq_some_iff.mp H
                      obtain ⟨t291, A890, H⟩ := H
                      replace H : (if ((decide (t278 < 0)) == t291) = true then ((graftwoodref05_Less.f kj67 t275 t276 t273 t274).bind fun t292 => (if ((decide (t278 > 0)) == t292) = true then (if t278 ≥ (-1) then (if t278 ≤ 1 then ((graftwoodlaw05_awake.f kj67).bind fun t293 => (some t293)) else (some false)) else (some false)) else (some false))) else (some false)) = some r := H
                      have A89 := Aside0.mk A890
                      clear A890
                      by_cases c90 : ((decide (t278 < 0)) == t291) = true
                      · rw [if_pos c90] at H
                        have c90b0 : ((decide (t278 < 0)) == t291) = true := c90
                        (try (have c90b1 : decide ((decide (t278 < 0)) = t291) = true := by simpa using c90))
                        (try (have c90b2 : ((decide (t278 < 0)) == t291) = true := by simpa using c90))
                        clear c90
                        replace H := Option.bind_eq_some_iff.mp H
                        obtain ⟨t292, A910, H⟩ := H
                        replace H : (if ((decide (t278 > 0)) == t292) = true then (if t278 ≥ (-1) then (if t278 ≤ 1 then ((graftwoodlaw05_awake.f kj67).bind fun t293 => (some t293)) else (some false)) else (some false)) else (some false)) = some r := H
                        have A91 := Aside0.mk A910
                        clear A910
                        by_cases c92 : ((decide (t278 > 0)) == t292) = true
                        · rw [if_pos c92] at H
                          have c92b0 : ((decide (t278 > 0)) == t292) = true := c92
                          (try (have c92b1 : decide ((decide (t278 > 0)) = t292) = true := by simpa using c92))
                          (try (have c92b2 : ((decide (t278 > 0)) == t292) = true := by simpa using c92))
                          clear c92
                          by_cases c93 : t278 ≥ (-1)
                          · rw [if_pos c93] at H
                            have c93b0 : decide ((-1) ≤ t278) = true := decide_eq_true c93
                            clear c93
                            by_cases c94 : t278 ≤ 1
                            · rw [if_pos c94] at H
                              have c94b0 : decide (t278 ≤ 1) = true := decide_eq_true c94
                              clear c94
                              replace H := Option.bind_eq_some_iff.mp H
                              obtain ⟨t293, A950, H⟩ := H
                              replace H : (some t293) = some r := H
                              have A95 := Aside0.mk A950
                              clear A950
                              obtain rfl := Option.some.inj H
                              have hnb96 := NB271_272.out
                              have hnc96 := NB272_271.out
                              have hnb97 := NB271_286.out
                              have hnc97 := NB286_271.out
                              have hcz98_0 : wc.cell? ⟨gb271, 0, none⟩ = some (.string t273) := (blk_cell BK271.out 0).trans rfl
                              have hcz98_1 : wc.cell? ⟨gb271, 1, none⟩ = some (.string t274) := (blk_cell BK271.out 1).trans rfl
                              have hfz98_0 := blk_frozen BK271.out 0
                              have hfz98_1 := blk_frozen BK271.out 1
                              have hnb99 := NB272_286.out
                              have hnc99 := NB286_272.out
                              have hcz100_0 : wc.cell? ⟨gb272, 0, none⟩ = some (.string t275) := (blk_cell BK272.out 0).trans rfl
                              have hcz100_1 : wc.cell? ⟨gb272, 1, none⟩ = some (.string t276) := (blk_cell BK272.out 1).trans rfl
                              have hfz100_0 := blk_frozen BK272.out 0
                              have hfz100_1 := blk_frozen BK272.out 1
                              go_wp2_with (first | (go_at_call 16; (with_reducible refine (graftwoodref05_Less.calls kj67 t273 t274 t275 t276 t291 _ A89.out).mono ?_); rintro e w101 ⟨rfl, hb⟩; have n0_ := Aside0.mk (blk_below (g := gb271) (o := .cells #[.string t273, .string t274] 23 (0, 0)) (by (with_reducible repeat (first | refine blk_drewN ?_ _ | refine blk_drew ?_ | refine blk_alloc ?_ _)); exact BK271.out) hb); have n1_ := Aside0.mk (blk_below (g := gb272) (o := .cells #[.string t275, .string t276] 23 (0, 0)) (by (with_reducible repeat (first | refine blk_drewN ?_ _ | refine blk_drew ?_ | refine blk_alloc ?_ _)); exact BK272.out) hb); have n2_ := Aside0.mk (blk_below (g := gb286) (o := .cells #[.string t283, .string t284] 23 (0, 0)) (by (with_reducible repeat (first | refine blk_drewN ?_ _ | refine blk_drew ?_ | refine blk_alloc ?_ _)); exact BK286.out) hb); have n3_ := Aside0.mk (below_step (by repeat (first | (with_reducible first | exact HB.out | apply below_alloc | apply pw_below_drewN | apply below_drew1 | refine below_set ?_ GE271.out | refine below_set ?_ GE272.out | refine below_set ?_ GE286.out) | exact HB.out)) hb); clear BK271; clear BK272; clear BK286; clear HB; have BK271 := n0_; have BK272 := n1_; have BK286 := n2_; have HB := n3_; clear n0_ n1_ n2_ n3_; (try clear hb); (try clear hb2); (try clear hk); (try clear hi); have hcz102_0 : w101.cell? ⟨gb272, 0, none⟩ = some (.string t275) := (blk_cell BK272.out 0).trans rfl; have hcz102_1 : w101.cell? ⟨gb272, 1, none⟩ = some (.string t276) := (blk_cell BK272.out 1).trans rfl; have hfz102_0 := blk_frozen BK272.out 0; have hfz102_1 := blk_frozen BK272.out 1; have hcz103_0 : w101.cell? ⟨gb271, 0, none⟩ = some (.string t273) := (blk_cell BK271.out 0).trans rfl; have hcz103_1 : w101.cell? ⟨gb271, 1, none⟩ = some (.string t274) := (blk_cell BK271.out 1).trans rfl; have hfz103_0 := blk_frozen BK271.out 0; have hfz103_1 := blk_frozen BK271.out 1) | (go_at_call 16; (with_reducible refine (graftwoodref05_Less.calls kj67 t275 t276 t273 t274 t292 _ A91.out).mono ?_); rintro e w104 ⟨rfl, hb⟩; have n0_ := Aside0.mk (blk_below (g := gb271) (o := .cells #[.string t273, .string t274] 23 (0, 0)) (by (with_reducible repeat (first | refine blk_drewN ?_ _ | refine blk_drew ?_ | refine blk_alloc ?_ _)); exact BK271.out) hb); have n1_ := Aside0.mk (blk_below (g := gb272) (o := .cells #[.string t275, .string t276] 23 (0, 0)) (by (with_reducible repeat (first | refine blk_drewN ?_ _ | refine blk_drew ?_ | refine blk_alloc ?_ _)); exact BK272.out) hb); have n2_ := Aside0.mk (blk_below (g := gb286) (o := .cells #[.string t283, .string t284] 23 (0, 0)) (by (with_reducible repeat (first | refine blk_drewN ?_ _ | refine blk_drew ?_ | refine blk_alloc ?_ _)); exact BK286.out) hb); have n3_ := Aside0.mk (below_step (by repeat (first | (with_reducible first | exact HB.out | apply below_alloc | apply pw_below_drewN | apply below_drew1 | refine below_set ?_ GE271.out | refine below_set ?_ GE272.out | refine below_set ?_ GE286.out) | exact HB.out)) hb); clear BK271; clear BK272; clear BK286; clear HB; have BK271 := n0_; have BK272 := n1_; have BK286 := n2_; have HB := n3_; clear n0_ n1_ n2_ n3_; (try clear hb); (try clear hb2); (try clear hk); (try clear hi)) | (go_at_call 11; (with_reducible refine (graftwoodlaw05_awake.calls kj67  t293 _ A95.out).mono ?_); rintro e w105 ⟨rfl, hb⟩; have n0_ := Aside0.mk (blk_below (g := gb271) (o := .cells #[.string t273, .string t274] 23 (0, 0)) (by (with_reducible repeat (first | refine blk_drewN ?_ _ | refine blk_drew ?_ | refine blk_alloc ?_ _)); exact BK271.out) hb); have n1_ := Aside0.mk (blk_below (g := gb272) (o := .cells #[.string t275, .string t276] 23 (0, 0)) (by (with_reducible repeat (first | refine blk_drewN ?_ _ | refine blk_drew ?_ | refine blk_alloc ?_ _)); exact BK272.out) hb); have n2_ := Aside0.mk (blk_below (g := gb286) (o := .cells #[.string t283, .string t284] 23 (0, 0)) (by (with_reducible repeat (first | refine blk_drewN ?_ _ | refine blk_drew ?_ | refine blk_alloc ?_ _)); exact BK286.out) hb); have n3_ := Aside0.mk (below_step (by repeat (first | (with_reducible first | exact HB.out | apply below_alloc | apply pw_below_drewN | apply below_drew1 | refine below_set ?_ GE271.out | refine below_set ?_ GE272.out | refine below_set ?_ GE286.out) | exact HB.out)) hb); clear BK271; clear BK272; clear BK286; clear HB; have BK271 := n0_; have BK272 := n1_; have BK286 := n2_; have HB := n3_; clear n0_ n1_ n2_ n3_; (try clear hb); (try clear hb2); (try clear hk); (try clear hi)))
                              go_ret
                              exact ⟨by first | rfl | (simp [errW_none, errW_some] <;> rfl) | (simp [*, errW_none, errW_some] <;> rfl), by repeat (first | (with_reducible first | exact HB.out | apply below_alloc | apply pw_below_drewN | apply below_drew1 | refine below_set ?_ GE271.out | refine below_set ?_ GE272.out | refine below_set ?_ GE286.out) | exact HB.out)⟩
                            · rw [if_neg c94] at H
                              have c94b0 : decide (t278 ≤ 1) = false := decide_eq_false c94
                              clear c94
                              obtain rfl := Option.some.inj H
                              have hnb106 := NB271_272.out
                              have hnc106 := NB272_271.out
                              have hnb107 := NB271_286.out
                              have hnc107 := NB286_271.out
                              have hcz108_0 : wc.cell? ⟨gb271, 0, none⟩ = some (.string t273) := (blk_cell BK271.out 0).trans rfl
                              have hcz108_1 : wc.cell? ⟨gb271, 1, none⟩ = some (.string t274) := (blk_cell BK271.out 1).trans rfl
                              have hfz108_0 := blk_frozen BK271.out 0
                              have hfz108_1 := blk_frozen BK271.out 1
                              have hnb109 := NB272_286.out
                              have hnc109 := NB286_272.out
                              have hcz110_0 : wc.cell? ⟨gb272, 0, none⟩ = some (.string t275) := (blk_cell BK272.out 0).trans rfl
                              have hcz110_1 : wc.cell? ⟨gb272, 1, none⟩ = some (.string t276) := (blk_cell BK272.out 1).trans rfl
                              have hfz110_0 := blk_frozen BK272.out 0
                              have hfz110_1 := blk_frozen BK272.out 1
                              go_wp2_with (first | (go_at_call 16; (with_reducible refine (graftwoodref05_Less.calls kj67 t273 t274 t275 t276 t291 _ A89.out).mono ?_); rintro e w111 ⟨rfl, hb⟩; have n0_ := Aside0.mk (blk_below (g := gb271) (o := .cells #[.string t273, .string t274] 23 (0, 0)) (by (with_reducible repeat (first | refine blk_drewN ?_ _ | refine blk_drew ?_ | refine blk_alloc ?_ _)); exact BK271.out) hb); have n1_ := Aside0.mk (blk_below (g := gb272) (o := .cells #[.string t275, .string t276] 23 (0, 0)) (by (with_reducible repeat (first | refine blk_drewN ?_ _ | refine blk_drew ?_ | refine blk_alloc ?_ _)); exact BK272.out) hb); have n2_ := Aside0.mk (blk_below (g := gb286) (o := .cells #[.string t283, .string t284] 23 (0, 0)) (by (with_reducible repeat (first | refine blk_drewN ?_ _ | refine blk_drew ?_ | refine blk_alloc ?_ _)); exact BK286.out) hb); have n3_ := Aside0.mk (below_step (by repeat (first | (with_reducible first | exact HB.out | apply below_alloc | apply pw_below_drewN | apply below_drew1 | refine below_set ?_ GE271.out | refine below_set ?_ GE272.out | refine below_set ?_ GE286.out) | exact HB.out)) hb); clear BK271; clear BK272; clear BK286; clear HB; have BK271 := n0_; have BK272 := n1_; have BK286 := n2_; have HB := n3_; clear n0_ n1_ n2_ n3_; (try clear hb); (try clear hb2); (try clear hk); (try clear hi); have hcz112_0 : w111.cell? ⟨gb272, 0, none⟩ = some (.string t275) := (blk_cell BK272.out 0).trans rfl; have hcz112_1 : w111.cell? ⟨gb272, 1, none⟩ = some (.string t276) := (blk_cell BK272.out 1).trans rfl; have hfz112_0 := blk_frozen BK272.out 0; have hfz112_1 := blk_frozen BK272.out 1; have hcz113_0 : w111.cell? ⟨gb271, 0, none⟩ = some (.string t273) := (blk_cell BK271.out 0).trans rfl; have hcz113_1 : w111.cell? ⟨gb271, 1, none⟩ = some (.string t274) := (blk_cell BK271.out 1).trans rfl; have hfz113_0 := blk_frozen BK271.out 0; have hfz113_1 := blk_frozen BK271.out 1) | (go_at_call 16; (with_reducible refine (graftwoodref05_Less.calls kj67 t275 t276 t273 t274 t292 _ A91.out).mono ?_); rintro e w114 ⟨rfl, hb⟩; have n0_ := Aside0.mk (blk_below (g := gb271) (o := .cells #[.string t273, .string t274] 23 (0, 0)) (by (with_reducible repeat (first | refine blk_drewN ?_ _ | refine blk_drew ?_ | refine blk_alloc ?_ _)); exact BK271.out) hb); have n1_ := Aside0.mk (blk_below (g := gb272) (o := .cells #[.string t275, .string t276] 23 (0, 0)) (by (with_reducible repeat (first | refine blk_drewN ?_ _ | refine blk_drew ?_ | refine blk_alloc ?_ _)); exact BK272.out) hb); have n2_ := Aside0.mk (blk_below (g := gb286) (o := .cells #[.string t283, .string t284] 23 (0, 0)) (by (with_reducible repeat (first | refine blk_drewN ?_ _ | refine blk_drew ?_ | refine blk_alloc ?_ _)); exact BK286.out) hb); have n3_ := Aside0.mk (below_step (by repeat (first | (with_reducible first | exact HB.out | apply below_alloc | apply pw_below_drewN | apply below_drew1 | refine below_set ?_ GE271.out | refine below_set ?_ GE272.out | refine below_set ?_ GE286.out) | exact HB.out)) hb); clear BK271; clear BK272; clear BK286; clear HB; have BK271 := n0_; have BK272 := n1_; have BK286 := n2_; have HB := n3_; clear n0_ n1_ n2_ n3_; (try clear hb); (try clear hb2); (try clear hk); (try clear hi)))
                              go_ret
                              exact ⟨by first | rfl | (simp [errW_none, errW_some] <;> rfl) | (simp [*, errW_none, errW_some] <;> rfl), by repeat (first | (with_reducible first | exact HB.out | apply below_alloc | apply pw_below_drewN | apply below_drew1 | refine below_set ?_ GE271.out | refine below_set ?_ GE272.out | refine below_set ?_ GE286.out) | exact HB.out)⟩
                          · rw [if_neg c93] at H
                            have c93b0 : decide ((-1) ≤ t278) = false := decide_eq_false c93
                            clear c93
                            obtain rfl := Option.some.inj H
                            have hnb115 := NB271_272.out
                            have hnc115 := NB272_271.out
                            have hnb116 := NB271_286.out
                            have hnc116 := NB286_271.out
                            have hcz117_0 : wc.cell? ⟨gb271, 0, none⟩ = some (.string t273) := (blk_cell BK271.out 0).trans rfl
                            have hcz117_1 : wc.cell? ⟨gb271, 1, none⟩ = some (.string t274) := (blk_cell BK271.out 1).trans rfl
                            have hfz117_0 := blk_frozen BK271.out 0
                            have hfz117_1 := blk_frozen BK271.out 1
                            have hnb118 := NB272_286.out
                            have hnc118 := NB286_272.out
                            have hcz119_0 : wc.cell? ⟨gb272, 0, none⟩ = some (.string t275) := (blk_cell BK272.out 0).trans rfl
                            have hcz119_1 : wc.cell? ⟨gb272, 1, none⟩ = some (.string t276) := (blk_cell BK272.out 1).trans rfl
                            have hfz119_0 := blk_frozen BK272.out 0
                            have hfz119_1 := blk_frozen BK272.out 1
                            go_wp2_with (first | (go_at_call 16; (with_reducible refine (graftwoodref05_Less.calls kj67 t273 t274 t275 t276 t291 _ A89.out).mono ?_); rintro e w120 ⟨rfl, hb⟩; have n0_ := Aside0.mk (blk_below (g := gb271) (o := .cells #[.string t273, .string t274] 23 (0, 0)) (by (with_reducible repeat (first | refine blk_drewN ?_ _ | refine blk_drew ?_ | refine blk_alloc ?_ _)); exact BK271.out) hb); have n1_ := Aside0.mk (blk_below (g := gb272) (o := .cells #[.string t275, .string t276] 23 (0, 0)) (by (with_reducible repeat (first | refine blk_drewN ?_ _ | refine blk_drew ?_ | refine blk_alloc ?_ _)); exact BK272.out) hb); have n2_ := Aside0.mk (blk_below (g := gb286) (o := .cells #[.string t283, .string t284] 23 (0, 0)) (by (with_reducible repeat (first | refine blk_drewN ?_ _ | refine blk_drew ?_ | refine blk_alloc ?_ _)); exact BK286.out) hb); have n3_ := Aside0.mk (below_step (by repeat (first | (with_reducible first | exact HB.out | apply below_alloc | apply pw_below_drewN | apply below_drew1 | refine below_set ?_ GE271.out | refine below_set ?_ GE272.out | refine below_set ?_ GE286.out) | exact HB.out)) hb); clear BK271; clear BK272; clear BK286; clear HB; have BK271 := n0_; have BK272 := n1_; have BK286 := n2_; have HB := n3_; clear n0_ n1_ n2_ n3_; (try clear hb); (try clear hb2); (try clear hk); (try clear hi); have hcz121_0 : w120.cell? ⟨gb272, 0, none⟩ = some (.string t275) := (blk_cell BK272.out 0).trans rfl; have hcz121_1 : w120.cell? ⟨gb272, 1, none⟩ = some (.string t276) := (blk_cell BK272.out 1).trans rfl; have hfz121_0 := blk_frozen BK272.out 0; have hfz121_1 := blk_frozen BK272.out 1; have hcz122_0 : w120.cell? ⟨gb271, 0, none⟩ = some (.string t273) := (blk_cell BK271.out 0).trans rfl; have hcz122_1 : w120.cell? ⟨gb271, 1, none⟩ = some (.string t274) := (blk_cell BK271.out 1).trans rfl; have hfz122_0 := blk_frozen BK271.out 0; have hfz122_1 := blk_frozen BK271.out 1) | (go_at_call 16; (with_reducible refine (graftwoodref05_Less.calls kj67 t275 t276 t273 t274 t292 _ A91.out).mono ?_); rintro e w123 ⟨rfl, hb⟩; have n0_ := Aside0.mk (blk_below (g := gb271) (o := .cells #[.string t273, .string t274] 23 (0, 0)) (by (with_reducible repeat (first | refine blk_drewN ?_ _ | refine blk_drew ?_ | refine blk_alloc ?_ _)); exact BK271.out) hb); have n1_ := Aside0.mk (blk_below (g := gb272) (o := .cells #[.string t275, .string t276] 23 (0, 0)) (by (with_reducible repeat (first | refine blk_drewN ?_ _ | refine blk_drew ?_ | refine blk_alloc ?_ _)); exact BK272.out) hb); have n2_ := Aside0.mk (blk_below (g := gb286) (o := .cells #[.string t283, .string t284] 23 (0, 0)) (by (with_reducible repeat (first | refine blk_drewN ?_ _ | refine blk_drew ?_ | refine blk_alloc ?_ _)); exact BK286.out) hb); have n3_ := Aside0.mk (below_step (by repeat (first | (with_reducible first | exact HB.out | apply below_alloc | apply pw_below_drewN | apply below_drew1 | refine below_set ?_ GE271.out | refine below_set ?_ GE272.out | refine below_set ?_ GE286.out) | exact HB.out)) hb); clear BK271; clear BK272; clear BK286; clear HB; have BK271 := n0_; have BK272 := n1_; have BK286 := n2_; have HB := n3_; clear n0_ n1_ n2_ n3_; (try clear hb); (try clear hb2); (try clear hk); (try clear hi)))
                            go_ret
                            exact ⟨by first | rfl | (simp [errW_none, errW_some] <;> rfl) | (simp [*, errW_none, errW_some] <;> rfl), by repeat (first | (with_reducible first | exact HB.out | apply below_alloc | apply pw_below_drewN | apply below_drew1 | refine below_set ?_ GE271.out | refine below_set ?_ GE272.out | refine below_set ?_ GE286.out) | exact HB.out)⟩
                        · rw [if_neg c92] at H
                          have c92b0 : ((decide (t278 > 0)) == t292) = false := by simpa using c92
                          (try (have c92b1 : decide ((decide (t278 > 0)) = t292) = false := by simpa using c92))
                          (try (have c92b2 : ((decide (t278 > 0)) == t292) = false := by simpa using c92))
                          (try (have c92b3 : ¬ ((decide (t278 > 0)) = t292) := by simpa using c92))
                          clear c92
                          obtain rfl := Option.some.inj H
                          have hnb124 := NB271_272.out
                          have hnc124 := NB272_271.out
                          have hnb125 := NB271_286.out
                          have hnc125 := NB286_271.out
                          have hcz126_0 : wc.cell? ⟨gb271, 0, none⟩ = some (.string t273) := (blk_cell BK271.out 0).trans rfl
                          have hcz126_1 : wc.cell? ⟨gb271, 1, none⟩ = some (.string t274) := (blk_cell BK271.out 1).trans rfl
                          have hfz126_0 := blk_frozen BK271.out 0
                          have hfz126_1 := blk_frozen BK271.out 1
                          have hnb127 := NB272_286.out
                          have hnc127 := NB286_272.out
                          have hcz128_0 : wc.cell? ⟨gb272, 0, none⟩ = some (.string t275) := (blk_cell BK272.out 0).trans rfl
                          have hcz128_1 : wc.cell? ⟨gb272, 1, none⟩ = some (.string t276) := (blk_cell BK272.out 1).trans rfl
                          have hfz128_0 := blk_frozen BK272.out 0
                          have hfz128_1 := blk_frozen BK272.out 1
                          go_wp2_with (first | (go_at_call 16; (with_reducible refine (graftwoodref05_Less.calls kj67 t273 t274 t275 t276 t291 _ A89.out).mono ?_); rintro e w129 ⟨rfl, hb⟩; have n0_ := Aside0.mk (blk_below (g := gb271) (o := .cells #[.string t273, .string t274] 23 (0, 0)) (by (with_reducible repeat (first | refine blk_drewN ?_ _ | refine blk_drew ?_ | refine blk_alloc ?_ _)); exact BK271.out) hb); have n1_ := Aside0.mk (blk_below (g := gb272) (o := .cells #[.string t275, .string t276] 23 (0, 0)) (by (with_reducible repeat (first | refine blk_drewN ?_ _ | refine blk_drew ?_ | refine blk_alloc ?_ _)); exact BK272.out) hb); have n2_ := Aside0.mk (blk_below (g := gb286) (o := .cells #[.string t283, .string t284] 23 (0, 0)) (by (with_reducible repeat (first | refine blk_drewN ?_ _ | refine blk_drew ?_ | refine blk_alloc ?_ _)); exact BK286.out) hb); have n3_ := Aside0.mk (below_step (by repeat (first | (with_reducible first | exact HB.out | apply below_alloc | apply pw_below_drewN | apply below_drew1 | refine below_set ?_ GE271.out | refine below_set ?_ GE272.out | refine below_set ?_ GE286.out) | exact HB.out)) hb); clear BK271; clear BK272; clear BK286; clear HB; have BK271 := n0_; have BK272 := n1_; have BK286 := n2_; have HB := n3_; clear n0_ n1_ n2_ n3_; (try clear hb); (try clear hb2); (try clear hk); (try clear hi); have hcz130_0 : w129.cell? ⟨gb272, 0, none⟩ = some (.string t275) := (blk_cell BK272.out 0).trans rfl; have hcz130_1 : w129.cell? ⟨gb272, 1, none⟩ = some (.string t276) := (blk_cell BK272.out 1).trans rfl; have hfz130_0 := blk_frozen BK272.out 0; have hfz130_1 := blk_frozen BK272.out 1; have hcz131_0 : w129.cell? ⟨gb271, 0, none⟩ = some (.string t273) := (blk_cell BK271.out 0).trans rfl; have hcz131_1 : w129.cell? ⟨gb271, 1, none⟩ = some (.string t274) := (blk_cell BK271.out 1).trans rfl; have hfz131_0 := blk_frozen BK271.out 0; have hfz131_1 := blk_frozen BK271.out 1) | (go_at_call 16; (with_reducible refine (graftwoodref05_Less.calls kj67 t275 t276 t273 t274 t292 _ A91.out).mono ?_); rintro e w132 ⟨rfl, hb⟩; have n0_ := Aside0.mk (blk_below (g := gb271) (o := .cells #[.string t273, .string t274] 23 (0, 0)) (by (with_reducible repeat (first | refine blk_drewN ?_ _ | refine blk_drew ?_ | refine blk_alloc ?_ _)); exact BK271.out) hb); have n1_ := Aside0.mk (blk_below (g := gb272) (o := .cells #[.string t275, .string t276] 23 (0, 0)) (by (with_reducible repeat (first | refine blk_drewN ?_ _ | refine blk_drew ?_ | refine blk_alloc ?_ _)); exact BK272.out) hb); have n2_ := Aside0.mk (blk_below (g := gb286) (o := .cells #[.string t283, .string t284] 23 (0, 0)) (by (with_reducible repeat (first | refine blk_drewN ?_ _ | refine blk_drew ?_ | refine blk_alloc ?_ _)); exact BK286.out) hb); have n3_ := Aside0.mk (below_step (by repeat (first | (with_reducible first | exact HB.out | apply below_alloc | apply pw_below_drewN | apply below_drew1 | refine below_set ?_ GE271.out | refine below_set ?_ GE272.out | refine below_set ?_ GE286.out) | exact HB.out)) hb); clear BK271; clear BK272; clear BK286; clear HB; have BK271 := n0_; have BK272 := n1_; have BK286 := n2_; have HB := n3_; clear n0_ n1_ n2_ n3_; (try clear hb); (try clear hb2); (try clear hk); (try clear hi)))
                          go_ret
                          exact ⟨by first | rfl | (simp [errW_none, errW_some] <;> rfl) | (simp [*, errW_none, errW_some] <;> rfl), by repeat (first | (with_reducible first | exact HB.out | apply below_alloc | apply pw_below_drewN | apply below_drew1 | refine below_set ?_ GE271.out | refine below_set ?_ GE272.out | refine below_set ?_ GE286.out) | exact HB.out)⟩
                      · rw [if_neg c90] at H
                        have c90b0 : ((decide (t278 < 0)) == t291) = false := by simpa using c90
                        (try (have c90b1 : decide ((decide (t278 < 0)) = t291) = false := by simpa using c90))
                        (try (have c90b2 : ((decide (t278 < 0)) == t291) = false := by simpa using c90))
                        (try (have c90b3 : ¬ ((decide (t278 < 0)) = t291) := by simpa using c90))
                        clear c90
                        obtain rfl := Option.some.inj H
                        have hnb133 := NB271_272.out
                        have hnc133 := NB272_271.out
                        have hnb134 := NB271_286.out
                        have hnc134 := NB286_271.out
                        have hcz135_0 : wc.cell? ⟨gb271, 0, none⟩ = some (.string t273) := (blk_cell BK271.out 0).trans rfl
                        have hcz135_1 : wc.cell? ⟨gb271, 1, none⟩ = some (.string t274) := (blk_cell BK271.out 1).trans rfl
                        have hfz135_0 := blk_frozen BK271.out 0
                        have hfz135_1 := blk_frozen BK271.out 1
                        have hnb136 := NB272_286.out
                        have hnc136 := NB286_272.out
                        have hcz137_0 : wc.cell? ⟨gb272, 0, none⟩ = some (.string t275) := (blk_cell BK272.out 0).trans rfl
                        have hcz137_1 : wc.cell? ⟨gb272, 1, none⟩ = some (.string t276) := (blk_cell BK272.out 1).trans rfl
                        have hfz137_0 := blk_frozen BK272.out 0
                        have hfz137_1 := blk_frozen BK272.out 1
                        go_wp2_with (first | (go_at_call 16; (with_reducible refine (graftwoodref05_Less.calls kj67 t273 t274 t275 t276 t291 _ A89.out).mono ?_); rintro e w138 ⟨rfl, hb⟩; have n0_ := Aside0.mk (blk_below (g := gb271) (o := .cells #[.string t273, .string t274] 23 (0, 0)) (by (with_reducible repeat (first | refine blk_drewN ?_ _ | refine blk_drew ?_ | refine blk_alloc ?_ _)); exact BK271.out) hb); have n1_ := Aside0.mk (blk_below (g := gb272) (o := .cells #[.string t275, .string t276] 23 (0, 0)) (by (with_reducible repeat (first | refine blk_drewN ?_ _ | refine blk_drew ?_ | refine blk_alloc ?_ _)); exact BK272.out) hb); have n2_ := Aside0.mk (blk_below (g := gb286) (o := .cells #[.string t283, .string t284] 23 (0, 0)) (by (with_reducible repeat (first | refine blk_drewN ?_ _ | refine blk_drew ?_ | refine blk_alloc ?_ _)); exact BK286.out) hb); have n3_ := Aside0.mk (below_step (by repeat (first | (with_reducible first | exact HB.out | apply below_alloc | apply pw_below_drewN | apply below_drew1 | refine below_set ?_ GE271.out | refine below_set ?_ GE272.out | refine below_set ?_ GE286.out) | exact HB.out)) hb); clear BK271; clear BK272; clear BK286; clear HB; have BK271 := n0_; have BK272 := n1_; have BK286 := n2_; have HB := n3_; clear n0_ n1_ n2_ n3_; (try clear hb); (try clear hb2); (try clear hk); (try clear hi)))
                        go_ret
                        exact ⟨by first | rfl | (simp [errW_none, errW_some] <;> rfl) | (simp [*, errW_none, errW_some] <;> rfl), by repeat (first | (with_reducible first | exact HB.out | apply below_alloc | apply pw_below_drewN | apply below_drew1 | refine below_set ?_ GE271.out | refine below_set ?_ GE272.out | refine below_set ?_ GE286.out) | exact HB.out)⟩
                    · rw [if_neg c88] at H
                      have c88b0 : (t279 == 0) = false := beq_eq_false_iff_ne.mpr c88
                      have c88b1 : (t279 != 0) = true := bne_iff_ne.mpr c88
                      obtain rfl := Option.some.inj H
                      go_wp2
                      go_ret
                      exact ⟨by first | rfl | (simp [errW_none, errW_some] <;> rfl) | (simp [*, errW_none, errW_some] <;> rfl), by repeat (first | (with_reducible first | exact HB.out | apply below_alloc | apply pw_below_drewN | apply below_drew1 | refine below_set ?_ GE271.out | refine below_set ?_ GE272.out | refine below_set ?_ GE286.out) | exact HB.out)⟩

end Go.Proofs.YtnknjhdpjjddeaaDoor.Q

namespace Go.Proofs.YtnknjhdpjjddeaaDoor.Q
open Go.Proofs.YtnknjhdpjjddeaaDoor.QB.D
open Go Go.RowKit Go.Lib Go.Proofs.YtnknjhdpjjddeaaDoorW.PrintWords Go.Proofs.YtnknjhdpjjddeaaDoorW.PrintLast Go.Proofs.YtnknjhdpjjddeaaDoorW.PrintMore Gw
set_option linter.unusedVariables false
set_option linter.unusedSimpArgs false
theorem ref5May_val (k : Nat) (x : S23) (hx : Brief x) (hk : 900 ≤ k) : graftwoodref05_May.f k x.f0 x.f1 = some (mayN x) := by
  have h0 : Small x.f0 := by have := hx.1; unfold Small; omega
  have h1 : Small x.f1 := by have := hx.2; unfold Small; omega
  unfold graftwoodref05_May.f
  rw [ref4May_tot _ h0 k (by have := hx.1; omega)]
  unfold graftwoodref03_May.f graftwoodref03_Split.f
  rw [if_pos h1]
  simp only [Option.bind_some]
  rw [splitV_ok]
  show _ = some (isPath (bs x.f0) && isVersion (bs x.f1))
  cases isPath (bs x.f0) <;> rfl
theorem less_val (k : Nat) (x y : S23) (hx : Brief x) (hy : Brief y) (gx : GoodN x) (gy : GoodN y) (hk : 900 ≤ k) : graftwoodref05_Less.f k x.f0 x.f1 y.f0 y.f1 = some (decide (ordN x y < 0)) := by
  have h0 : Small x.f0 := by have := hx.1; unfold Small; omega
  have h1 : Small y.f0 := by have := hy.1; unfold Small; omega
  unfold graftwoodref05_Less.f
  rw [rcmp1_val _ _ h0 h1 k (by have := hx.1; omega)]
  have hc : graftwoodref03_Cmp.f x.f1 y.f1 = some (verC (vOf (bs x.f1)) (vOf (bs y.f1))) := by
    unfold graftwoodref03_Cmp.f
    rw [if_pos ⟨⟨gx.2.1, gy.2.1⟩, gx.2.2, gy.2.2⟩]
  rw [hc]
  simp only [Option.bind_some]
  have ho : ordN x y = orI (lexC (bs x.f0) (bs y.f0)) (verC (vOf (bs x.f1)) (vOf (bs y.f1))) := rfl
  rw [ho]
  unfold orI
  by_cases c1 : lexC (bs x.f0) (bs y.f0) < 0
  · rw [if_pos c1, if_neg (by omega), decide_eq_true c1]
  · rw [if_neg c1]
    by_cases c2 : lexC (bs x.f0) (bs y.f0) = 0
    · rw [if_pos c2, if_pos c2]
    · rw [if_neg c2, if_neg c2, decide_eq_false c1]
theorem cut_join (l : List Nat) : l = (cutAt 64 l).1 ++ (match (cutAt 64 l).2 with | none => [] | some r => 64 :: r) := by
  induction l with
  | nil => rfl
  | cons c r ih =>
    unfold cutAt
    split
    · rename_i h; subst h; rfl
    · exact congrArg (List.cons c) ih
theorem read_join (s : ByteArray) (hm : mayN ⟨(cutOut (cutAt 64 (bs s))).1, (cutOut (cutAt 64 (bs s))).2.1⟩ = true) : (cutOut (cutAt 64 (bs s))).1 ++ (⟨#[64]⟩ : ByteArray) ++ (cutOut (cutAt 64 (bs s))).2.1 = s := by
  have hv : isVersion (bs (cutOut (cutAt 64 (bs s))).2.1) = true := by
    unfold mayN isNode np at hm
    rw [Bool.and_eq_true] at hm
    exact hm.2
  have hj := cut_join (bs s)
  have ho := bs_oct s
  rw [hj] at ho
  rcases hc : cutAt 64 (bs s) with ⟨a, _ | b⟩
  · rw [hc] at hv
    have : isVersion (bs (⟨#[]⟩ : ByteArray)) = true := hv
    exact absurd this (by decide +kernel)
  · rw [hc] at hj ho
    simp only [] at hj ho
    apply bs_inj
    rw [bs_append, bs_append]
    have ha : bs (ofB a) = a := bs_ofB (fun c h => ho c (List.mem_append_left _ h))
    have hb : bs (ofB b) = b := bs_ofB (fun c h => ho c (List.mem_append_right _ (List.mem_cons_of_mem _ h)))
    show bs (ofB a) ++ [64] ++ bs (ofB b) = bs s
    rw [ha, hb, hj]
    simp
set_option maxHeartbeats 2000000 in
theorem tells_true (k : Nat) (hk : 1100 ≤ k) (a0 a1 b0 b1 s : ByteArray) : graftwoodlaw05_NodeTells.f (k + 3) a0 a1 b0 b1 s = some true := by
  unfold graftwoodlaw05_NodeTells.f
  rw [One_val, One_val, Few_val]
  simp only [Option.bind_some]
  have x1 := few_size a0
  have x2 := few_size a1
  have y1 := few_size b0
  have y2 := few_size b1
  have s1 := few_size s
  generalize few a0 = xa at *
  generalize few a1 = xb at *
  generalize few b0 = ya at *
  generalize few b1 = yb at *
  generalize few s = t at *
  have hx : Brief ⟨xa, xb⟩ := ⟨x1, x2⟩
  have hy : Brief ⟨ya, yb⟩ := ⟨y1, y2⟩
  have e1 := node_Cmp_val (k + 3) ⟨xa, xb⟩ ⟨ya, yb⟩ hx hy (by omega)
  have m1 := node_May_val (k + 3) ⟨xa, xb⟩ hx.tiny (by simp only []; omega)
  have r1 := ref5May_val (k + 3) ⟨xa, xb⟩ hx (by omega)
  have r2 := ref5May_val (k + 1) ⟨xa, xb⟩ hx (by omega)
  have r3 := ref5May_val (k + 1) ⟨ya, yb⟩ hy (by omega)
  have rd := readM_val (k + 2) t (by omega) (by omega)
  have hw := awake_val k hk
  simp only [] at e1 m1 r1 r2 r3
  rw [e1, m1, r1]
  simp only [Option.bind_some, bne_self_eq_false, Bool.false_eq_true, if_false]
  have z1 : xa.size + 1 ≤ 9223372036854775807 := by omega
  have z2 : (xa ++ (⟨#[64]⟩ : ByteArray)).size + xb.size ≤ 9223372036854775807 := by
    rw [ByteArray.size_append]; show xa.size + 1 + xb.size ≤ _; omega
  unfold node_Text.f
  simp only [if_pos z1, if_pos z2, Option.bind_some, bne_self_eq_false]
  have tail : graftwoodlaw05_NodeTells.j1 (k + 2) (cmpM ⟨xa, xb⟩ ⟨ya, yb⟩).1 (cmpM ⟨xa, xb⟩ ⟨ya, yb⟩).2 false xa xb ya yb = some true := by
    simp only [graftwoodlaw05_NodeTells.j1, Bool.false_eq_true, if_false]
    rw [r2, r3]
    simp only [Option.bind_some]
    unfold cmpM
    cases hmx : mayN ⟨xa, xb⟩
    · simp [graftwoodlaw05_NodeTells.j2, hw]
    · cases hmy : mayN ⟨ya, yb⟩
      · simp [graftwoodlaw05_NodeTells.j2, hw]
      · have gx := mayN_good hx.tiny hmx
        have gy := mayN_good hy.tiny hmy
        have l1 := less_val k ⟨xa, xb⟩ ⟨ya, yb⟩ hx hy gx gy (by omega)
        have l2 := less_val k ⟨ya, yb⟩ ⟨xa, xb⟩ hy hx gy gx (by omega)
        have sy := ordN_to.sym ⟨xa, xb⟩ ⟨ya, yb⟩ gx gy
        have tr := ordN_to.tri ⟨xa, xb⟩ ⟨ya, yb⟩
        simp only [] at l1 l2
        rw [sy] at l2
        simp only [Bool.and_self, if_true, graftwoodlaw05_NodeTells.j2, Bool.not_true, Bool.false_eq_true, if_false, l1, l2, Option.bind_some, hw]
        have q : decide (ordN ⟨xa, xb⟩ ⟨ya, yb⟩ > 0) = decide (-ordN ⟨xa, xb⟩ ⟨ya, yb⟩ < 0) := decide_eq_decide.2 (by omega)
        rw [q]
        simp only [beq_self_eq_true, if_true]
        rw [if_pos (by omega), if_pos (by omega)]
  simp only [graftwoodlaw05_NodeTells.j0, Bool.false_eq_true, if_false]
  rw [rd]
  simp only [Option.bind_some]
  cases hm : mayN ⟨(cutOut (cutAt 64 (bs t))).1, (cutOut (cutAt 64 (bs t))).2.1⟩
  · simp only [Bool.false_eq_true, if_false]
    rw [if_neg (by decide), if_pos trivial]
    have e : (!((⟨#[]⟩ : ByteArray).toList == ([] : List UInt8)) || !((⟨#[]⟩ : ByteArray).toList == ([] : List UInt8))) = false := by
      rw [ByteArray.toList_eq]; rfl
    rw [e]
    exact tail
  · have hj := read_join t hm
    have hsz : (cutOut (cutAt 64 (bs t))).1.size ≤ 400 ∧ (cutOut (cutAt 64 (bs t))).2.1.size ≤ 400 := by
      have h := congrArg ByteArray.size hj
      rw [ByteArray.size_append, ByteArray.size_append] at h
      omega
    generalize cutOut (cutAt 64 (bs t)) = p at *
    have r4 := ref5May_val (k + 2) ⟨p.1, p.2.1⟩ hsz (by omega)
    simp only [] at r4
    simp only [if_true]
    rw [r4, hm]
    simp only [Option.bind_some, if_true]
    rw [if_pos (by omega), if_pos (by rw [ByteArray.size_append]; show p.1.size + 1 + p.2.1.size ≤ _; omega), hj, if_pos rfl]
    exact tail
end Go.Proofs.YtnknjhdpjjddeaaDoor.Q
