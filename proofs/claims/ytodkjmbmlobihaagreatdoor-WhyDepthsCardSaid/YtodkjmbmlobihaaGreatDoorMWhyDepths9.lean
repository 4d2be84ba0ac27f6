/- Part 9 of this claim: several texts one behind the other: EvEq, EvIdx, FapiNode49, FapiNode37, Fgraftwoodref03words, NPut, RefB, SDeep, Shelf, DParts, DCut, DRune, DAny, DElem. What each shows stands in its theorems; conditions: sizes of texts and lists, as the functions' definitions say. -/
import Derived.Test.YtodkjmbmlobihaaGreatDoorMWhyDepths8
import Derived.Test.YtodkjmbmlobihaaGreatDoorMWhyDepths6
import Derived.Test.YtodkjmbmlobihaaGreatDoorMWhyDepths7
import Derived.Shelf.SlSortCmp.NoneTotal
import Derived.Ground.SlsfProg
import Derived.Test.YtodkjmbmlobihaaGreatDoorProg
import Derived.Shelf.Small.Utf8
import Derived.Shelf.Small.Bits
import Derived.Shelf.Small.Strs
import Derived.Shelf.Small.Wraps
import Derived.Shelf.Utf8.RuneCount
import Derived.Shelf.Strconv.Itoa0
import Derived.Shelf.Strings.Search1
import Derived.Shelf.Strings.Search2
import Derived.Shelf.Strings.Search3
import Derived.Shelf.Strings.Cut
import Derived.Shelf.Strings.Count
import Derived.Shelf.LaysM
import Derived.Shelf.Strings.Shaped
import Derived.Shelf.Strings.Prefix
import Derived.Shelf.Strings.Split
import Derived.Shelf.Strings.SplitShaped
import Derived.Shelf.Unicode.Decode
import Derived.Shelf.Strings.Runes
import Derived.Shelf.Strings.RuneCount
import Derived.Shelf.Strings.IndexAny
import Derived.Shelf.Strings.AsciiSet
import Derived.Shelf.Strings.IndexAnyAll
import Derived.Shelf.Strings.Explode
import Derived.Shelf.Unicode.DecodeSlow
import Derived.Shelf.Unicode.DecodeAny
import Derived.Shelf.Strings.SplitCore
import Derived.Lib.SplitLaws
import Derived.Lib.CutLaws
import Derived.RegionTactic
import Derived.BigRegion
import Derived.ChangeAlike
import Derived.Laws.Runes
import Derived.Laws.RangeAny
import Derived.WalkMore
import Derived.Deep.QuietTactic
import Derived.BigQuiet
import Derived.ScopeJumps
import Derived.Lib.OthersKept
section
namespace Go.Proofs.YtodkjmbmlobihaaGreatDoor.Q
open Go.RowKit Go.Proofs.YtodkjmbmlobihaaGreatDoorW.PrintWords Go.Proofs.YtodkjmbmlobihaaGreatDoorW.PrintLast Go.Proofs.YtodkjmbmlobihaaGreatDoorW.PrintMore
attribute [local go_sem] max2_int min2_int max_two min_two max_three min_three max_four min_four   -- for this text's walks alone
set_option linter.unusedVariables false
set_option linter.unusedSimpArgs false
attribute [local go_sem high] eqA24
def api_Node_49.l0 : Nat → List (S24) → Int → Int → ByteArray → ByteArray → Option (Int)
 | 0, _, _, _, _, _ => none
 | k + 1, x0, x7, x8, x177000, x177001 => if x8 < x7 then (if 0 ≤ x8 then (if x8 < (x0.length : Int) then (if (x177000.toList == (((rd_T24 x0 x8).f0).toList) && (x177001.toList == (((rd_T24 x0 x8).f1).toList))) = true then (some x8) else (api_Node_49.l0 k x0 x7 (wrap64 (x8 + 1)) x177000 x177001)) else (none)) else (none)) else (some (-1))
def api_Node_49.f (k : Nat) (l0 : List (S24)) (a1_0 : ByteArray) (a1_1 : ByteArray) : Option (Int) := api_Node_49.l0 k l0 (l0.length : Int) 0 a1_0 a1_1
set_option maxHeartbeats 8000000 in
set_option maxRecDepth 100000 in
theorem api_Node_49.calls (k : Nat) (A0 : Option Addr) (c0 : Nat) (l0 : List (S24)) (a1_0 : ByteArray) (a1_1 : ByteArray) (r : Int) (w : World) (hr0 : Kd.C k24 w A0 l0.length l0) (hc0 : l0.length ≤ c0) (h : api_Node_49.f k l0 a1_0 a1_1 = some r) :
 Calls Tryz.prog 49 #[.slice A0 l0.length c0, .agg #[.string a1_0, .string a1_1]] w fun e w' => e = .returned (.int .i64 r) ∧ Below w.heap.size w w' := by
 have hu24 := Tryz.underlying24
 have HR0 := Aside0.mk hr0
 have HC0 := Aside0.mk hc0
 clear hr0 hc0
 have HB := Aside0.mk (Below.refl w.heap.size w)
 have H : (api_Node_49.l0 k l0 (l0.length : Int) 0 a1_0 a1_1) = some r := h
 clear h
 have H' := Aside0.mk H
 clear H
 go_enter Tryz.func49, Tryz.ntmps49
 go_wp2_with (first | ((with_reducible refine gate_dst (N := 3) rfl ?_); refine box_event ?hg (N := 3) ?hd (cs := #[.string a1_0, .string a1_1]) (t := 24) ?hr ?_; (case hd => rfl); (case hg => rfl); (case hr => first | (go_simp; done) | (go_simp; rfl)); intro gb176 hg w3 hbox hb; have n0_ := Aside0.mk (below_step (by repeat (first | (with_reducible first | exact HB.out | apply below_alloc | apply pw_below_drewN | apply below_drew1) | exact HB.out)) hb); have n1_ := Aside0.mk (hbox); have n2_ := Aside0.mk ((by rw [hg]; exact (below_size (by repeat (first | (with_reducible first | exact HB.out | apply below_alloc | apply pw_below_drewN | apply below_drew1) | exact HB.out))) : w.heap.size ≤ gb176)); have n3_ := Aside0.mk ((by rw [hg]; exact (below_size (by repeat (first | (with_reducible first | exact HB.out | apply below_alloc | apply pw_below_drewN | apply below_drew1) | exact HB.out))) : w.heap.size ≤ gb176)); clear HB; have HB := n0_; have BK176 := n1_; have GW176 := n2_; have GE176 := n3_; clear n0_ n1_ n2_ n3_; clear hb hbox hg))
 repeat (go_quiet (first | ((with_reducible refine gate_dst (N := 3) rfl ?_); refine box_event ?hg (N := 3) ?hd (cs := #[.string a1_0, .string a1_1]) (t := 24) ?hr ?_; (case hd => rfl); (case hg => rfl); (case hr => first | (go_simp; done) | (go_simp; rfl)); intro gb176 hg w3 hbox hb; have n0_ := Aside0.mk (below_step (by repeat (first | (with_reducible first | exact HB.out | apply below_alloc | apply pw_below_drewN | apply below_drew1) | exact HB.out)) hb); have n1_ := Aside0.mk (hbox); have n2_ := Aside0.mk ((by rw [hg]; exact (below_size (by repeat (first | (with_reducible first | exact HB.out | apply below_alloc | apply pw_below_drewN | apply below_drew1) | exact HB.out))) : w.heap.size ≤ gb176)); have n3_ := Aside0.mk ((by rw [hg]; exact (below_size (by repeat (first | (with_reducible first | exact HB.out | apply below_alloc | apply pw_below_drewN | apply below_drew1) | exact HB.out))) : w.heap.size ≤ gb176)); clear HB; have HB := n0_; have BK176 := n1_; have GW176 := n2_; have GE176 := n3_; clear n0_ n1_ n2_ n3_; clear hb hbox hg)); try go_wp2_with (first | ((with_reducible refine gate_dst (N := 3) rfl ?_); refine box_event ?hg (N := 3) ?hd (cs := #[.string a1_0, .string a1_1]) (t := 24) ?hr ?_; (case hd => rfl); (case hg => rfl); (case hr => first | (go_simp; done) | (go_simp; rfl)); intro gb176 hg w3 hbox hb; have n0_ := Aside0.mk (below_step (by repeat (first | (with_reducible first | exact HB.out | apply below_alloc | apply pw_below_drewN | apply below_drew1) | exact HB.out)) hb); have n1_ := Aside0.mk (hbox); have n2_ := Aside0.mk ((by rw [hg]; exact (below_size (by repeat (first | (with_reducible first | exact HB.out | apply below_alloc | apply pw_below_drewN | apply below_drew1) | exact HB.out))) : w.heap.size ≤ gb176)); have n3_ := Aside0.mk ((by rw [hg]; exact (below_size (by repeat (first | (with_reducible first | exact HB.out | apply below_alloc | apply pw_below_drewN | apply below_drew1) | exact HB.out))) : w.heap.size ≤ gb176)); clear HB; have HB := n0_; have BK176 := n1_; have GW176 := n2_; have GE176 := n3_; clear n0_ n1_ n2_ n3_; clear hb hbox hg)))
 go_loopg [8] k (fun kq v8 w' => ∃ (x8_1 : Int), v8 = .int .i64 x8_1 ∧ Aside0 (api_Node_49.l0 kq l0 (l0.length : Int) x8_1 a1_0 a1_1 = some r) ∧ Aside0 (kq ≤ k) ∧ Aside0 (w'.heap[gb176]? = some (.cells #[.string a1_0, .string a1_1] 24 (0, 0))) ∧ Aside0 (Below w.heap.size w w'))
 case atStart => exact ⟨(0), (by first | rfl | (simp; done) | (simp [*]; done)), H', ⟨Nat.le_refl _⟩, ⟨by (with_reducible repeat (first | refine blk_drewN ?_ _ | refine blk_drew ?_ | refine blk_alloc ?_ _)); exact BK176.out⟩, ⟨by repeat (first | (with_reducible first | exact HB.out | apply below_alloc | apply pw_below_drewN | apply below_drew1 | refine below_set ?_ GE176.out) | exact HB.out)⟩⟩
 case round =>
  clear H'
  try clear p2
  obtain ⟨x8_1, rfl, HA, HK1, BK176, HB⟩ := hrel
  cases gk with
  | zero => exact absurd HA.out (by simp [api_Node_49.l0])
  | succ k1 =>
   have H := HA.out
   clear HA
   simp only [api_Node_49.l0] at H
   by_cases c4 : x8_1 < (l0.length : Int)
   ·rw [if_pos c4] at H
    have c4b0 : decide (x8_1 < (l0.length : Int)) = true := decide_eq_true c4
    clear c4
    by_cases c5 : 0 ≤ x8_1
    ·rw [if_pos c5] at H
     have c5b0 : decide (0 ≤ x8_1) = true := decide_eq_true c5
     clear c5
     by_cases c6 : x8_1 < (l0.length : Int)
     ·rw [if_pos c6] at H
      have c6b0 : decide (x8_1 < (l0.length : Int)) = true := decide_eq_true c6
      clear c6
      by_cases c7 : (a1_0.toList == (((rd_T24 l0 x8_1).f0).toList) && (a1_1.toList == (((rd_T24 l0 x8_1).f1).toList))) = true
      ·rw [if_pos c7] at H
       have c7b0 : (a1_0.toList == (((rd_T24 l0 x8_1).f0).toList) && (a1_1.toList == (((rd_T24 l0 x8_1).f1).toList))) = true := c7
       (try (have c7b1 : decide (a1_0.toList = (((rd_T24 l0 x8_1).f0).toList) && (a1_1.toList == (((rd_T24 l0 x8_1).f1).toList))) = true := by simpa using c7))
       (try (have c7b2 : (a1_0.toList == (((rd_T24 l0 x8_1).f0).toList) && (a1_1.toList == (((rd_T24 l0 x8_1).f1).toList))) = true := by simpa using c7))
       clear c7
       obtain rfl := Option.some.inj H
       have hcz8_0 : wr.cell? ⟨gb176, 0, none⟩ = some (.string a1_0) := (blk_cell BK176.out 0).trans rfl
       have hcz8_1 : wr.cell? ⟨gb176, 1, none⟩ = some (.string a1_1) := (blk_cell BK176.out 1).trans rfl
       have hfz8_0 := blk_frozen BK176.out 0
       have hfz8_1 := blk_frozen BK176.out 1
       have p177 : 0 ≤ (x8_1 : Int) := of_decide_eq_true (by first | (with_reducible assumption) | assumption)
       have q177 : x8_1 < (l0.length : Int) := of_decide_eq_true (by first | (with_reducible assumption) | assumption)
       obtain ⟨ad177, e177, hx177_0, hx177_1⟩ := at_T24 HR0.out x8_1 p177 q177
       cases e177
       replace hx177_0 := (HB.out.cell (World.block_lt_of_cell? w _ hx177_0)).trans hx177_0
       replace hx177_1 := (HB.out.cell (World.block_lt_of_cell? w _ hx177_1)).trans hx177_1
       replace p177 := eq_true p177
       replace q177 := eq_true q177
       go_wp2
       repeat (go_quiet (fail); try go_wp2)
       go_ret
       exact ⟨by first | rfl | (simp [errW_none, errW_some] <;> rfl) | (simp [*, errW_none, errW_some] <;> rfl), by repeat (first | (with_reducible first | exact HB.out | apply below_alloc | apply pw_below_drewN | apply below_drew1 | refine below_set ?_ GE176.out) | exact HB.out)⟩
      ·rw [if_neg c7] at H
       have c7b0 : (a1_0.toList == (((rd_T24 l0 x8_1).f0).toList) && (a1_1.toList == (((rd_T24 l0 x8_1).f1).toList))) = false := by simpa using c7
       (try (have c7b1 : decide (a1_0.toList = (((rd_T24 l0 x8_1).f0).toList) && (a1_1.toList == (((rd_T24 l0 x8_1).f1).toList))) = false := by simpa using c7))
       (try (have c7b2 : (a1_0.toList == (((rd_T24 l0 x8_1).f0).toList) && (a1_1.toList == (((rd_T24 l0 x8_1).f1).toList))) = false := by simpa using c7))
       (try (have c7b3 : ¬ (a1_0.toList = (((rd_T24 l0 x8_1).f0).toList) && (a1_1.toList == (((rd_T24 l0 x8_1).f1).toList))) := by simpa using c7))
       clear c7
       have H' := Aside0.mk H
       clear H
       have hcz9_0 : wr.cell? ⟨gb176, 0, none⟩ = some (.string a1_0) := (blk_cell BK176.out 0).trans rfl
       have hcz9_1 : wr.cell? ⟨gb176, 1, none⟩ = some (.string a1_1) := (blk_cell BK176.out 1).trans rfl
       have hfz9_0 := blk_frozen BK176.out 0
       have hfz9_1 := blk_frozen BK176.out 1
       have p177 : 0 ≤ (x8_1 : Int) := of_decide_eq_true (by first | (with_reducible assumption) | assumption)
       have q177 : x8_1 < (l0.length : Int) := of_decide_eq_true (by first | (with_reducible assumption) | assumption)
       obtain ⟨ad177, e177, hx177_0, hx177_1⟩ := at_T24 HR0.out x8_1 p177 q177
       cases e177
       replace hx177_0 := (HB.out.cell (World.block_lt_of_cell? w _ hx177_0)).trans hx177_0
       replace hx177_1 := (HB.out.cell (World.block_lt_of_cell? w _ hx177_1)).trans hx177_1
       replace p177 := eq_true p177
       replace q177 := eq_true q177
       go_wp2
       repeat (go_quiet (fail); try go_wp2)
       go_roundg k1
       case measure => have := HK1.out; omega
       case rel => exact ⟨(wrap64 (x8_1 + 1)), (by first | rfl | (simp; done) | (simp [*]; done)), H', ⟨by have := HK1.out; omega⟩, ⟨by (with_reducible repeat (first | refine blk_drewN ?_ _ | refine blk_drew ?_ | refine blk_alloc ?_ _)); exact BK176.out⟩, ⟨by repeat (first | (with_reducible first | exact HB.out | apply below_alloc | apply pw_below_drewN | apply below_drew1 | refine below_set ?_ GE176.out) | exact HB.out)⟩⟩
     ·rw [if_neg c6] at H
      exact absurd H (by simp)
    ·rw [if_neg c5] at H
     exact absurd H (by simp)
   ·rw [if_neg c4] at H
    have c4b0 : decide (x8_1 < (l0.length : Int)) = false := decide_eq_false c4
    clear c4
    obtain rfl := Option.some.inj H
    go_wp2
    repeat (go_quiet (fail); try go_wp2)
    go_ret
    exact ⟨by first | rfl | (simp [errW_none, errW_some] <;> rfl) | (simp [*, errW_none, errW_some] <;> rfl), by repeat (first | (with_reducible first | exact HB.out | apply below_alloc | apply pw_below_drewN | apply below_drew1 | refine below_set ?_ GE176.out) | exact HB.out)⟩
def api_Node_37.f (k : Nat) (l0 : List (S24)) (a1_0 : ByteArray) (a1_1 : ByteArray) : Option (Bool) := (api_Node_49.f k l0 a1_0 a1_1).bind fun t179 => (some (decide (t179 ≥ 0)))
set_option maxHeartbeats 8000000 in
set_option maxRecDepth 100000 in
theorem api_Node_37.calls (k : Nat) (A0 : Option Addr) (c0 : Nat) (l0 : List (S24)) (a1_0 : ByteArray) (a1_1 : ByteArray) (r : Bool) (w : World) (hr0 : Kd.C k24 w A0 l0.length l0) (hc0 : l0.length ≤ c0) (h : api_Node_37.f k l0 a1_0 a1_1 = some r) :
 Calls Tryz.prog 37 #[.slice A0 l0.length c0, .agg #[.string a1_0, .string a1_1]] w fun e w' => e = .returned (.bool r) ∧ Below w.heap.size w w' := by
 have hu24 := Tryz.underlying24
 have HR0 := Aside0.mk hr0
 have HC0 := Aside0.mk hc0
 clear hr0 hc0
 have HB := Aside0.mk (Below.refl w.heap.size w)
 have H : ((api_Node_49.f k l0 a1_0 a1_1).bind fun t179 => (some (decide (t179 ≥ 0)))) = some r := h
 clear h
 replace H := Option.bind_eq_some_iff.mp H
 obtain ⟨t179, A30, H⟩ := H
 replace H : (some (decide (t179 ≥ 0))) = some r := H
 have A3 := Aside0.mk A30
 clear A30
 obtain rfl := Option.some.inj H
 go_enter Tryz.func37, Tryz.ntmps37
 go_wp2_with (first | ((with_reducible refine gate_dst (N := 3) rfl ?_); refine box_event ?hg (N := 3) ?hd (cs := #[.string a1_0, .string a1_1]) (t := 24) ?hr ?_; (case hd => rfl); (case hg => rfl); (case hr => first | (go_simp; done) | (go_simp; rfl)); intro gb178 hg w4 hbox hb; have n0_ := Aside0.mk (below_step (by repeat (first | (with_reducible first | exact HB.out | apply below_alloc | apply pw_below_drewN | apply below_drew1) | exact HB.out)) hb); have n1_ := Aside0.mk (hbox); have n2_ := Aside0.mk ((by rw [hg]; exact (below_size (by repeat (first | (with_reducible first | exact HB.out | apply below_alloc | apply pw_below_drewN | apply below_drew1) | exact HB.out))) : w.heap.size ≤ gb178)); have n3_ := Aside0.mk ((by rw [hg]; exact (below_size (by repeat (first | (with_reducible first | exact HB.out | apply below_alloc | apply pw_below_drewN | apply below_drew1) | exact HB.out))) : w.heap.size ≤ gb178)); clear HB; have HB := n0_; have BK178 := n1_; have GW178 := n2_; have GE178 := n3_; clear n0_ n1_ n2_ n3_; clear hb hbox hg; have hcz5_0 : w4.cell? ⟨gb178, 0, none⟩ = some (.string a1_0) := (blk_cell BK178.out 0).trans rfl; have hcz5_1 : w4.cell? ⟨gb178, 1, none⟩ = some (.string a1_1) := (blk_cell BK178.out 1).trans rfl; have hfz5_0 := blk_frozen BK178.out 0; have hfz5_1 := blk_frozen BK178.out 1) | ((with_reducible refine gate_callee (f := 49) rfl ?_); refine goesL_ (some 7) rfl rfl Tryz.func49 (by kernel_rfl) rfl #[.slice A0 l0.length c0, .agg #[.string a1_0, .string a1_1]] rfl (by (try simp only [List.map_toArray, List.map_cons, List.map_nil]); first | done | rfl | (simp only [List.length_drop, List.length_take]; rfl)) ?_; (with_reducible refine (api_Node_49.calls k _ _ l0 a1_0 a1_1 t179 _ ?side1 ?side2 A3.out).mono ?_); (case side1 => repeat (first | exact (Kd.C_below HR0.out HB.out) | (with_reducible refine Kd.C_alloc ?_ _) | (with_reducible refine Kd.C_drewN ?_ _) | (with_reducible refine Kd.C_drew ?_))); (case side2 => exact HC0.out); rintro e w6 ⟨rfl, hb⟩; refine ⟨_, rfl, ?_⟩; have n0_ := Aside0.mk (blk_below (g := gb178) (o := .cells #[.string a1_0, .string a1_1] 24 (0, 0)) (by (with_reducible repeat (first | refine blk_drewN ?_ _ | refine blk_drew ?_ | refine blk_alloc ?_ _)); exact BK178.out) hb); have n1_ := Aside0.mk (below_step (by repeat (first | (with_reducible first | exact HB.out | apply below_alloc | apply pw_below_drewN | apply below_drew1 | refine below_set ?_ GE178.out) | exact HB.out)) hb); clear BK178; clear HB; have BK178 := n0_; have HB := n1_; clear n0_ n1_; (try clear hb); (try clear hb2); (try clear hk); (try clear hi)))
 go_ret
 exact ⟨by first | rfl | (simp [errW_none, errW_some] <;> rfl) | (simp [*, errW_none, errW_some] <;> rfl), by repeat (first | (with_reducible first | exact HB.out | apply below_alloc | apply pw_below_drewN | apply below_drew1 | refine below_set ?_ GE178.out) | exact HB.out)⟩
end Go.Proofs.YtodkjmbmlobihaaGreatDoor.Q
end
section
namespace Go.Proofs.YtodkjmbmlobihaaGreatDoor.Q
open Go.RowKit Go.Proofs.YtodkjmbmlobihaaGreatDoorW.PrintWords Go.Proofs.YtodkjmbmlobihaaGreatDoorW.PrintLast Go.Proofs.YtodkjmbmlobihaaGreatDoorW.PrintMore
attribute [local go_sem] max2_int min2_int max_two min_two max_three min_three max_four min_four   -- for this text's walks alone
set_option linter.unusedVariables false
set_option linter.unusedSimpArgs false
def graftwoodref03_words.j0 : Nat → ByteArray → ByteArray → Bool → Bool → Bool → Option (Int)
 | 0, _, _, _, _, _ => none
 | k + 1, x0, x1, x5, x6, x14 => if x14 = true then ((graftwoodref02_Cmp.f k x0 x1).bind fun t220 => (some t220)) else (if x5 = true then (some (-1)) else (if x6 = true then (some 1) else ((graftwoodref01_Cmp.f k x0 x1).bind fun t221 => (some t221))))
def graftwoodref03_words.f (k : Nat) (a0 : ByteArray) (a1 : ByteArray) : Option (Int) := (graftwoodref02_May.f k a0).bind fun t218 => ((graftwoodref02_May.f k a1).bind fun t219 => (if t218 = true then (graftwoodref03_words.j0 k a0 a1 t218 t219 t219) else (graftwoodref03_words.j0 k a0 a1 t218 t219 false)))
set_option maxHeartbeats 8000000 in
set_option maxRecDepth 100000 in
theorem graftwoodref03_words.calls (k : Nat) (a0 : ByteArray) (a1 : ByteArray) (r : Int) (w : World) (h : graftwoodref03_words.f k a0 a1 = some r) :
 Calls Tryz.prog 47 #[.string a0, .string a1] w fun e w' => e = .returned (.int .i64 r) ∧ Below w.heap.size w w' := by
 have HB := Aside0.mk (Below.refl w.heap.size w)
 have H : ((graftwoodref02_May.f k a0).bind fun t218 => ((graftwoodref02_May.f k a1).bind fun t219 => (if t218 = true then (graftwoodref03_words.j0 k a0 a1 t218 t219 t219) else (graftwoodref03_words.j0 k a0 a1 t218 t219 false)))) = some r := h
 clear h
 replace H := Option.bind_eq_some_iff.mp H
 obtain ⟨t218, A30, H⟩ := H
 replace H : ((graftwoodref02_May.f k a1).bind fun t219 => (if t218 = true then (graftwoodref03_words.j0 k a0 a1 t218 t219 t219) else (graftwoodref03_words.j0 k a0 a1 t218 t219 false))) = some r := H
 have A3 := Aside0.mk A30
 clear A30
 replace H := Option.bind_eq_some_iff.mp H
 obtain ⟨t219, A40, H⟩ := H
 replace H : (if t218 = true then (graftwoodref03_words.j0 k a0 a1 t218 t219 t219) else (graftwoodref03_words.j0 k a0 a1 t218 t219 false)) = some r := H
 have A4 := Aside0.mk A40
 clear A40
 have HC5 := Aside0.mk H
 clear H
 go_enter Tryz.func47, Tryz.ntmps47
 go_upto_region 2 with (first | ((with_reducible refine gate_callee (f := 64) rfl ?_); refine goesL_ (some 8) rfl rfl Tryz.func64 (by kernel_rfl) rfl #[.string a0] rfl (by (try simp only [List.map_toArray, List.map_cons, List.map_nil]); first | done | rfl | (simp only [List.length_drop, List.length_take]; rfl)) ?_; (with_reducible refine (graftwoodref02_May.calls k a0 t218 _ A3.out).mono ?_); rintro e w' ⟨rfl, ⟨nd, rfl⟩⟩; refine ⟨_, rfl, ?_⟩) | ((with_reducible refine gate_callee (f := 64) rfl ?_); refine goesL_ (some 10) rfl rfl Tryz.func64 (by kernel_rfl) rfl #[.string a1] rfl (by (try simp only [List.map_toArray, List.map_cons, List.map_nil]); first | done | rfl | (simp only [List.length_drop, List.length_take]; rfl)) ?_; (with_reducible refine (graftwoodref02_May.calls k a1 t219 _ A4.out).mono ?_); rintro e w' ⟨rfl, ⟨nd, rfl⟩⟩; refine ⟨_, rfl, ?_⟩))
 (try simp only [Act.put, List.setIfInBounds_toArray, List.set_cons_zero, List.set_cons_succ])
 go_cut [14] (fun v14 wc => ∃ (kq : Nat) (x14_4 : Bool), v14 = .bool x14_4 ∧ Aside0 (graftwoodref03_words.j0 kq a0 a1 t218 t219 x14_4 = some r) ∧ Aside0 (kq ≤ k) ∧ Aside0 (Below w.heap.size w wc))
 case first =>
  have H := HC5.out
  clear HC5
  by_cases c6 : t218 = true
  ·subst c6
   have H1 : (graftwoodref03_words.j0 k a0 a1 true t219 t219) = some r := by rw [if_pos rfl] at H; exact H
   clear H
   have H := H1
   clear H1
   have H' := Aside0.mk H
   clear H
   go_wp2
   go_meet
   case rel => exact ⟨_, (t219), (by first | rfl | (simp; done) | (simp [*]; done)), H', ⟨by first | omega | exact Nat.le_refl _⟩, ⟨by repeat (first | (with_reducible first | exact HB.out | apply below_alloc | apply pw_below_drewN | apply below_drew1) | exact HB.out)⟩⟩
  ·replace c6 := Bool.eq_false_iff.mpr c6
   subst c6
   have H1 : (graftwoodref03_words.j0 k a0 a1 false t219 false) = some r := by rw [if_neg (show ¬ (false = true) by decide)] at H; exact H
   clear H
   have H := H1
   clear H1
   have H' := Aside0.mk H
   clear H
   go_wp2
   go_meet
   case rel => exact ⟨_, (false), (by first | rfl | (simp; done) | (simp [*]; done)), H', ⟨by first | omega | exact Nat.le_refl _⟩, ⟨by repeat (first | (with_reducible first | exact HB.out | apply below_alloc | apply pw_below_drewN | apply below_drew1) | exact HB.out)⟩⟩
 case rest =>
  clear HC5
  try clear p2
  try clear c4
  try clear c6
  obtain ⟨kq, x14_4, rfl, HA, HJ4, HB⟩ := hcut
  cases kq with
  | zero => exact absurd HA.out (by simp [graftwoodref03_words.j0])
  | succ kj4 =>
   have H := HA.out
   clear HA
   simp only [graftwoodref03_words.j0] at H
   by_cases c7 : x14_4 = true
   ·subst c7
    have H1 : ((graftwoodref02_Cmp.f kj4 a0 a1).bind fun t220 => (some t220)) = some r := by rw [if_pos rfl] at H; exact H
    clear H
    have H := H1
    clear H1
    replace H := Option.bind_eq_some_iff.mp H
    obtain ⟨t220, A80, H⟩ := H
    replace H : (some t220) = some r := H
    have A8 := Aside0.mk A80
    clear A80
    obtain rfl := Option.some.inj H
    go_wp2_with (first | ((with_reducible refine gate_callee (f := 46) rfl ?_); refine goesL_ (some 17) rfl rfl Tryz.func46 (by kernel_rfl) rfl #[.string a0, .string a1] rfl (by (try simp only [List.map_toArray, List.map_cons, List.map_nil]); first | done | rfl | (simp only [List.length_drop, List.length_take]; rfl)) ?_; (with_reducible refine (graftwoodref02_Cmp.calls kj4 a0 a1 t220 _ A8.out).mono ?_); rintro e w9 ⟨rfl, hb⟩; refine ⟨_, rfl, ?_⟩; have n0_ := Aside0.mk (below_step (by repeat (first | (with_reducible first | exact HB.out | apply below_alloc | apply pw_below_drewN | apply below_drew1) | exact HB.out)) hb); clear HB; have HB := n0_; clear n0_; (try clear hb); (try clear hb2); (try clear hk); (try clear hi)))
    go_ret
    exact ⟨by first | rfl | (simp [errW_none, errW_some] <;> rfl) | (simp [*, errW_none, errW_some] <;> rfl), by repeat (first | (with_reducible first | exact HB.out | apply below_alloc | apply pw_below_drewN | apply below_drew1) | exact HB.out)⟩
   ·replace c7 := Bool.eq_false_iff.mpr c7
    subst c7
    have H1 : (if t218 = true then (some (-1)) else (if t219 = true then (some 1) else ((graftwoodref01_Cmp.f kj4 a0 a1).bind fun t221 => (some t221)))) = some r := by rw [if_neg (show ¬ (false = true) by decide)] at H; exact H
    clear H
    have H := H1
    clear H1
    by_cases c10 : t218 = true
    ·subst c10
     have H1 : (some (-1)) = some r := by rw [if_pos rfl] at H; exact H
     clear H
     have H := H1
     clear H1
     obtain rfl := Option.some.inj H
     go_wp2
     go_ret
     exact ⟨by first | rfl | (simp [errW_none, errW_some] <;> rfl) | (simp [*, errW_none, errW_some] <;> rfl), by repeat (first | (with_reducible first | exact HB.out | apply below_alloc | apply pw_below_drewN | apply below_drew1) | exact HB.out)⟩
    ·replace c10 := Bool.eq_false_iff.mpr c10
     subst c10
     have H1 : (if t219 = true then (some 1) else ((graftwoodref01_Cmp.f kj4 a0 a1).bind fun t221 => (some t221))) = some r := by rw [if_neg (show ¬ (false = true) by decide)] at H; exact H
     clear H
     have H := H1
     clear H1
     by_cases c11 : t219 = true
     ·subst c11
      have H1 : (some 1) = some r := by rw [if_pos rfl] at H; exact H
      clear H
      have H := H1
      clear H1
      obtain rfl := Option.some.inj H
      go_wp2
      go_ret
      exact ⟨by first | rfl | (simp [errW_none, errW_some] <;> rfl) | (simp [*, errW_none, errW_some] <;> rfl), by repeat (first | (with_reducible first | exact HB.out | apply below_alloc | apply pw_below_drewN | apply below_drew1) | exact HB.out)⟩
     ·replace c11 := Bool.eq_false_iff.mpr c11
      subst c11
      have H1 : ((graftwoodref01_Cmp.f kj4 a0 a1).bind fun t221 => (some t221)) = some r := by rw [if_neg (show ¬ (false = true) by decide)] at H; exact H
      clear H
      have H := H1
      clear H1
      replace H := Option.bind_eq_some_iff.mp H
      obtain ⟨t221, A120, H⟩ := H
      replace H : (some t221) = some r := H
      have A12 := Aside0.mk A120
      clear A120
      obtain rfl := Option.some.inj H
      go_wp2_with (first | ((with_reducible refine gate_callee (f := 33) rfl ?_); refine goesL_ (some 22) rfl rfl Tryz.func33 (by kernel_rfl) rfl #[.string a0, .string a1] rfl (by (try simp only [List.map_toArray, List.map_cons, List.map_nil]); first | done | rfl | (simp only [List.length_drop, List.length_take]; rfl)) ?_; (with_reducible refine (graftwoodref01_Cmp.calls kj4 a0 a1 t221 _ A12.out).mono ?_); rintro e w' ⟨rfl, ⟨nd, rfl⟩⟩; refine ⟨_, rfl, ?_⟩))
      go_ret
      exact ⟨by first | rfl | (simp [errW_none, errW_some] <;> rfl) | (simp [*, errW_none, errW_some] <;> rfl), by repeat (first | (with_reducible first | exact HB.out | apply below_alloc | apply pw_below_drewN | apply below_drew1) | exact HB.out)⟩
end Go.Proofs.YtodkjmbmlobihaaGreatDoor.Q
end
section
namespace Go.Proofs.YtodkjmbmlobihaaGreatDoor.Q
open Go Go.RowKit Go.Lib Go.Proofs.YtodkjmbmlobihaaGreatDoorW.PrintWords Go.Proofs.YtodkjmbmlobihaaGreatDoorW.PrintLast Go.Proofs.YtodkjmbmlobihaaGreatDoorW.PrintMore Gw
set_option linter.unusedVariables false
set_option linter.unusedSimpArgs false
theorem rowcells {W : World} {base g n cap : Nat} {ok : Nat → Prop} {xs : List S24} (h : Kd.R k24 24 W base ok (.slice (some ⟨g, 0, none⟩) n cap) xs) (i : Nat) (hi : i < xs.length) :
 W.cell? ⟨g, i * 2, none⟩ = some (.string xs[i].f0) ∧ W.cell? ⟨g, i * 2 + 1, none⟩ = some (.string xs[i].f1) := by
 obtain ⟨hn, hnc, hC⟩ := Kd.R_reads' h
 obtain ⟨ad, e, hx0, hx1⟩ := at_T24 hC (i : Int) (by omega) (by omega)
 have hrd : rd_T24 xs (i : Int) = xs[i] := by simp [rd_T24, List.getD_eq_getElem?_getD, List.getElem?_eq_getElem hi]
 injection e with e
 subst e
 have ea : (⟨g, 0, none⟩ : Addr).add (i * 2) = ⟨g, i * 2, none⟩ := by unfold Addr.add; split <;> simp_all
 rw [hrd, Int.toNat_natCast, ea] at hx0 hx1
 exact ⟨hx0, hx1⟩
theorem store_node {W : World} {base g n cap : Nat} {ok : Nat → Prop} {xs : List S24} (h : Kd.R k24 24 W base ok (.slice (some ⟨g, 0, none⟩) n cap) xs) (i : Nat) (hi : i < xs.length) (x : S24) :
 Kd.R k24 24 ((W.setCell ⟨g, i * 2, none⟩ (.string x.f0)).setCell ⟨g, i * 2 + 1, none⟩ (.string x.f1)) base ok (.slice (some ⟨g, 0, none⟩) n cap) (xs.set i x) ∧ W.grownBy ((W.setCell ⟨g, i * 2, none⟩ (.string x.f0)).setCell ⟨g, i * 2 + 1, none⟩ (.string x.f1)) (some g) := by
 have hn := (Kd.R_reads' h).1
 have hc := rowcells h i hi
 have hs := Kd.R_seg (okp := fun _ => False) h (i : Int) (by omega) (by omega) (c := [.string xs[i].f0, .string xs[i].f1]) (seg := [.string x.f0, .string x.f1]) (j := 0) rfl (fun j u hu => by
  rw [Int.toNat_natCast]
  show W.cell? ⟨g, i * 2 + j, none⟩ = some u
  rcases j with _ | _ | j
  ·injection hu with hu; subst hu; exact hc.1
  ·injection hu with hu; subst hu; exact hc.2
  ·simp at hu) (Nat.le_refl _) (x' := x) (k24_mkM _ _ _ x) (fun _ h => h.elim)
 exact hs
end Go.Proofs.YtodkjmbmlobihaaGreatDoor.Q
end
section
namespace Go.Proofs.YtodkjmbmlobihaaGreatDoor.Q
open Go.RowKit Go.Proofs.YtodkjmbmlobihaaGreatDoorW.PrintWords Go.Proofs.YtodkjmbmlobihaaGreatDoorW.PrintLast Go.Proofs.YtodkjmbmlobihaaGreatDoorW.PrintMore Gw
set_option linter.unusedVariables false
set_option linter.unusedSimpArgs false
theorem Class_fin : ∀ c < 256, graftwoodref01_Class.f 5 (c : Nat) = some (cls c : Nat) := by decide +kernel
theorem Class_tot (c : Nat) (h : c < 256) (k : Nat) (hk : 5 ≤ k) : graftwoodref01_Class.f k (c : Int) = some ((cls c : Nat) : Int) := at_rounds (graftwoodref01_Class.mono _) hk (Class_fin c h)
theorem Parts_l0 (s : ByteArray) (hs : Small s) (sep : Nat) : ∀ (r : List Nat) (i f k : Nat) (acc : List ByteArray), (bs s).drop i = r → i ≤ s.size → f ≤ i → acc.length ≤ i → r.length < k →
 graftwoodref01_Parts.l0 k s (sep : Int) acc (f : Int) (i : Int) = some (acc ++ (glue (((bs s).take i).drop f) (parts sep r)).map ofB)
 | [], i, f, k, acc, hr, hi, hf, ha, hk => by
  have e := drop_nil hr hi
  unfold Small at hs
  obtain ⟨k, rfl⟩ : ∃ m, k = m + 1 := ⟨k - 1, by simp at hk; omega⟩
  simp only [graftwoodref01_Parts.l0]
  rw [if_neg (by omega), if_pos (by omega), if_pos (by omega), if_pos (by omega), Int.toNat_natCast, ext_ofB, e]
  simp [parts, glue]
 | c :: r, i, f, k, acc, hr, hi, hf, ha, hk => by
  obtain ⟨h1, h2, h3, h4⟩ := bt_drop hr
  obtain ⟨p, ps, hp⟩ := parts_cons sep r
  have hw := w1 h1 hs
  unfold Small at hs
  obtain ⟨k, rfl⟩ : ∃ m, k = m + 1 := ⟨k - 1, by simp at hk; omega⟩
  simp only [List.length_cons] at hk
  simp only [graftwoodref01_Parts.l0]
  rw [if_pos (by omega), if_pos (by omega), h2]
  by_cases hc : c = sep
  ·rw [if_pos (by omega), if_pos (by omega), if_pos (by omega), if_pos (by omega), if_pos (by omega), hw, Int.toNat_natCast, Int.toNat_natCast, ext_ofB,
    Parts_l0 s hs sep r (i + 1) (i + 1) k _ h3 (by omega) (by omega) (by simp; omega) (by omega), hc, parts_sep, hp]
   have e0 : ((bs s).take (i + 1)).drop (i + 1) = [] := List.drop_eq_nil_of_le (by rw [List.length_take]; omega)
   rw [e0]
   simp [glue]
  ·rw [if_neg (by omega), hw, Parts_l0 s hs sep r (i + 1) f k _ h3 (by omega) (by omega) (by omega) (by omega), parts_other hc hp, hp, cur_snoc hr hf]
   simp [glue]
theorem Parts_tot (s : ByteArray) (hs : Small s) (sep k : Nat) (hk : s.size < k) : graftwoodref01_Parts.f k s (sep : Int) = some ((parts sep (bs s)).map ofB) := by
 unfold graftwoodref01_Parts.f
 have := Parts_l0 s hs sep (bs s) 0 0 k [] rfl (Nat.zero_le _) (Nat.le_refl _) (Nat.le_refl _) (by rw [bs_length]; exact hk)
 rw [show ((0 : Int)) = ((0 : Nat) : Int) from rfl, this]
 obtain ⟨p, ps, hp⟩ := parts_cons sep (bs s)
 simp [hp, glue]
theorem digit_tot (c : Nat) (h : c < 256) : graftwoodref02_digit.f (c : Int) = some (if dig c then (c : Int) - 48 else -1) := by
 unfold graftwoodref02_digit.f dig
 by_cases h1 : c < 48
 ·rw [if_pos (by omega), if_neg (by simp; omega)]
 ·rw [if_neg (by omega)]
  by_cases h2 : c > 57
  ·rw [if_pos (by omega), if_neg (by simp; omega)]
  ·rw [if_neg (by omega), if_pos (by simp; omega)]
   congr 1
   unfold wrap64; omega
theorem ref2May_l0 (s : ByteArray) (hs : Small s) : ∀ (r : List Nat) (i k : Nat), (bs s).drop i = r → i ≤ s.size → r.length < k →
 graftwoodref02_May.l0 k s (i : Int) = some (r.all dig && match bs s with | [] => false | c :: r => r.isEmpty || c != 48)
 | [], i, k, hr, hi, hk => by
  have e := drop_nil hr hi
  obtain ⟨k, rfl⟩ : ∃ m, k = m + 1 := ⟨k - 1, by omega⟩
  simp only [graftwoodref02_May.l0]
  rw [if_neg (by omega)]
  cases hb : bs s with
  | nil =>
   have h0 : s.size = 0 := by rw [← bs_length, hb]; rfl
   rw [if_neg (by omega), if_neg (by omega)]; rfl
  | cons c r =>
   have h0 : s.size = r.length + 1 := by rw [← bs_length, hb]; rfl
   have hd : (bs s).drop 0 = c :: r := by simpa using hb
   have hc := (bt_drop hd).2.1
   rw [show ((0 : Nat) : Int) = 0 from rfl] at hc
   cases r with
   | nil => rw [if_pos (by simp at h0; omega)]; rfl
   | cons d r =>
    simp only [List.length_cons] at h0
    rw [if_neg (by omega), if_pos (by omega), if_pos (by omega), hc]
    simp
    rw [Bool.eq_iff_iff]; simp; omega
 | c :: r, i, k, hr, hi, hk => by
  obtain ⟨h1, h2, h3, h4⟩ := bt_drop hr
  have hw := w1 h1 hs
  obtain ⟨k, rfl⟩ : ∃ m, k = m + 1 := ⟨k - 1, by omega⟩
  simp only [List.length_cons] at hk
  simp only [graftwoodref02_May.l0]
  rw [if_pos (by omega), if_pos (by omega), h2, digit_tot c h4]
  simp only [Option.bind_some]
  by_cases hc : dig c = true
  ·have hcc : 48 ≤ c := by simp [dig] at hc; omega
   rw [if_pos hc, if_neg (by omega), hw, ref2May_l0 s hs r (i + 1) k h3 (by omega) (by omega), List.all_cons, hc, Bool.true_and]
  ·rw [if_neg hc, if_pos (by omega), List.all_cons, Bool.eq_false_iff.2 hc, Bool.false_and, Bool.false_and]
theorem ref2May_tot (s : ByteArray) (hs : Small s) (k : Nat) (hk : s.size < k) : graftwoodref02_May.f k s = some (isNum (bs s)) := by
 unfold graftwoodref02_May.f
 rw [show (0 : Int) = ((0 : Nat) : Int) from rfl, ref2May_l0 s hs (bs s) 0 k rfl (Nat.zero_le _) (by rw [bs_length]; exact hk)]
 rfl
theorem Word_l0 (s : ByteArray) (hs : Small s) : ∀ (r : List Nat) (i k : Nat) (b : Bool), (bs s).drop i = r → i ≤ s.size → r.length + s.size + 6 < k →
 graftwoodref03_Word.l0 k s b (i : Int) = some (r.all wch && !(bs s).isEmpty && (!(b && r.all dig) || isNum (bs s)))
 | [], i, k, b, hr, hi, hk => by
  have e := drop_nil hr hi
  obtain ⟨k, rfl⟩ : ∃ m, k = m + 1 := ⟨k - 1, by omega⟩
  simp only [graftwoodref03_Word.l0]
  rw [if_neg (by omega)]
  have hl := bs_length s
  cases hb : bs s with
  | nil => rw [hb] at hl; rw [if_neg (by simp at hl; omega)]; rfl
  | cons c r =>
   rw [hb] at hl
   rw [if_pos (by simp at hl; omega)]
   cases b with
   | true => rw [if_pos rfl, ref2May_tot s hs k (by omega), hb]; simp
   | false => rw [if_neg (by decide)]; simp
 | c :: r, i, k, b, hr, hi, hk => by
  obtain ⟨h1, h2, h3, h4⟩ := bt_drop hr
  have hw := w1 h1 hs
  obtain ⟨k, rfl⟩ : ∃ m, k = m + 1 := ⟨k - 1, by omega⟩
  simp only [List.length_cons] at hk
  simp only [graftwoodref03_Word.l0]
  rw [if_pos (by omega), if_pos (by omega), h2, Class_tot c h4 k (by omega)]
  simp only [Option.bind_some]
  have d1 := cls_dig c h4
  have d2 := cls_let c h4
  by_cases hd : dig c = true
  ·have hww : wch c = true := by simp [wch, hd]
   rw [if_pos (by have := d1.2 hd; omega), hw, Word_l0 s hs r (i + 1) k b h3 (by omega) (by omega), List.all_cons, List.all_cons, hd, hww, Bool.true_and, Bool.true_and]
  ·have hdf := Bool.eq_false_iff.2 hd
   rw [if_neg (fun h => hd (d1.1 (by omega)))]
   by_cases hl : let_ c = true
   ·have hww : wch c = true := by simp [wch, hl]
    rw [if_pos (by have := d2.2 hl; omega), hw, Word_l0 s hs r (i + 1) k false h3 (by omega) (by omega), List.all_cons, List.all_cons, hdf, hww]
    simp
   ·rw [if_neg (fun h => hl (d2.1 (by omega)))]
    by_cases h45 : c = 45
    ·have hww : wch c = true := by simp [wch, h45]
     rw [if_pos (by omega), hw, Word_l0 s hs r (i + 1) k false h3 (by omega) (by omega), List.all_cons, List.all_cons, hdf, hww]
     simp
    ·have hww : wch c = false := by simp [wch, hdf, Bool.eq_false_iff.2 hl, h45]
     rw [if_neg (by omega), List.all_cons, hww, Bool.false_and, Bool.false_and, Bool.false_and]
theorem Word_tot (s : ByteArray) (hs : Small s) (k : Nat) (hk : 2 * s.size + 6 < k) : graftwoodref03_Word.f k s = some (isWord (bs s)) := by
 unfold graftwoodref03_Word.f
 rw [show (0 : Int) = ((0 : Nat) : Int) from rfl, Word_l0 s hs (bs s) 0 k true rfl (Nat.zero_le _) (by rw [bs_length]; omega)]
 unfold isWord
 rw [Bool.true_and, Bool.and_comm ((bs s).all wch)]
end Go.Proofs.YtodkjmbmlobihaaGreatDoor.Q
end
section
namespace Go.Proofs
open Go.Shelf
def Tryz.sortDeep_ren : Go.Shelf.Ren := ⟨fun | 6 => 22 | 15 => 39 | 14 => 38 | 28 => 58 | 29 => 59 | 20 => 50 | 21 => 51 | 22 => 52 | 23 => 53 | 24 => 54 | 25 => 55 | 26 => 56 | 27 => 57 | 46 => 67 | 47 => 68 | 48 => 69 | 49 => 70 | 50 => 71 | 57 => 82 | n => n, fun | 22 => 27 | 24 => 46 | 25 => 56 | 3 => 3 | 39 => 69 | 0 => 0 | 53 => 88 | 55 => 90 | 4 => 4 | 46 => 82 | 45 => 81 | 50 => 57 | 5 => 5 | 9 => 9 | 66 => 97 | 70 => 101 | 76 => 108 | 77 => 109 | n => n, fun | n => n⟩
theorem Tryz.sortDeep : Go.Proofs.SlLaysF0.n6 Tryz.prog Tryz.sortDeep_ren := {
 mixed := by kernel_rfl
 f6 := ⟨Tryz.f22.name, by decide, Tryz.func22.trans (congrArg some (by kernel_rfl))⟩
 f14 := ⟨Tryz.f38.name, by decide, Tryz.func38.trans (congrArg some (by kernel_rfl))⟩
 f15 := Tryz.func39.trans (congrArg some (by kernel_rfl))
 f20 := ⟨Tryz.f50.name, by decide, Tryz.func50.trans (congrArg some (by kernel_rfl))⟩
 f21 := ⟨Tryz.f51.name, by decide, Tryz.func51.trans (congrArg some (by kernel_rfl))⟩
 f22 := ⟨Tryz.f52.name, by decide, Tryz.func52.trans (congrArg some (by kernel_rfl))⟩
 f23 := ⟨Tryz.f53.name, by decide, Tryz.func53.trans (congrArg some (by kernel_rfl))⟩
 f24 := ⟨Tryz.f54.name, by decide, Tryz.func54.trans (congrArg some (by kernel_rfl))⟩
 f25 := ⟨Tryz.f55.name, by decide, Tryz.func55.trans (congrArg some (by kernel_rfl))⟩
 f26 := ⟨Tryz.f56.name, by decide, Tryz.func56.trans (congrArg some (by kernel_rfl))⟩
 f27 := ⟨Tryz.f57.name, by decide, Tryz.func57.trans (congrArg some (by kernel_rfl))⟩
 f28 := Tryz.func58.trans (congrArg some (by kernel_rfl))
 f29 := Tryz.func59.trans (congrArg some (by kernel_rfl))
 f46 := ⟨Tryz.f67.name, by decide, Tryz.func67.trans (congrArg some (by kernel_rfl))⟩
 f47 := Tryz.func68.trans (congrArg some (by kernel_rfl))
 f48 := Tryz.func69.trans (congrArg some (by kernel_rfl))
 f49 := ⟨Tryz.f70.name, by decide, Tryz.func70.trans (congrArg some (by kernel_rfl))⟩
 f50 := ⟨Tryz.f71.name, by decide, Tryz.func71.trans (congrArg some (by kernel_rfl))⟩
 f57 := ⟨Tryz.f82.name, by decide, Tryz.func82.trans (congrArg some (by kernel_rfl))⟩
 t0 := Tryz.underlying0
 a0 := Tryz.isAgg0
 z0 := Tryz.sizeOf0
 v0 := Tryz.zeroValue0
 t3 := Tryz.underlying3
 a3 := Tryz.isAgg3
 z3 := Tryz.sizeOf3
 v3 := Tryz.zeroValue3
 t4 := Tryz.underlying4
 a4 := Tryz.isAgg4
 z4 := Tryz.sizeOf4
 v4 := Tryz.zeroValue4
 t5 := Tryz.underlying5
 a5 := Tryz.isAgg5
 z5 := Tryz.sizeOf5
 v5 := Tryz.zeroValue5
 t9 := Tryz.underlying9
 a9 := Tryz.isAgg9
 z9 := Tryz.sizeOf9
 v9 := Tryz.zeroValue9
 t22 := Tryz.underlying27
 a22 := Tryz.isAgg27
 z22 := Tryz.sizeOf27
 v22 := Tryz.zeroValue27
 t25 := Tryz.underlying56
 a25 := Tryz.isAgg56
 z25 := Tryz.sizeOf56
 v25 := Tryz.zeroValue56
 t39 := Tryz.underlying69
 a39 := Tryz.isAgg69
 z39 := Tryz.sizeOf69
 v39 := Tryz.zeroValue69
 t45 := Tryz.underlying81
 a45 := Tryz.isAgg81
 z45 := Tryz.sizeOf81
 v45 := Tryz.zeroValue81
 t46 := Tryz.underlying82
 a46 := Tryz.isAgg82
 z46 := Tryz.sizeOf82
 v46 := Tryz.zeroValue82
 t50 := Tryz.underlying57
 a50 := Tryz.isAgg57
 z50 := Tryz.sizeOf57
 v50 := Tryz.zeroValue57
 t53 := Tryz.underlying88
 a53 := Tryz.isAgg88
 z53 := Tryz.sizeOf88
 v53 := Tryz.zeroValue88
 t55 := Tryz.underlying90
 a55 := Tryz.isAgg90
 z55 := Tryz.sizeOf90
 v55 := Tryz.zeroValue90
 t66 := Tryz.underlying97
 a66 := Tryz.isAgg97
 z66 := Tryz.sizeOf97
 v66 := Tryz.zeroValue97
 t70 := Tryz.underlying101
 a70 := Tryz.isAgg101
 z70 := Tryz.sizeOf101
 v70 := Tryz.zeroValue101
 t76 := Tryz.underlying108
 a76 := Tryz.isAgg108
 z76 := Tryz.sizeOf108
 v76 := Tryz.zeroValue108
 t77 := Tryz.underlying109
 a77 := Tryz.isAgg109
 z77 := Tryz.sizeOf109
 v77 := Tryz.zeroValue109 }
end Go.Proofs
end
section
namespace Go.Proofs
open Go.Shelf
set_option maxRecDepth 100000
def Tryz.lays119_ren : Go.Shelf.Ren := ⟨fun | 119 => 118 | n => n, fun | 21 => 21 | 4 => 4 | n => n, fun | n => n⟩
theorem Tryz.lays119 : Go.Proofs.Lays.n119 Tryz.prog Tryz.lays119_ren := {
 mixed := by kernel_rfl
 f119 := Tryz.func118.trans (congrArg some (by kernel_rfl))
 t4 := Tryz.underlying4
 a4 := Tryz.isAgg4
 z4 := Tryz.sizeOf4
 v4 := Tryz.zeroValue4
 t21 := Tryz.underlying21
 a21 := Tryz.isAgg21
 z21 := Tryz.sizeOf21
 v21 := Tryz.zeroValue21 }
theorem Tryz.utf8_ValidRune (r : Int) (w : World) :
 Calls Tryz.prog 118 #[.int .i32 r] w fun e w' => e = .returned (.bool (Lib.validRune r)) ∧ w' = w := Any.utf8_ValidRune Tryz.lays119 r w
def Tryz.lays137_ren : Go.Shelf.Ren := ⟨fun | 137 => 117 | 217 => 104 | 266 => 115 | n => n, fun | 9 => 9 | 5 => 5 | 3 => 3 | n => n, fun | n => n⟩
theorem Tryz.lays137 : Go.Proofs.Lays.n137 Tryz.prog Tryz.lays137_ren := {
 mixed := by kernel_rfl
 f137 := Tryz.func117.trans (congrArg some (by kernel_rfl))
 f217 := Tryz.func104.trans (congrArg some (by kernel_rfl))
 f266 := Tryz.func115.trans (congrArg some (by kernel_rfl))
 t3 := Tryz.underlying3
 a3 := Tryz.isAgg3
 z3 := Tryz.sizeOf3
 v3 := Tryz.zeroValue3
 t5 := Tryz.underlying5
 a5 := Tryz.isAgg5
 z5 := Tryz.sizeOf5
 v5 := Tryz.zeroValue5
 t9 := Tryz.underlying9
 a9 := Tryz.isAgg9
 z9 := Tryz.sizeOf9
 v9 := Tryz.zeroValue9 }
open Go.RowKit in
theorem Tryz.strings_IndexByte (s : ByteArray) (c : Int) (w : World) :
 Calls Tryz.prog 117 #[.string s, .int .u8 c] w fun e w' => e = .returned (.int .i64 (Lib.indexByte s.data.toList c.toNat.toUInt8)) ∧ w' = w := Any.strings_IndexByte Tryz.lays137 s c w
def Tryz.lays219_ren : Go.Shelf.Ren := ⟨fun | 219 => 98 | 217 => 104 | 225 => 105 | 224 => 106 | 267 => 107 | 266 => 115 | 314 => 116 | n => n, fun | 9 => 9 | 3 => 3 | 4 => 4 | 5 => 5 | 46 => 69 | 146 => 136 | 51 => 88 | n => n, fun | 1 => 0 | n => n⟩
theorem Tryz.lays219 : Go.Proofs.Lays.n219 Tryz.prog Tryz.lays219_ren := {
 mixed := by kernel_rfl
 f217 := Tryz.func104.trans (congrArg some (by kernel_rfl))
 f219 := Tryz.func98.trans (congrArg some (by kernel_rfl))
 f224 := Tryz.func106.trans (congrArg some (by kernel_rfl))
 f225 := Tryz.func105.trans (congrArg some (by kernel_rfl))
 f266 := Tryz.func115.trans (congrArg some (by kernel_rfl))
 f267 := Tryz.func107.trans (congrArg some (by kernel_rfl))
 f314 := Tryz.func116.trans (congrArg some (by kernel_rfl))
 t3 := Tryz.underlying3
 a3 := Tryz.isAgg3
 z3 := Tryz.sizeOf3
 v3 := Tryz.zeroValue3
 t4 := Tryz.underlying4
 a4 := Tryz.isAgg4
 z4 := Tryz.sizeOf4
 v4 := Tryz.zeroValue4
 t5 := Tryz.underlying5
 a5 := Tryz.isAgg5
 z5 := Tryz.sizeOf5
 v5 := Tryz.zeroValue5
 t9 := Tryz.underlying9
 a9 := Tryz.isAgg9
 z9 := Tryz.sizeOf9
 v9 := Tryz.zeroValue9
 t46 := Tryz.underlying69
 a46 := Tryz.isAgg69
 z46 := Tryz.sizeOf69
 v46 := Tryz.zeroValue69
 t51 := Tryz.underlying88
 a51 := Tryz.isAgg88
 z51 := Tryz.sizeOf88
 v51 := Tryz.zeroValue88
 t146 := Tryz.underlying136
 a146 := Tryz.isAgg136
 z146 := Tryz.sizeOf136
 v146 := Tryz.zeroValue136
 g1 := by kernel_rfl }
open Go.RowKit Go.Lib in
theorem Tryz.stringslite_Index_one (s : ByteArray) (c : UInt8) (w : World) :
 Calls Tryz.prog 98 #[.string s, .string ⟨#[c]⟩] w fun e w' => e = .returned (.int .i64 (Lib.indexByte s.data.toList c)) ∧ w' = w := Any.stringslite_Index_one Tryz.lays219 s c w
def Tryz.lays143_ren : Go.Shelf.Ren := ⟨fun | 143 => 103 | 219 => 98 | 217 => 104 | 225 => 105 | 224 => 106 | 267 => 107 | 266 => 115 | 314 => 116 | n => n, fun | 9 => 9 | 3 => 3 | 4 => 4 | 5 => 5 | 46 => 69 | 146 => 136 | 51 => 88 | n => n, fun | 1 => 0 | n => n⟩
theorem Tryz.lays143 : Go.Proofs.Lays.n143 Tryz.prog Tryz.lays143_ren := {
 mixed := by kernel_rfl
 f143 := Tryz.func103.trans (congrArg some (by kernel_rfl))
 f217 := Tryz.func104.trans (congrArg some (by kernel_rfl))
 f219 := Tryz.func98.trans (congrArg some (by kernel_rfl))
 f224 := Tryz.func106.trans (congrArg some (by kernel_rfl))
 f225 := Tryz.func105.trans (congrArg some (by kernel_rfl))
 f266 := Tryz.func115.trans (congrArg some (by kernel_rfl))
 f267 := Tryz.func107.trans (congrArg some (by kernel_rfl))
 f314 := Tryz.func116.trans (congrArg some (by kernel_rfl))
 t3 := Tryz.underlying3
 a3 := Tryz.isAgg3
 z3 := Tryz.sizeOf3
 v3 := Tryz.zeroValue3
 t4 := Tryz.underlying4
 a4 := Tryz.isAgg4
 z4 := Tryz.sizeOf4
 v4 := Tryz.zeroValue4
 t5 := Tryz.underlying5
 a5 := Tryz.isAgg5
 z5 := Tryz.sizeOf5
 v5 := Tryz.zeroValue5
 t9 := Tryz.underlying9
 a9 := Tryz.isAgg9
 z9 := Tryz.sizeOf9
 v9 := Tryz.zeroValue9
 t46 := Tryz.underlying69
 a46 := Tryz.isAgg69
 z46 := Tryz.sizeOf69
 v46 := Tryz.zeroValue69
 t51 := Tryz.underlying88
 a51 := Tryz.isAgg88
 z51 := Tryz.sizeOf88
 v51 := Tryz.zeroValue88
 t146 := Tryz.underlying136
 a146 := Tryz.isAgg136
 z146 := Tryz.sizeOf136
 v146 := Tryz.zeroValue136
 g1 := by kernel_rfl }
open Go.RowKit Go.Lib in
theorem Tryz.strings_Index_one (s : ByteArray) (c : UInt8) (w : World) :
 Calls Tryz.prog 103 #[.string s, .string ⟨#[c]⟩] w fun e w' => e = .returned (.int .i64 (Lib.indexByte s.data.toList c)) ∧ w' = w := Any.strings_Index_one Tryz.lays143 s c w
def Tryz.lays138_ren : Go.Shelf.Ren := ⟨fun | 138 => 102 | 195 => 112 | 218 => 114 | 143 => 103 | 219 => 98 | 217 => 104 | 225 => 105 | 224 => 106 | 267 => 107 | 266 => 115 | 314 => 116 | n => n, fun | 9 => 9 | 3 => 3 | 4 => 4 | 5 => 5 | 0 => 0 | 46 => 69 | 146 => 136 | 51 => 88 | n => n, fun | 1 => 0 | n => n⟩
theorem Tryz.lays138 : Go.Proofs.Lays.n138 Tryz.prog Tryz.lays138_ren := {
 mixed := by kernel_rfl
 f138 := Tryz.func102.trans (congrArg some (by kernel_rfl))
 f143 := Tryz.func103.trans (congrArg some (by kernel_rfl))
 f195 := Tryz.func112.trans (congrArg some (by kernel_rfl))
 f217 := Tryz.func104.trans (congrArg some (by kernel_rfl))
 f218 := Tryz.func114.trans (congrArg some (by kernel_rfl))
 f219 := Tryz.func98.trans (congrArg some (by kernel_rfl))
 f224 := Tryz.func106.trans (congrArg some (by kernel_rfl))
 f225 := Tryz.func105.trans (congrArg some (by kernel_rfl))
 f266 := Tryz.func115.trans (congrArg some (by kernel_rfl))
 f267 := Tryz.func107.trans (congrArg some (by kernel_rfl))
 f314 := Tryz.func116.trans (congrArg some (by kernel_rfl))
 t0 := Tryz.underlying0
 a0 := Tryz.isAgg0
 z0 := Tryz.sizeOf0
 v0 := Tryz.zeroValue0
 t3 := Tryz.underlying3
 a3 := Tryz.isAgg3
 z3 := Tryz.sizeOf3
 v3 := Tryz.zeroValue3
 t4 := Tryz.underlying4
 a4 := Tryz.isAgg4
 z4 := Tryz.sizeOf4
 v4 := Tryz.zeroValue4
 t5 := Tryz.underlying5
 a5 := Tryz.isAgg5
 z5 := Tryz.sizeOf5
 v5 := Tryz.zeroValue5
 t9 := Tryz.underlying9
 a9 := Tryz.isAgg9
 z9 := Tryz.sizeOf9
 v9 := Tryz.zeroValue9
 t46 := Tryz.underlying69
 a46 := Tryz.isAgg69
 z46 := Tryz.sizeOf69
 v46 := Tryz.zeroValue69
 t51 := Tryz.underlying88
 a51 := Tryz.isAgg88
 z51 := Tryz.sizeOf88
 v51 := Tryz.zeroValue88
 t146 := Tryz.underlying136
 a146 := Tryz.isAgg136
 z146 := Tryz.sizeOf136
 v146 := Tryz.zeroValue136
 g1 := by kernel_rfl }
open Go.RowKit Go.Lib in
theorem Tryz.strings_Count_one (s : ByteArray) (c : UInt8) (w : World) :
 Calls Tryz.prog 102 #[.string s, .string ⟨#[c]⟩] w fun e w' => e = .returned (.int .i64 (Lib.countByte s.data.toList c)) ∧ w' = w := Any.strings_Count_one Tryz.lays138 s c w
def Tryz.lays99_ren : Go.Shelf.Ren := ⟨fun | 99 => 77 | 206 => 89 | n => n, fun | 9 => 9 | 4 => 4 | 3 => 3 | n => n, fun | n => n⟩
theorem Tryz.lays99 : Go.Proofs.Lays.n99 Tryz.prog Tryz.lays99_ren := {
 mixed := by kernel_rfl
 f99 := Tryz.func77.trans (congrArg some (by kernel_rfl))
 f206 := Tryz.func89.trans (congrArg some (by kernel_rfl))
 t3 := Tryz.underlying3
 a3 := Tryz.isAgg3
 z3 := Tryz.sizeOf3
 v3 := Tryz.zeroValue3
 t4 := Tryz.underlying4
 a4 := Tryz.isAgg4
 z4 := Tryz.sizeOf4
 v4 := Tryz.zeroValue4
 t9 := Tryz.underlying9
 a9 := Tryz.isAgg9
 z9 := Tryz.sizeOf9
 v9 := Tryz.zeroValue9 }
open Go.RowKit Go.Lib in
theorem Tryz.strings_HasPrefix (s p : ByteArray) (w : World) :
 Calls Tryz.prog 77 #[.string s, .string p] w fun e w' => e = .returned (.bool (Lib.hasPrefix s.data.toList p.data.toList)) ∧ w' = w := Any.strings_HasPrefix Tryz.lays99 s p w
def Tryz.lays221_ren : Go.Shelf.Ren := ⟨fun | 221 => 96 | 268 => 101 | 138 => 102 | 143 => 103 | 195 => 112 | 197 => 113 | 218 => 114 | 219 => 98 | 260 => 119 | 217 => 104 | 225 => 105 | 224 => 106 | 267 => 107 | 266 => 115 | 314 => 116 | n => n, fun | 9 => 9 | 3 => 3 | 31 => 72 | 4 => 4 | 0 => 0 | 105 => 134 | 21 => 21 | 5 => 5 | 46 => 69 | 119 => 140 | 139 => 143 | 138 => 142 | 146 => 136 | 51 => 88 | n => n, fun | 1 => 0 | 3 => 1 | 4 => 2 | n => n⟩
theorem Tryz.lays221 : Go.Proofs.Lays.n221 Tryz.prog Tryz.lays221_ren := {
 mixed := by kernel_rfl
 f138 := Tryz.func102.trans (congrArg some (by kernel_rfl))
 f143 := Tryz.func103.trans (congrArg some (by kernel_rfl))
 f195 := Tryz.func112.trans (congrArg some (by kernel_rfl))
 f197 := Tryz.func113.trans (congrArg some (by kernel_rfl))
 f217 := Tryz.func104.trans (congrArg some (by kernel_rfl))
 f218 := Tryz.func114.trans (congrArg some (by kernel_rfl))
 f219 := Tryz.func98.trans (congrArg some (by kernel_rfl))
 f221 := Tryz.func96.trans (congrArg some (by kernel_rfl))
 f224 := Tryz.func106.trans (congrArg some (by kernel_rfl))
 f225 := Tryz.func105.trans (congrArg some (by kernel_rfl))
 f260 := Tryz.func119.trans (congrArg some (by kernel_rfl))
 f266 := Tryz.func115.trans (congrArg some (by kernel_rfl))
 f267 := Tryz.func107.trans (congrArg some (by kernel_rfl))
 f268 := Tryz.func101.trans (congrArg some (by kernel_rfl))
 f314 := Tryz.func116.trans (congrArg some (by kernel_rfl))
 t0 := Tryz.underlying0
 a0 := Tryz.isAgg0
 z0 := Tryz.sizeOf0
 v0 := Tryz.zeroValue0
 t3 := Tryz.underlying3
 a3 := Tryz.isAgg3
 z3 := Tryz.sizeOf3
 v3 := Tryz.zeroValue3
 t4 := Tryz.underlying4
 a4 := Tryz.isAgg4
 z4 := Tryz.sizeOf4
 v4 := Tryz.zeroValue4
 t5 := Tryz.underlying5
 a5 := Tryz.isAgg5
 z5 := Tryz.sizeOf5
 v5 := Tryz.zeroValue5
 t9 := Tryz.underlying9
 a9 := Tryz.isAgg9
 z9 := Tryz.sizeOf9
 v9 := Tryz.zeroValue9
 t21 := Tryz.underlying21
 a21 := Tryz.isAgg21
 z21 := Tryz.sizeOf21
 v21 := Tryz.zeroValue21
 t31 := Tryz.underlying72
 a31 := Tryz.isAgg72
 z31 := Tryz.sizeOf72
 v31 := Tryz.zeroValue72
 t46 := Tryz.underlying69
 a46 := Tryz.isAgg69
 z46 := Tryz.sizeOf69
 v46 := Tryz.zeroValue69
 t51 := Tryz.underlying88
 a51 := Tryz.isAgg88
 z51 := Tryz.sizeOf88
 v51 := Tryz.zeroValue88
 t105 := Tryz.underlying134
 a105 := Tryz.isAgg134
 z105 := Tryz.sizeOf134
 v105 := Tryz.zeroValue134
 t119 := Tryz.underlying140
 a119 := Tryz.isAgg140
 z119 := Tryz.sizeOf140
 t138 := Tryz.underlying142
 a138 := Tryz.isAgg142
 z138 := Tryz.sizeOf142
 v138 := Tryz.zeroValue142
 t139 := Tryz.underlying143
 a139 := Tryz.isAgg143
 z139 := Tryz.sizeOf143
 v139 := Tryz.zeroValue143
 t146 := Tryz.underlying136
 a146 := Tryz.isAgg136
 z146 := Tryz.sizeOf136
 v146 := Tryz.zeroValue136
 g1 := by kernel_rfl
 g3 := by kernel_rfl
 g4 := by kernel_rfl }
def Tryz.lays152_ren : Go.Shelf.Ren := ⟨fun | 152 => 108 | 137 => 117 | 119 => 118 | 224 => 106 | 225 => 105 | 217 => 104 | 266 => 115 | n => n, fun | 9 => 9 | 21 => 21 | 3 => 3 | 4 => 4 | 5 => 5 | 0 => 0 | 46 => 69 | n => n, fun | n => n⟩
theorem Tryz.lays152 : Go.Proofs.Lays.n152 Tryz.prog Tryz.lays152_ren := {
 mixed := by kernel_rfl
 f119 := Tryz.func118.trans (congrArg some (by kernel_rfl))
 f137 := Tryz.func117.trans (congrArg some (by kernel_rfl))
 f152 := Tryz.func108.trans (congrArg some (by kernel_rfl))
 f217 := Tryz.func104.trans (congrArg some (by kernel_rfl))
 f224 := Tryz.func106.trans (congrArg some (by kernel_rfl))
 f225 := Tryz.func105.trans (congrArg some (by kernel_rfl))
 f266 := Tryz.func115.trans (congrArg some (by kernel_rfl))
 t0 := Tryz.underlying0
 a0 := Tryz.isAgg0
 z0 := Tryz.sizeOf0
 v0 := Tryz.zeroValue0
 t3 := Tryz.underlying3
 a3 := Tryz.isAgg3
 z3 := Tryz.sizeOf3
 v3 := Tryz.zeroValue3
 t4 := Tryz.underlying4
 a4 := Tryz.isAgg4
 z4 := Tryz.sizeOf4
 v4 := Tryz.zeroValue4
 t5 := Tryz.underlying5
 a5 := Tryz.isAgg5
 z5 := Tryz.sizeOf5
 v5 := Tryz.zeroValue5
 t9 := Tryz.underlying9
 a9 := Tryz.isAgg9
 z9 := Tryz.sizeOf9
 v9 := Tryz.zeroValue9
 t21 := Tryz.underlying21
 a21 := Tryz.isAgg21
 z21 := Tryz.sizeOf21
 v21 := Tryz.zeroValue21
 t46 := Tryz.underlying69
 a46 := Tryz.isAgg69
 z46 := Tryz.sizeOf69
 v46 := Tryz.zeroValue69 }
open Go.RowKit Go.Lib in
theorem Tryz.strings_IndexRune_ascii (s : ByteArray) (r : Int) (w : World) (h0 : 0 ≤ r) (h1 : r < 128) :
 Calls Tryz.prog 108 #[.string s, .int .i32 r] w fun e w' => e = .returned (.int .i64 (Lib.indexByte s.data.toList r.toNat.toUInt8)) ∧ w' = w := Any.strings_IndexRune_ascii Tryz.lays152 s r w h0 h1
def Tryz.lays226_ren : Go.Shelf.Ren := ⟨fun | 226 => 109 | n => n, fun | 3 => 3 | 4 => 4 | n => n, fun | n => n⟩
theorem Tryz.lays226 : Go.Proofs.Lays.n226 Tryz.prog Tryz.lays226_ren := {
 mixed := by kernel_rfl
 f226 := Tryz.func109.trans (congrArg some (by kernel_rfl))
 t3 := Tryz.underlying3
 a3 := Tryz.isAgg3
 z3 := Tryz.sizeOf3
 v3 := Tryz.zeroValue3
 t4 := Tryz.underlying4
 a4 := Tryz.isAgg4
 z4 := Tryz.sizeOf4
 v4 := Tryz.zeroValue4 }
open Go.RowKit Go.Lib in
theorem Tryz.strings_shouldUseASCIISet (n : Int) (w : World) :
 Calls Tryz.prog 109 #[.int .i64 n] w fun e w' => e = .returned (.bool (decide (8 < n))) ∧ w' = w := Any.strings_shouldUseASCIISet Tryz.lays226 n w
def Tryz.lays153_ren : Go.Shelf.Ren := ⟨fun | 153 => 100 | 152 => 108 | 226 => 109 | 227 => 110 | 228 => 111 | 137 => 117 | 119 => 118 | 224 => 106 | 225 => 105 | 217 => 104 | 266 => 115 | n => n, fun | 9 => 9 | 3 => 3 | 4 => 4 | 5 => 5 | 21 => 21 | 117 => 130 | 116 => 129 | 0 => 0 | 46 => 69 | 124 => 139 | n => n, fun | n => n⟩
theorem Tryz.lays153 : Go.Proofs.Lays.n153 Tryz.prog Tryz.lays153_ren := {
 mixed := by kernel_rfl
 f119 := Tryz.func118.trans (congrArg some (by kernel_rfl))
 f137 := Tryz.func117.trans (congrArg some (by kernel_rfl))
 f152 := Tryz.func108.trans (congrArg some (by kernel_rfl))
 f153 := Tryz.func100.trans (congrArg some (by kernel_rfl))
 f217 := Tryz.func104.trans (congrArg some (by kernel_rfl))
 f224 := Tryz.func106.trans (congrArg some (by kernel_rfl))
 f225 := Tryz.func105.trans (congrArg some (by kernel_rfl))
 f226 := Tryz.func109.trans (congrArg some (by kernel_rfl))
 f227 := Tryz.func110.trans (congrArg some (by kernel_rfl))
 f228 := Tryz.func111.trans (congrArg some (by kernel_rfl))
 f266 := Tryz.func115.trans (congrArg some (by kernel_rfl))
 t0 := Tryz.underlying0
 a0 := Tryz.isAgg0
 z0 := Tryz.sizeOf0
 v0 := Tryz.zeroValue0
 t3 := Tryz.underlying3
 a3 := Tryz.isAgg3
 z3 := Tryz.sizeOf3
 v3 := Tryz.zeroValue3
 t4 := Tryz.underlying4
 a4 := Tryz.isAgg4
 z4 := Tryz.sizeOf4
 v4 := Tryz.zeroValue4
 t5 := Tryz.underlying5
 a5 := Tryz.isAgg5
 z5 := Tryz.sizeOf5
 v5 := Tryz.zeroValue5
 t9 := Tryz.underlying9
 a9 := Tryz.isAgg9
 z9 := Tryz.sizeOf9
 v9 := Tryz.zeroValue9
 t21 := Tryz.underlying21
 a21 := Tryz.isAgg21
 z21 := Tryz.sizeOf21
 v21 := Tryz.zeroValue21
 t46 := Tryz.underlying69
 a46 := Tryz.isAgg69
 z46 := Tryz.sizeOf69
 v46 := Tryz.zeroValue69
 t116 := Tryz.underlying129
 a116 := Tryz.isAgg129
 z116 := Tryz.sizeOf129
 t117 := Tryz.underlying130
 a117 := Tryz.isAgg130
 z117 := Tryz.sizeOf130
 v117 := Tryz.zeroValue130
 t124 := Tryz.underlying139
 a124 := Tryz.isAgg139
 z124 := Tryz.sizeOf139
 v124 := Tryz.zeroValue139 }
open Go.RowKit Go.Lib in
theorem Tryz.strings_IndexAny_short (s chars : ByteArray) (w : World) (h2 : 2 ≤ chars.size) (h8 : s.size ≤ 8) (hascii : ∀ (j : Nat) b, s.data.toList[j]? = some b → b.toNat < 128) :
 Calls Tryz.prog 100 #[.string s, .string chars] w fun e w' => e = .returned (.int .i64 (Lib.indexAny s.data.toList chars.data.toList)) ∧ ∃ pos, w' = w.iter s pos := Any.strings_IndexAny_short Tryz.lays153 s chars w h2 h8 hascii
open Go.RowKit Go.Lib in
theorem Tryz.strings_IndexAny_long (hv116 : ∀ w, (zeroValue 129).run Tryz.prog w = .ok (.agg (Array.replicate 256 (.bool false))) w) (s chars : ByteArray) (w : World) (h2 : 2 ≤ chars.size) (h8 : 8 < s.size) (hs : s.size < 4294967281) (hcs : chars.size < 4294967281) (hascii : ∀ (j : Nat) b, chars.data.toList[j]? = some b → b.toNat < 128) :
 Calls Tryz.prog 100 #[.string s, .string chars] w fun e w' => e = .returned (.int .i64 (Lib.indexAny s.data.toList chars.data.toList)) ∧ w' = ((w.alloc (.cells (Lib.setCells chars.data.toList) 129)).alloc (.cells (Lib.setCells chars.data.toList) 129)) := Any.strings_IndexAny_long Tryz.lays153 hv116 (by kernel_rfl) s chars w h2 h8 hs hcs hascii
end Go.Proofs
end
section
namespace Go.Proofs.YtodkjmbmlobihaaGreatDoor.QB.D
open Go.Proofs.YtodkjmbmlobihaaGreatDoor.Q
open Go.RowKit Go.Lib Go.Proofs.YtodkjmbmlobihaaGreatDoorW.PrintWords Go.Proofs.YtodkjmbmlobihaaGreatDoorW.PrintLast Go.Proofs.YtodkjmbmlobihaaGreatDoorW.PrintMore Gw
set_option linter.unusedVariables false
set_option linter.unusedSimpArgs false
abbrev Tiny (s : ByteArray) : Prop := s.size < 4294967281
theorem Tiny.small {s : ByteArray} (h : Tiny s) : Small s := by unfold Tiny at h; unfold Small; omega
theorem parts_no {sep : Nat} : ∀ {l : List Nat}, (∀ c ∈ l, c ≠ sep) → parts sep l = [l]
 | [], _ => rfl
 | c :: r, h => by rw [parts_other (h c List.mem_cons_self) (parts_no fun x hx => h x (List.mem_cons_of_mem _ hx))]
theorem parts_split {sep : Nat} (r : List Nat) : ∀ {l : List Nat}, (∀ c ∈ l, c ≠ sep) → parts sep (l ++ sep :: r) = l :: parts sep r
 | [], _ => by simp [parts_sep]
 | c :: l, h => by
  rw [List.cons_append, parts_other (h c List.mem_cons_self) (parts_split r fun x hx => h x (List.mem_cons_of_mem _ hx))]
def one (c : UInt8) : ByteArray := ⟨#[c]⟩
theorem idx_miss {s : ByteArray} {c : UInt8} (h : indexB s (one c) = -1) : ∀ x ∈ bs s, x ≠ c.toNat := by
 intro x hx
 rw [indexB, show (one c).data.toList = [c] from rfl, index_one] at h
 obtain ⟨u, hu, rfl⟩ := List.mem_map.1 hx
 intro e
 obtain rfl : u = c := UInt8.toNat_inj.1 e
 obtain ⟨k, hk⟩ := List.mem_iff_getElem?.1 hu
 exact indexByte_none h k hk
theorem idx_hit {s : ByteArray} {c : UInt8} {i : Nat} (h : indexB s (one c) = i) : i < s.size ∧ bs s = (bs s).take i ++ c.toNat :: (bs s).drop (i + 1) ∧ ∀ x ∈ (bs s).take i, x ≠ c.toNat := by
 rw [indexB, show (one c).data.toList = [c] from rfl, index_one] at h
 obtain ⟨h1, h2⟩ := indexByte_some h
 have hi : i < s.size := by
  have := (List.getElem?_eq_some_iff.1 h1).1
  rwa [Array.length_toList] at this
 have hg : (bs s)[i]? = some c.toNat := by simp [bs, h1]
 have hlt : i < (bs s).length := by rw [bs_length]; exact hi
 have hge : (bs s)[i] = c.toNat := by rw [List.getElem?_eq_getElem hlt] at hg; exact Option.some.inj hg
 refine ⟨hi, ?_, ?_⟩
 ·have := List.take_append_drop i (bs s)
  rw [List.drop_eq_getElem_cons hlt, hge] at this
  exact this.symm
 ·intro x hx e
  obtain ⟨k, hk⟩ := List.mem_iff_getElem?.1 hx
  rw [List.getElem?_take] at hk
  by_cases hki : k < i
  ·rw [if_pos hki] at hk
   simp only [bs, List.getElem?_map, Option.map_eq_some_iff] at hk
   obtain ⟨u, hu, rfl⟩ := hk
   obtain rfl : u = c := UInt8.toNat_inj.1 e
   exact h2 k hki hu
  ·rw [if_neg hki] at hk; cases hk
theorem split_parts (c : UInt8) : ∀ (k : Nat) (s : ByteArray), countB s (one c) = k → splitB (one c) 0 k s = (parts c.toNat (bs s)).map ofB
 | 0, s, h => by
  have hm : indexB s (one c) = -1 := by
   rcases indexB_cases s (one c) with hm | ⟨i, hi, hr⟩
   ·exact hm
   ·rw [countB_hit s (one c) i (by show 1 ≤ 1; omega) hi] at h; omega
  rw [parts_no (idx_miss hm)]
  simp [splitB_zero, ofB_bs]
 | k + 1, s, h => by
  rcases indexB_cases s (one c) with hm | ⟨i, hi, hr⟩
  ·rw [countB_miss s (one c) hm] at h; omega
  ·rw [countB_hit s (one c) i (by show 1 ≤ 1; omega) hi] at h
   obtain ⟨h1, h2, h3⟩ := idx_hit hi
   rw [splitB_hit (one c) 0 k s i hi, split_parts c k _ (by omega), h2, parts_split _ h3, List.map_cons]
   congr 1
   ·rw [ext_ofB]; rfl
   ·rw [bs_extract, List.take_of_length_le (by rw [bs_length]; exact Nat.le_refl _)]; rfl
theorem string_row (w W : World) (l : List ByteArray) (t : TypeId) (n : Nat) (hn : n = l.length) (hl : l.length ≤ 4294967290) (hW : W = w.alloc (.cells (l.map Value.string).toArray t)) :
 Kd.R Kd.string t W w.heap.size (fun _ => True) (.slice (some ⟨w.heap.size, 0, none⟩) n n) l := by
 subst hn hW
 have hr : Reps (Kd.string.M (w.alloc (.cells (l.map Value.string).toArray t)) w.heap.size (fun _ => True)) 1 l (l.map Value.string) := by
  have := Kd.reps_scalar (enc := Value.string) l
  exact this
 refine ⟨fun k hk => trivial, l.map Value.string, ⟨by simp [Kd.string, Kd.scalar], .inr ⟨w.heap.size, l.length, (l.map Value.string).toArray, rfl, Nat.le_refl _, heap_alloc_last w _, Nat.le_refl _, by unfold maxLen; omega, by simp [Kd.string, Kd.scalar], by rw [show l.length * Kd.string.sz = l.length from by simp [Kd.string, Kd.scalar]]; exact List.take_of_length_le (by simp)⟩⟩, ?_⟩
 exact hr.imp_ fun x c hM => Kd.string.M_mono (fun k hk => hk) hM
theorem genSplit_one (c : UInt8) (s : ByteArray) (hs : Tiny s) (w : World) : Calls Tryz.prog 96 #[.string s, .string (one c), .int .i64 0, .int .i64 (-1)] w fun e w' => e = .returned (.slice (some ⟨w.heap.size, 0, none⟩) (((parts c.toNat (bs s)).map ofB).length) (((parts c.toNat (bs s)).map ofB).length)) ∧ w' = w.alloc (.cells ((((parts c.toNat (bs s)).map ofB).map Value.string).toArray) 9) := by
 have h1 : 1 ≤ (one c).size := by show 1 ≤ 1; omega
 have hle := countB_le (one c) h1 s.size s (Nat.le_refl _)
 have hlen := splitB_all (one c) h1 0 _ s rfl
 have hsp := split_parts c _ s rfl
 have hI : ∀ (x : ByteArray) (d : Array Value), x.size ≤ s.size → Calls Tryz.prog (Tryz.lays221_ren.f 143) #[.string x, .string (one c)] (w.alloc (.cells d (Tryz.lays221_ren.t 9))) fun e w' => e = .returned (.int .i64 (indexB x (one c))) ∧ w' = w.alloc (.cells d (Tryz.lays221_ren.t 9)) := fun x d _ => by
  refine (Tryz.strings_Index_one x c _).mono fun e w' ⟨h, h2⟩ => ⟨?_, h2⟩
  rw [h, indexB, show (one c).data.toList = [c] from rfl, index_one]
 have hC : Calls Tryz.prog (Tryz.lays221_ren.f 138) #[.string s, .string (one c)] w fun e w' => e = .returned (.int .i64 (countB s (one c))) ∧ w' = w := by
  refine (Tryz.strings_Count_one s c w).mono fun e w' ⟨h, h2⟩ => ⟨?_, h2⟩
  rw [h, countB, show (one c).data.toList = [c] from rfl, count_one]; rfl
 have hN : (((countB s (one c) + 1 : Nat)) : Int) = min (if (-1 : Int) < 0 then (countB s (one c) : Int) + 1 else -1) ((s.size : Int) + 1) := by
  rw [if_pos (by decide)]; omega
 refine (Any.strings_genSplit_core Tryz.lays221 (by kernel_rfl) s (one c) 0 (-1) (countB s (one c) + 1) w hs h1 (Nat.zero_le _) hI hC (by decide) (by decide) hN).mono fun e w' ⟨he, hw⟩ => ?_
 rw [Nat.add_sub_cancel] at he hw
 rw [hlen] at he
 rw [hsp] at hw hlen
 rw [hlen]
 refine ⟨he, ?_⟩
 rw [hw]
 have : cellsOf ((parts c.toNat (bs s)).map ofB) (countB s (one c) + 1) = (((parts c.toNat (bs s)).map ofB).map Value.string).toArray := by
  unfold cellsOf
  rw [hlen, Nat.sub_self]; simp
 rw [this]; rfl
def octet_Parts.f (a0 : ByteArray) (a1 : Int) : Option (List ByteArray) := if Tiny a0 ∧ 0 ≤ a1 ∧ a1 < 256 then some ((parts a1.toNat (bs a0)).map ofB) else none
theorem parts_len (s : ByteArray) (sep : Nat) : ((parts sep (bs s)).map ofB).length ≤ s.size + 1 := by
 have h := (parts_le (sep := sep) (bs s)).2
 rw [bs_length] at h; rw [List.length_map]; exact h
set_option maxHeartbeats 1000000 in
theorem Split_one (c : UInt8) (s : ByteArray) (hs : Tiny s) (w : World) : Calls Tryz.prog 87 #[.string s, .string (one c)] w fun e w' => ∃ v, e = .returned v ∧ Kd.R Kd.string 9 w' w.heap.size (fun _ => True) v ((parts c.toNat (bs s)).map ofB) ∧ Below w.heap.size w w' := by
 have hl := parts_len s c.toNat
 have hg := genSplit_one c s hs
 generalize (parts c.toNat (bs s)).map ofB = L at hl hg
 go_enter Tryz.func87, Tryz.ntmps87
 go_wp2_with (go_at_call 96; refine (hg _).mono ?_; rintro e w' ⟨rfl, rfl⟩)
 go_ret
 exact ⟨_, rfl, string_row _ _ _ _ _ rfl (by unfold Tiny at hs; omega) rfl, below_alloc (Below.refl _ _) _⟩
set_option maxHeartbeats 1000000 in
set_option maxRecDepth 100000 in
theorem octet_Parts.calls (a0 : ByteArray) (a1 : Int) (r : List ByteArray) (w : World) (h : octet_Parts.f a0 a1 = some r) : Calls Tryz.prog 75 #[.string a0, .int .u8 a1] w fun e w' => ∃ v, e = .returned v ∧ Kd.R Kd.string 9 w' w.heap.size (fun _ => True) v r ∧ Below w.heap.size w w' := by
 unfold octet_Parts.f at h
 by_cases ha : Tiny a0 ∧ 0 ≤ a1 ∧ a1 < 256
 case neg => rw [if_neg ha] at h; cases h
 rw [if_pos ha] at h
 obtain rfl := Option.some.inj h
 obtain ⟨hs, h0, h1⟩ := ha
 obtain ⟨n, rfl⟩ := Int.eq_ofNat_of_zero_le h0
 obtain ⟨c, hc⟩ : ∃ c : UInt8, c.toNat = n := ⟨UInt8.ofNat n, by simp; omega⟩
 subst hc
 clear h h0 h1
 have Hs := Aside0.mk hs
 clear hs
 have hst : strOfNums [(c.toNat : Int)] = one c := by simp [strOfNums, one]
 have hcv : (convert 115 9 (.slice (some ⟨w.heap.size, 0, none⟩) 1 1)).run Tryz.prog (w.alloc (.cells #[.int .u8 (c.toNat : Int)] 5)) = .ok (.string (one c)) (w.alloc (.cells #[.int .u8 (c.toNat : Int)] 5)) := by
  rw [← hst]
  refine string_of_reads (e := 5) (by kernel_rfl) (by kernel_rfl) (by kernel_rfl) ⟨rfl, by decide, fun _ => ⟨⟨w.heap.size, 0, none⟩, rfl, fun j hj => ?_⟩⟩
  obtain rfl : j = 0 := by omega
  rw [add_plain]
  exact blk_cell (heap_alloc_last w _) 0
 clear hst
 have Hcv := hcv
 go_enter Tryz.func75, Tryz.ntmps75
 go_wp2_with (go_at_call 87; refine (Split_one c a0 Hs.out _).mono ?_; rintro e w' ⟨v, rfl, hR, hb⟩)
 go_ret
 exact ⟨_, rfl, Kd.R_lower hR (by simp), (below_alloc (Below.refl _ _) _).trans (hb.mono (by simp))⟩
def cutAt (c : Nat) : List Nat → List Nat × Option (List Nat)
 | [] => ([], none)
 | x :: r => if x = c then ([], some r) else ((x :: (cutAt c r).1), (cutAt c r).2)
theorem cutAt_dash : ∀ l, cutAt 45 l = cutDash l
 | [] => rfl
 | x :: r => by rw [cutAt, cutDash, cutAt_dash r]
theorem cutAt_no {c : Nat} : ∀ {l : List Nat}, (∀ x ∈ l, x ≠ c) → cutAt c l = (l, none)
 | [], _ => rfl
 | x :: r, h => by rw [cutAt, if_neg (h x List.mem_cons_self), cutAt_no fun y hy => h y (List.mem_cons_of_mem _ hy)]
theorem cutAt_hit {c : Nat} (r : List Nat) : ∀ {l : List Nat}, (∀ x ∈ l, x ≠ c) → cutAt c (l ++ c :: r) = (l, some r)
 | [], _ => by simp [cutAt]
 | x :: l, h => by rw [List.cons_append, cutAt, if_neg (h x List.mem_cons_self), cutAt_hit r fun y hy => h y (List.mem_cons_of_mem _ hy)]
def cutOut (p : List Nat × Option (List Nat)) : ByteArray × ByteArray × Bool := match p with
 | (a, some b) => (ofB a, ofB b, true)
 | (a, none) => (ofB a, ⟨#[]⟩, false)
set_option maxHeartbeats 1000000 in
theorem lite_Cut (c : UInt8) (s : ByteArray) (hs : Tiny s) (w : World) : Calls Tryz.prog 90 #[.string s, .string (one c)] w fun e w' => e = .returned (.tuple #[.string (cutOut (cutAt c.toNat (bs s))).1, .string (cutOut (cutAt c.toNat (bs s))).2.1, .bool (cutOut (cutAt c.toNat (bs s))).2.2]) ∧ ∃ n, w' = w.drewN n := by
 have hI : ∀ w, Calls Tryz.prog 98 #[.string s, .string (one c)] w fun e w' => e = .returned (.int .i64 (indexB s (one c))) ∧ w' = w := fun w => by
  refine (Tryz.stringslite_Index_one s c _).mono fun e w' ⟨h, h2⟩ => ⟨?_, h2⟩
  rw [h, indexB, show (one c).data.toList = [c] from rfl, index_one]
 rcases indexB_cases s (one c) with hm | ⟨i, hi, hr⟩
 ·rw [cutAt_no (idx_miss hm)]
  rw [hm] at hI
  simp only [cutOut, ofB_bs]
  go_enter Tryz.func90, Tryz.ntmps90
  go_wp2_with (go_at_call 98; refine (hI _).mono ?_; rintro e w' ⟨rfl, rfl⟩)
  go_ret3
  exact ⟨rfl, 0, rfl⟩
 ·obtain ⟨h1, h2, h3⟩ := idx_hit hi
  rw [hi] at hI
  have e1 : s.extract 0 i = ofB ((bs s).take i) := by rw [ext_ofB]; rfl
  have e2 : s.extract (i + 1) s.size = ofB ((bs s).drop (i + 1)) := by rw [ext_ofB, List.take_of_length_le (by rw [bs_length]; exact Nat.le_refl _)]
  have hcut : cutAt c.toNat (bs s) = ((bs s).take i, some ((bs s).drop (i + 1))) := by
   conv => lhs; rw [h2]
   exact cutAt_hit _ h3
  rw [hcut]
  simp only [cutOut]
  rw [← e1, ← e2]
  have hz : (one c).size = 1 := rfl
  have c1 : (0 : Int) ≤ ↑i := by omega
  have c2 : (↑i : Int) ≤ ↑s.size := by omega
  have c3 : (0 : Int) ≤ ↑i + ↑(one c).size := by omega
  have c4 : (↑i + ↑(one c).size : Int) ≤ ↑s.size := by omega
  have ez : (i + (one c).size) = i + 1 := by rw [hz]
  have mixed : Tryz.prog.follows Departure.mixedOrders = true := by kernel_rfl
  have hwr : IntKind.i64.wrap ((i : Int) + ((one c).size : Int)) = (i : Int) + ((one c).size : Int) := wrap_small _ (by omega) (by unfold Tiny at hs; omega)
  have Hs := Aside0.mk hs
  have Ez := Aside0.mk ez
  have b4 : (s.size : Int) < 4294967281 := by unfold Tiny at hs; omega
  clear h2 h3 hcut e1 e2 hi hs hr hz ez h1
  go_enter Tryz.func90, Tryz.ntmps90
  go_wp2_with (go_at_call 98; refine (hI _).mono ?_; rintro e w' ⟨rfl, rfl⟩)
  go_region_o
  go_wp2
  go_ret3
  exact ⟨rfl, 1, rfl⟩
set_option maxHeartbeats 1000000 in
theorem Cut_one (c : UInt8) (s : ByteArray) (hs : Tiny s) (w : World) : Calls Tryz.prog 78 #[.string s, .string (one c)] w fun e w' => e = .returned (.tuple #[.string (cutOut (cutAt c.toNat (bs s))).1, .string (cutOut (cutAt c.toNat (bs s))).2.1, .bool (cutOut (cutAt c.toNat (bs s))).2.2]) ∧ Drawn0 w w' := by
 have hg := lite_Cut c s hs
 generalize cutOut (cutAt c.toNat (bs s)) = r at hg
 obtain ⟨r1, r2, r3⟩ := r
 go_enter Tryz.func78, Tryz.ntmps78
 go_wp2_with (go_at_call 90; refine (hg _).mono ?_; rintro e w' ⟨rfl, n, rfl⟩)
 go_ret3
 exact ⟨rfl, ⟨_, rfl⟩⟩
abbrev dot3 : ByteArray := ⟨#[46, 95, 126]⟩
set_option maxHeartbeats 4000000 in
set_option maxRecDepth 1000000 in
theorem rune_bad (w : World) : Calls Tryz.prog 108 #[.string dot3, .int .i32 65533] w fun e w' => e = .returned (.int .i64 (-1)) ∧ Below w.heap.size w w' := by
 go_enter Tryz.func108, Tryz.ntmps108
 go_wp2
 go_loopw [5, 6] (fun _ _ wr => ∃ i : Nat, i ≤ 3 ∧ wr = w.iter dot3 i) (fun _ _ wr => 3 - wr.iterPos w.heap.size)
 case atStart => exact ⟨0, by omega, rfl⟩
 case round =>
  obtain ⟨i, hi, rfl⟩ := hrel
  by_cases h3 : i < 3
  ·have hlt : i < dot3.size := h3
   have ha : ∀ j (h : j < dot3.size), (dot3[j]'h).toNat < 128 := by decide
   have hnx := fun ty => run_next_ascii (P := Tryz.prog) w dot3 i ty hlt (ha i hlt)
   have hne : (((dot3[i]'hlt).toNat : Int) == 65533) = false := beq_eq_false_iff_ne.2 (by have := ha i hlt; omega)
   generalize ((dot3[i]'hlt).toNat : Int) = x at hnx hne
   go_wp2
   go_round
   case rel => exact ⟨i + 1, by omega, rfl⟩
   case measure => simp; omega
  ·obtain rfl : i = 3 := by omega
   have hnx := fun ty => run_next_end (P := Tryz.prog) w dot3 3 ty (by decide)
   go_wp2
   go_ret
   exact ⟨rfl, below_alloc (Below.refl _ _) _⟩
theorem dot3_no (c : UInt8) (hc : 128 ≤ c.toNat) (i : Nat) : Lib.indexByte ((dot3.extract i 3).data.toList) c = -1 := by
 have h : ∀ l : List UInt8, (∀ x ∈ l, x.toNat < 128) → Lib.indexByte l c = -1 := by
  intro l
  induction l with
  | nil => intro _; rfl
  | cons x r ih =>
   intro hx
   have hne : (x == c) = false := by
    rw [beq_eq_false_iff_ne]; intro e; subst e
    have := hx x List.mem_cons_self; omega
   unfold Lib.indexByte
   rw [hne, ih fun y hy => hx y (List.mem_cons_of_mem _ hy)]
   rfl
 refine h _ fun x hx => ?_
 rw [ByteArray.data_extract, Array.toList_extract] at hx
 have hm := List.mem_of_mem_drop (List.mem_of_mem_take hx)
 have h3 : ∀ y ∈ dot3.data.toList, y.toNat < 128 := by decide
 exact h3 x hm
set_option maxHeartbeats 4000000 in
set_option maxRecDepth 1000000 in
theorem rune_wild (r : Int) (h0 : 128 ≤ r) (h1 : (r == 65533) = false) (hv : Lib.validRune r = false) (w : World) : Calls Tryz.prog 108 #[.string dot3, .int .i32 r] w fun e w' => e = .returned (.int .i64 (-1)) ∧ Below w.heap.size w w' := by
 have c1 : decide (r < 128) = false := decide_eq_false (by omega)
 have c0 : decide (0 ≤ r) = true := decide_eq_true (by omega)
 go_enter Tryz.func108, Tryz.ntmps108
 go_wp2_with (go_at_call 118; refine (Tryz.utf8_ValidRune r _).mono ?_; rintro e w' ⟨rfl, rfl⟩; rw [hv])
 go_ret
 exact ⟨rfl, Below.refl _ _⟩
set_option maxHeartbeats 4000000 in
set_option maxRecDepth 1000000 in
theorem rune_high2 (r : Int) (h0 : 128 ≤ r) (h1 : (r == 65533) = false) (hv : Lib.validRune r = true) (E : ByteArray) (hE : E = Utf8.encode r) (hz : E.size = 2) (c : UInt8) (hc : ∀ h : 1 < E.size, E[1]'h = c) (hc1 : 128 ≤ c.toNat) (w : World) : Calls Tryz.prog 108 #[.string dot3, .int .i32 r] w fun e w' => e = .returned (.int .i64 (-1)) ∧ Below w.heap.size w w' := by
 have c1 : decide (r < 128) = false := decide_eq_false (by omega)
 have c0 : decide (0 ≤ r) = true := decide_eq_true (by omega)
 have hcv : ∀ w, (convert 21 9 (.int .i32 r)).run Tryz.prog w = .ok (.string E) w := fun w => by rw [hE]; exact run_convert_int_string w 21 9 .i32 r (by kernel_rfl) (by kernel_rfl)
 have hcc : ((c.toNat : Int)).toNat.toUInt8 = c := by simp
 have hds : dot3.size = 3 := rfl
 have hw2 : IntKind.i64.wrap 2 = 2 := rfl
 have hw3 : IntKind.i64.wrap 3 = 3 := rfl
 have hne : (((dot3[1]'(by decide)).toNat : Int) != (c.toNat : Int)) = true := by
  have : (dot3[1]'(by decide)).toNat < 128 := by decide
  rw [bne_iff_ne]; omega
 have hib : ∀ w, Calls Tryz.prog 117 #[.string (dot3.extract 2 3), .int .u8 (c.toNat : Int)] w fun e w' => e = .returned (.int .i64 (-1)) ∧ w' = w := fun w => by
  have h := Tryz.strings_IndexByte (dot3.extract 2 3) (c.toNat : Int) w
  rw [hcc, dot3_no c hc1 2] at h
  exact h
 have mixed : Tryz.prog.follows Departure.mixedOrders = true := by kernel_rfl
 clear hE
 go_enter Tryz.func108, Tryz.ntmps108
 go_wp2_with (go_at_call 118; refine (Tryz.utf8_ValidRune r _).mono ?_; rintro e w' ⟨rfl, hw⟩; rw [hw, hv])
 go_step3
 go_wp2
 go_loopw [9] (fun v9 wr => v9 = .int .i64 1 ∧ wr = w) (fun _ _ => 0)
 case atStart => exact ⟨rfl, rfl⟩
 case round =>
  obtain ⟨rfl, rfl⟩ := hrel
  go_wp2_with fail
  go_step3
  go_wp2_with fail
  go_region_o
  go_wp2_with fail
  go_quiet (first | (go_at_call 117; exact (hib _).mono fun e w'' h => ⟨h.1, _, h.2⟩))
  go_wp2
  rw [Exit.noGoto_ret]
  (try simp only [Exit.inBlock, Exit.then])
  refine (Exit.noGoto_ret (Q := _) ..).mpr ?_
  simp only [Exit.inBlock, Exit.then]
  rw [Exit.noGoto_ret]
  (try simp only [Exit.inBlock])
  go_ret
  exact ⟨rfl, by repeat (with_reducible first | exact Below.refl _ _ | refine pw_below_drewN ?_ _ | refine below_drew ?_)⟩
set_option maxHeartbeats 4000000 in
set_option maxRecDepth 1000000 in
theorem rune_high3 (r : Int) (h0 : 128 ≤ r) (h1 : (r == 65533) = false) (hv : Lib.validRune r = true) (E : ByteArray) (hE : E = Utf8.encode r) (hz : E.size = 3) (c : UInt8) (hc : ∀ h : 2 < E.size, E[2]'h = c) (hc1 : 128 ≤ c.toNat) (w : World) : Calls Tryz.prog 108 #[.string dot3, .int .i32 r] w fun e w' => e = .returned (.int .i64 (-1)) ∧ Below w.heap.size w w' := by
 have c1 : decide (r < 128) = false := decide_eq_false (by omega)
 have c0 : decide (0 ≤ r) = true := decide_eq_true (by omega)
 have hcv : ∀ w, (convert 21 9 (.int .i32 r)).run Tryz.prog w = .ok (.string E) w := fun w => by rw [hE]; exact run_convert_int_string w 21 9 .i32 r (by kernel_rfl) (by kernel_rfl)
 have hcc : ((c.toNat : Int)).toNat.toUInt8 = c := by simp
 have hds : dot3.size = 3 := rfl
 have hw2 : IntKind.i64.wrap 2 = 2 := rfl
 have hw3 : IntKind.i64.wrap 3 = 3 := rfl
 have hne : (((dot3[2]'(by decide)).toNat : Int) != (c.toNat : Int)) = true := by
  have : (dot3[2]'(by decide)).toNat < 128 := by decide
  rw [bne_iff_ne]; omega
 have hib : ∀ w, Calls Tryz.prog 117 #[.string (dot3.extract 3 3), .int .u8 (c.toNat : Int)] w fun e w' => e = .returned (.int .i64 (-1)) ∧ w' = w := fun w => by
  have h := Tryz.strings_IndexByte (dot3.extract 3 3) (c.toNat : Int) w
  rw [hcc, dot3_no c hc1 3] at h
  exact h
 have mixed : Tryz.prog.follows Departure.mixedOrders = true := by kernel_rfl
 clear hE
 go_enter Tryz.func108, Tryz.ntmps108
 go_wp2_with (go_at_call 118; refine (Tryz.utf8_ValidRune r _).mono ?_; rintro e w' ⟨rfl, hw⟩; rw [hw, hv])
 go_step3
 go_wp2
 go_loopw [9] (fun v9 wr => v9 = .int .i64 2 ∧ wr = w) (fun _ _ => 0)
 case atStart => exact ⟨rfl, rfl⟩
 case round =>
  obtain ⟨rfl, rfl⟩ := hrel
  go_wp2_with fail
  go_step3
  go_wp2_with fail
  go_region_o
  go_wp2_with fail
  go_quiet (first | (go_at_call 117; exact (hib _).mono fun e w'' h => ⟨h.1, _, h.2⟩))
  go_wp2
  rw [Exit.noGoto_ret]
  (try simp only [Exit.inBlock, Exit.then])
  refine (Exit.noGoto_ret (Q := _) ..).mpr ?_
  simp only [Exit.inBlock, Exit.then]
  rw [Exit.noGoto_ret]
  (try simp only [Exit.inBlock])
  go_ret
  exact ⟨rfl, by repeat (with_reducible first | exact Below.refl _ _ | refine pw_below_drewN ?_ _ | refine below_drew ?_)⟩
set_option maxHeartbeats 4000000 in
set_option maxRecDepth 1000000 in
theorem rune_high4 (r : Int) (h0 : 128 ≤ r) (h1 : (r == 65533) = false) (hv : Lib.validRune r = true) (E : ByteArray) (hE : E = Utf8.encode r) (hz : E.size = 4) (c : UInt8) (hc : ∀ h : 3 < E.size, E[3]'h = c) (hc1 : 128 ≤ c.toNat) (w : World) : Calls Tryz.prog 108 #[.string dot3, .int .i32 r] w fun e w' => e = .returned (.int .i64 (-1)) ∧ Below w.heap.size w w' := by
 have c1 : decide (r < 128) = false := decide_eq_false (by omega)
 have c0 : decide (0 ≤ r) = true := decide_eq_true (by omega)
 have hcv : ∀ w, (convert 21 9 (.int .i32 r)).run Tryz.prog w = .ok (.string E) w := fun w => by rw [hE]; exact run_convert_int_string w 21 9 .i32 r (by kernel_rfl) (by kernel_rfl)
 have hcc : ((c.toNat : Int)).toNat.toUInt8 = c := by simp
 have hds : dot3.size = 3 := rfl
 have hw2 : IntKind.i64.wrap 2 = 2 := rfl
 have hw3 : IntKind.i64.wrap 3 = 3 := rfl
 have mixed : Tryz.prog.follows Departure.mixedOrders = true := by kernel_rfl
 clear hE
 go_enter Tryz.func108, Tryz.ntmps108
 go_wp2_with (go_at_call 118; refine (Tryz.utf8_ValidRune r _).mono ?_; rintro e w' ⟨rfl, hw⟩; rw [hw, hv])
 go_step3
 go_wp2
 go_loopw [9] (fun v9 wr => v9 = .int .i64 3 ∧ wr = w) (fun _ _ => 0)
 case atStart => exact ⟨rfl, rfl⟩
 case round =>
  obtain ⟨rfl, rfl⟩ := hrel
  go_wp2_with fail
  rw [Exit.noGoto_ret]
  go_ret
  exact ⟨rfl, Below.refl _ _⟩
theorem rune_any (r : Int) (h0 : 128 ≤ r) (w : World) : Calls Tryz.prog 108 #[.string dot3, .int .i32 r] w fun e w' => e = .returned (.int .i64 (-1)) ∧ Below w.heap.size w w' := by
 by_cases hb : r = 65533
 ·subst hb; exact rune_bad w
 have h1 : (r == 65533) = false := beq_eq_false_iff_ne.2 hb
 cases hv : Lib.validRune r
 ·exact rune_wild r h0 h1 hv w
 ·obtain ⟨f1, f2, f3⟩ := encode_facts r (by rw [validRune_eq]; exact hv) h0
  obtain ⟨E, hE⟩ : ∃ E, E = Utf8.encode r := ⟨_, rfl⟩
  rw [← hE] at f1 f2 f3
  have hlt : E.size - 1 < E.size := by omega
  have hc := f3 hlt
  rcases (by omega : E.size = 2 ∨ E.size = 3 ∨ E.size = 4) with hz | hz | hz
  ·exact rune_high2 r h0 h1 hv E hE hz (E[E.size - 1]'hlt) (fun h => by congr 1; omega) hc w
  ·exact rune_high3 r h0 h1 hv E hE hz (E[E.size - 1]'hlt) (fun h => by congr 1; omega) hc w
  ·exact rune_high4 r h0 h1 hv E hE hz (E[E.size - 1]'hlt) (fun h => by congr 1; omega) hc w
theorem rune_all (r : Int) (h0 : 0 ≤ r) (w : World) : Calls Tryz.prog 108 #[.string dot3, .int .i32 r] w fun e w' => ∃ n : Int, e = .returned (.int .i64 n) ∧ Below w.heap.size w w' := by
 by_cases h : r < 128
 ·exact (Tryz.strings_IndexRune_ascii dot3 r w h0 h).mono fun e w' h => ⟨_, h.1, by rw [h.2]; exact Below.refl _ _⟩
 ·exact (rune_any r (by omega) w).mono fun e w' h => ⟨_, h⟩
theorem decode_pos (s : ByteArray) (pos : Nat) (h : pos < s.size) : 1 ≤ (Utf8.decode s pos).2 := by
 by_cases ha : (s[pos]'h).toNat < 128
 ·rw [decode_ascii s pos h ha]; exact Nat.le_refl _
 ·exact (decode_high s pos h (by omega)).2
set_option maxHeartbeats 4000000 in
set_option maxRecDepth 1000000 in
theorem any_short (s : ByteArray) (h8 : s.size ≤ 8) (w : World) : Calls Tryz.prog 100 #[.string s, .string dot3] w fun e w' => ∃ n : Int, e = .returned (.int .i64 n) ∧ Below w.heap.size w w' := by
 have h8z : decide ((8 : Int) < (s.size : Int)) = false := decide_eq_false (by omega)
 go_enter Tryz.func100, Tryz.ntmps100
 go_wp2_with (go_at_call 109; refine (Tryz.strings_shouldUseASCIISet _ _).mono ?_; rintro e w' ⟨rfl, hw⟩; rw [hw, h8z])
 go_loopw [9, 10] (fun _ _ wr => ∃ i : Nat, wr.heap[w.heap.size]? = some (.stringIter s i) ∧ Aside0 (Below w.heap.size w wr)) (fun _ _ wr => s.size - wr.iterPos w.heap.size)
 case atStart => exact ⟨0, World.iter_heap _ _ _, ⟨below_alloc (Below.refl _ _) _⟩⟩
 case round =>
  obtain ⟨i, hit, HB⟩ := hrel
  by_cases hlt : i < s.size
  ·have hnx := fun ty => run_next_any_at (P := Tryz.prog) wr w.heap.size s i ty hit hlt
   have hd0 : (0 : Int) ≤ ((Utf8.decode s i).1 : Int) := by omega
   have hd1 := decode_pos s i hlt
   generalize ((Utf8.decode s i).1 : Int) = x at hnx hd0
   generalize (Utf8.decode s i).2 = d at hnx hd1
   have hit2 := iterAt_heap wr w.heap.size s i (i + d) hit
   have hb2 := below_iterAt HB.out (Nat.le_refl _) s (i + d) (k := w.heap.size)
   generalize wr.iterAt w.heap.size s (i + d) = w2 at hnx hit2 hb2
   have hpos : wr.iterPos w.heap.size = i := by simp [World.iterPos, hit]
   have Hpos := Aside0.mk hpos
   have HB2 := Aside0.mk hb2
   have Hit2 := Aside0.mk hit2
   clear hit HB hb2 hit2 hpos
   have hsz : w.heap.size < w2.heap.size := (Array.getElem?_eq_some_iff.1 Hit2.out).1
   go_wp2_with (go_at_call 108; refine (rune_all x hd0 _).mono ?_; rintro e w3 ⟨n, rfl, hb3⟩; have HB3 : Aside0 (Below w.heap.size w w3) := ⟨HB2.out.trans (hb3.mono (by omega))⟩; have Hit3 : Aside0 (w3.heap[w.heap.size]? = some (.stringIter s (i + d))) := ⟨(hb3.block _ hsz).trans Hit2.out⟩; clear hb3)
   ·go_ret
    exact ⟨_, rfl, HB3.out⟩
   ·have hpos3 : w3.iterPos w.heap.size = i + d := by simp [World.iterPos, Hit3.out]
    go_roundw
    case rel => exact ⟨i + d, Hit3.out, HB3⟩
    case measure => rw [Hpos.out, hpos3]; omega
  ·have hnx := fun ty => run_next_end_at (P := Tryz.prog) wr w.heap.size s i ty hit hlt
   go_wp2
   go_ret
   exact ⟨_, rfl, HB.out⟩
def isDot (c : Nat) : Bool := c == 46 || c == 95 || c == 126
theorem index_any : ∀ l : List UInt8, decide (0 ≤ Lib.indexAny l dot3.data.toList) = (l.map UInt8.toNat).any isDot
 | [] => rfl
 | b :: l => by
  have ih := index_any l
  have hg := Lib.indexAny_ge dot3.data.toList l
  have hb : dot3.data.toList.contains b = isDot b.toNat := by
   have h : ∀ n < 256, ([46, 95, 126] : List UInt8).contains (UInt8.ofNat n) = isDot n := by decide +kernel
   have := h b.toNat b.toNat_lt
   rwa [UInt8.ofNat_toNat] at this
  unfold Lib.indexAny
  rw [hb, List.map_cons, List.any_cons]
  cases isDot b.toNat
  ·rw [Bool.false_or, ← ih]
   simp only [Bool.false_eq_true, if_false]
   by_cases h1 : Lib.indexAny l dot3.data.toList = -1
   ·rw [h1]; rfl
   ·rw [if_neg (by simpa using h1)]
    have : (0 ≤ Lib.indexAny l dot3.data.toList + 1) ↔ (0 ≤ Lib.indexAny l dot3.data.toList) := by omega
    exact decide_eq_decide.2 this
  ·simp
theorem index_dots (s : ByteArray) (hs : Tiny s) (w : World) : Calls Tryz.prog 100 #[.string s, .string dot3] w fun e w' => ∃ n : Int, e = .returned (.int .i64 n) ∧ ((∀ c ∈ bs s, c < 128) → decide (0 ≤ n) = (bs s).any isDot) ∧ Below w.heap.size w w' := by
 have hac : ∀ (j : Nat) b, dot3.data.toList[j]? = some b → b.toNat < 128 := fun j b h => by
  have h3 : ∀ y ∈ dot3.data.toList, y.toNat < 128 := by decide
  exact h3 b (List.mem_of_getElem? h)
 by_cases h8 : s.size ≤ 8
 ·by_cases ha : ∀ c ∈ bs s, c < 128
  ·have ha' : ∀ (j : Nat) b, s.data.toList[j]? = some b → b.toNat < 128 := fun j b h => ha _ (List.mem_map.2 ⟨b, List.mem_of_getElem? h, rfl⟩)
   exact (Tryz.strings_IndexAny_short s dot3 w (by decide) h8 ha').mono fun e w' ⟨h1, p, h2⟩ => ⟨_, h1, fun _ => index_any _, by rw [h2]; exact below_alloc (Below.refl _ _) _⟩
  ·exact (any_short s h8 w).mono fun e w' ⟨n, h1, h2⟩ => ⟨n, h1, fun h => absurd h ha, h2⟩
 ·exact (Tryz.strings_IndexAny_long (zero_of_info (n := 256) (by kernel_rfl)).1 s dot3 w (by decide) (by omega) hs (by decide) hac).mono fun e w' ⟨h1, h2⟩ => ⟨_, h1, fun _ => index_any _, by rw [h2]; exact below_alloc (below_alloc (Below.refl _ _) _) _⟩
set_option maxHeartbeats 1000000 in
theorem contains_dots (s : ByteArray) (hs : Tiny s) (w : World) : Calls Tryz.prog 92 #[.string s, .string dot3] w fun e w' => ∃ b : Bool, e = .returned (.bool b) ∧ ((∀ c ∈ bs s, c < 128) → b = (bs s).any isDot) ∧ Below w.heap.size w w' := by
 have hi := index_dots s hs
 go_enter Tryz.func92, Tryz.ntmps92
 go_wp2_with (go_at_call 100; refine (hi _).mono ?_; rintro e w1 ⟨n, rfl, hn, hb⟩)
 go_ret
 exact ⟨_, rfl, hn, hb⟩
def elc (c : Nat) : Bool := inner c || c == 46
theorem elem_eq (s : List Nat) : isElem s = (!s.isEmpty && s.head? != some 46 && s.getLast? != some 46 && s.all elc) := by
 cases s with
 | nil => rfl
 | cons c r =>
  simp only [isElem, List.isEmpty_cons, Bool.not_false, Bool.true_and, List.head?_cons]
  congr 1
theorem in_elc : ∀ c < 256, decide ((cls c : Int) ∈ ([1, 2, 3] : List Int)) = elc c := by decide +kernel
theorem elc_low : ∀ c < 256, 128 ≤ c → elc c = false := by decide +kernel
theorem row_ints (w : World) (l : List Int) (t : TypeId) (hl : l.length ≤ 1000) : Kd.C (Kd.int .i64) (w.alloc (.cells (l.map (Value.int .i64)).toArray t)) (some ⟨w.heap.size, 0, none⟩) l.length l := by
 refine Kd.C_of_reads (d := (0 : Int)) ⟨rfl, by omega, fun _ => ⟨_, rfl, fun j hj => ?_⟩⟩
 rw [add_plain, blk_cell (heap_alloc_last w _)]
 simp [List.getD_eq_getElem?_getD, List.getElem?_eq_getElem hj]
theorem below_alloc' {B : Nat} {a w : World} (h : Below B a w) (o : Obj) (hB : B ≤ w.heap.size := by omega) : Below B a (w.alloc o) := h.trans (((Below.refl _ _).alloc (Nat.le_refl _) o).mono hB)
set_option maxHeartbeats 4000000 in
set_option maxRecDepth 1000000 in
theorem element_calls (s : ByteArray) (hs : Tiny s) (w : World) : Calls Tryz.prog 76 #[.string s] w fun e w' => e = .returned (.bool (isElem (bs s))) ∧ Below w.heap.size w w' := by
 have Hs := Aside0.mk hs
 clear hs
 go_enter Tryz.func76, Tryz.ntmps76
 go_wp2
 go_loopw [3, 4, 5] (fun v3 _ _ wr => ∃ i : Nat, i ≤ s.size ∧ v3 = .int .i32 ((((bs s).take i).getLastD 46 : Nat) : Int) ∧ wr.heap[w.heap.size]? = some (.stringIter s i) ∧ Aside0 (Below w.heap.size w wr) ∧ Aside0 (((bs s).take i).all elc = true ∧ ((bs s).take i).head? ≠ some 46)) (fun _ _ _ wr => s.size - wr.iterPos w.heap.size)
 case atStart => exact ⟨0, Nat.zero_le _, rfl, World.iter_heap _ _ _, ⟨below_alloc (Below.refl _ _) _⟩, ⟨rfl, by simp⟩⟩
 case round =>
  obtain ⟨i, hi, rfl, hit, HB, HA⟩ := hrel
  have hpos : wr.iterPos w.heap.size = i := by simp [World.iterPos, hit]
  by_cases hlt : i < s.size
  ·have hdr : (bs s).drop i = (bs s)[i]'(by rw [bs_length]; exact hlt) :: (bs s).drop (i + 1) := List.drop_eq_getElem_cons _
   have hbt := (bt_drop hdr).2.1
   have hc := (bt_drop hdr).2.2.2
   have htk : (bs s).take (i + 1) = (bs s).take i ++ [(bs s)[i]'(by rw [bs_length]; exact hlt)] := List.take_succ_eq_append_getElem _
   have hmem : (bs s)[i]'(by rw [bs_length]; exact hlt) ∈ bs s := List.getElem_mem _
   obtain ⟨c, hcc⟩ : ∃ c, c = (bs s)[i]'(by rw [bs_length]; exact hlt) := ⟨_, rfl⟩
   rw [← hcc] at hbt hc htk hmem
   have hx9 : ((s[i]'hlt).toNat : Int) = (c : Int) := by rw [← hbt]; exact bt_at s i hlt
   have hx8 : (s[i]'hlt).toNat = c := by omega
   clear hx9
   have Htk := Aside0.mk htk
   have Hmem := Aside0.mk hmem
   have Hpos := Aside0.mk hpos
   have hn9 := fun ty => run_next_any_at (P := Tryz.prog) wr w.heap.size s i ty hit hlt
   by_cases h128 : c < 128
   ·have hde := decode_ascii s i hlt (by rw [hx8]; exact h128)
    rw [hx8] at hde
    rw [hde] at hn9
    have hit2 := iterAt_heap wr w.heap.size s i (i + 1) hit
    have hb2 := below_iterAt HB.out (Nat.le_refl _) s (i + 1) (k := w.heap.size)
    simp only [] at hn9
    generalize wr.iterAt w.heap.size s (i + 1) = w2 at hn9 hit2 hb2
    have HB2 := Aside0.mk hb2
    have Hit2 := Aside0.mk hit2
    have hg : decide ((127 : Int) < (c : Int)) = false := decide_eq_false (by omega)
    have hcv : IntKind.u8.wrap (c : Int) = (c : Int) := by
     have h : ∀ n < 256, IntKind.u8.wrap ((n : Nat) : Int) = (n : Int) := by decide +kernel
     exact h c hc
    have hin := fun w => In_calls c hc (some ⟨(w : World).heap.size, 0, none⟩) 3 [1, 2, 3] (w.alloc (.cells #[.int .i64 1, .int .i64 2, .int .i64 3] 3)) (row_ints w [1, 2, 3] 3 (by decide))
    have hie := in_elc c hc
    rw [hie] at hin
    generalize hel : elc c = el at hin
    have Hel := Aside0.mk hel
    have hsz : w.heap.size < w2.heap.size := (Array.getElem?_eq_some_iff.1 Hit2.out).1
    clear hit HB hb2 hit2 hpos hbt hcc htk hmem hdr hde hx8 hie hel
    cases el
    ·have hno : isElem (bs s) = false := by
      rw [elem_eq]
      have : (bs s).all elc = false := by rw [List.all_eq_false]; exact ⟨c, Hmem.out, by rw [Hel.out]; decide⟩
      rw [this, Bool.and_false]
     have Hno := Aside0.mk hno
     clear hno
     go_wp2_with (go_at_call 88; refine (hin _).mono ?_; rintro e w3 ⟨rfl, hb3⟩; have HB3 : Aside0 (Below w.heap.size w w3) := ⟨(below_alloc' HB2.out _).trans (hb3.mono (by simp; omega))⟩; clear hb3)
     go_ret
     exact ⟨by rw [Hno.out]; rfl, HB3.out⟩
    ·by_cases h0 : i = 0 ∧ c = 46
     ·obtain ⟨rfl, rfl⟩ := h0
      have hno : isElem (bs s) = false := by
       have h1 : (bs s).head? = some 46 := by
        have := Htk.out
        cases hb : bs s with
        | nil => rw [hb] at this; simp at this
        | cons x r => rw [hb] at this; simp at this; rw [this]; rfl
       rw [elem_eq, h1]; simp
      have Hno := Aside0.mk hno
      clear hno
      go_wp2_with (go_at_call 88; refine (hin _).mono ?_; rintro e w3 ⟨rfl, hb3⟩; have HB3 : Aside0 (Below w.heap.size w w3) := ⟨(below_alloc' HB2.out _).trans (hb3.mono (by simp; omega))⟩; clear hb3)
      go_ret
      exact ⟨by rw [Hno.out]; rfl, HB3.out⟩
     ·have hl1 : ((bs s).take (i + 1)).getLastD 46 = c := by rw [Htk.out]; simp
      have hA1 : ((bs s).take (i + 1)).all elc = true := by rw [Htk.out, List.all_append, HA.out.1]; simp [Hel.out]
      have hA2 : ((bs s).take (i + 1)).head? ≠ some 46 := by
       rw [Htk.out]
       cases hb : (bs s).take i with
       | nil =>
        have hi0 : i = 0 := by
         have := congrArg List.length hb
         rw [List.length_take, bs_length, List.length_nil] at this; omega
        have : c ≠ 46 := fun e => h0 ⟨hi0, e⟩
        simpa using this
       | cons x r =>
        have := HA.out.2
        rw [hb] at this
        simpa using this
      have Hl1 := Aside0.mk hl1
      have HA1 := Aside0.mk hA1
      have HA2 := Aside0.mk hA2
      have H0 := Aside0.mk h0
      clear hl1 hA1 hA2 h0
      by_cases hi0 : i = 0
      ·subst hi0
       have hc46 : ((c : Int) == 46) = false := beq_eq_false_iff_ne.2 (fun e => H0.out ⟨rfl, by omega⟩)
       go_wp2_with (go_at_call 88; refine (hin _).mono ?_; rintro e w3 ⟨rfl, hb3⟩; have HB3 : Aside0 (Below w.heap.size w w3) := ⟨(below_alloc' HB2.out _).trans (hb3.mono (by simp; omega))⟩; have Hit3 : Aside0 (w3.heap[w.heap.size]? = some (.stringIter s (0 + 1))) := ⟨(hb3.block _ (by simp; omega)).trans (((below_alloc (Below.refl _ _) _).block _ hsz).trans Hit2.out)⟩; clear hb3)
       have hpos3 : w3.iterPos w.heap.size = 0 + 1 := by simp [World.iterPos, Hit3.out]
       go_roundw
       case rel => exact ⟨0 + 1, by omega, by rw [Hl1.out], Hit3.out, HB3, ⟨HA1.out, HA2.out⟩⟩
       case measure => rw [Hpos.out, hpos3]; omega
      ·have hi1 : ((i : Int) == 0) = false := beq_eq_false_iff_ne.2 (by omega)
       go_wp2_with (go_at_call 88; refine (hin _).mono ?_; rintro e w3 ⟨rfl, hb3⟩; have HB3 : Aside0 (Below w.heap.size w w3) := ⟨(below_alloc' HB2.out _).trans (hb3.mono (by simp; omega))⟩; have Hit3 : Aside0 (w3.heap[w.heap.size]? = some (.stringIter s (i + 1))) := ⟨(hb3.block _ (by simp; omega)).trans (((below_alloc (Below.refl _ _) _).block _ hsz).trans Hit2.out)⟩; clear hb3)
       have hpos3 : w3.iterPos w.heap.size = i + 1 := by simp [World.iterPos, Hit3.out]
       go_roundw
       case rel => exact ⟨i + 1, by omega, by rw [Hl1.out], Hit3.out, HB3, ⟨HA1.out, HA2.out⟩⟩
       case measure => rw [Hpos.out, hpos3]; omega
   ·have hde := (decode_high s i hlt (by rw [hx8]; omega)).1
    have hb2 := below_iterAt HB.out (Nat.le_refl _) s (i + (Utf8.decode s i).2) (k := w.heap.size)
    generalize (Utf8.decode s i).2 = d at hn9 hb2
    generalize wr.iterAt w.heap.size s (i + d) = w2 at hn9 hb2
    have hg : decide ((127 : Int) < ((Utf8.decode s i).1 : Int)) = true := decide_eq_true (by omega)
    generalize ((Utf8.decode s i).1 : Int) = x at hn9 hg
    have HB2 := Aside0.mk hb2
    have hno : isElem (bs s) = false := by
     rw [elem_eq]
     have : (bs s).all elc = false := by rw [List.all_eq_false]; exact ⟨c, Hmem.out, by rw [elc_low c hc (by omega)]; decide⟩
     rw [this, Bool.and_false]
    have Hno := Aside0.mk hno
    clear hno hit HB hb2 hpos hbt hcc htk hmem hdr hde hx8
    go_wp2
    go_ret
    exact ⟨by rw [Hno.out]; rfl, HB2.out⟩
  ·obtain rfl : i = s.size := by omega
   have hn9 := fun ty => run_next_end_at (P := Tryz.prog) wr w.heap.size s s.size ty hit hlt
   rw [List.take_of_length_le (by rw [bs_length]; exact Nat.le_refl _)] at HA ⊢
   have hfin : isElem (bs s) = (((((bs s).getLastD 46 : Nat) : Int)) != 46) := by
    rw [elem_eq, HA.out.1, Bool.and_true]
    cases hb : bs s with
    | nil => rfl
    | cons x r =>
     have h2 := HA.out.2
     rw [hb] at h2
     have h3 : ((x :: r).head? != some 46) = true := by simpa using h2
     rw [h3]
     have h4 : (x :: r).getLastD 46 = (x :: r).getLast (by simp) := by simp [List.getLastD]
     rw [h4, List.getLast?_eq_some_getLast (by simp)]
     simp only [List.isEmpty_cons, Bool.not_false, Bool.true_and]
     rw [Bool.eq_iff_iff, bne_iff_ne, bne_iff_ne]
     constructor
     ·intro h e; exact h (by congr 1; omega)
     ·intro h e; injection e with e; exact h (by omega)
   have Hfin := Aside0.mk hfin
   clear hfin hpos hit
   go_wp2
   go_ret
   exact ⟨by rw [Hfin.out, List.getLastD_eq_getLast?]; rfl, HB.out⟩
def path_element.f (a0 : ByteArray) : Option Bool := if Tiny a0 then some (isElem (bs a0)) else none
theorem path_element.calls (a0 : ByteArray) (r : Bool) (w : World) (h : path_element.f a0 = some r) : Calls Tryz.prog 76 #[.string a0] w fun e w' => e = .returned (.bool r) ∧ Below w.heap.size w w' := by
 unfold path_element.f at h
 by_cases hs : Tiny a0
 ·rw [if_pos hs] at h
  obtain rfl := Option.some.inj h
  exact element_calls a0 hs w
 ·rw [if_neg hs] at h; cases h
end Go.Proofs.YtodkjmbmlobihaaGreatDoor.QB.D
end
