/- Part 5 of this claim: several texts one behind the other: FpathMay, FnodeMay, FnodeCheck, NDef, LOne, LFew18, LRd, LCon, LFew, LHas, LSame, NMayV, KChk, NOrd, PDbl, PSet, NAhead, NCheck, NSets, RMinus5, NKey. What each shows stands in its theorems; conditions: sizes of texts and lists, as the functions' definitions say. -/
import Derived.Test.YtffcbfclpfchnaaGreatDoorMLackTells0
import Derived.Test.YtffcbfclpfchnaaGreatDoorMLackTells4
import Derived.Test.YtffcbfclpfchnaaGreatDoorMLackTells1
import Derived.Test.YtffcbfclpfchnaaGreatDoorMLackTells2
import Derived.Sort.WalkB12
import Derived.Lib.Walk
import Derived.WalkKit
import Derived.Deep.LoopGhost
import Derived.RegionTactic
import Derived.BigRegion
import Derived.Deep.QuietTactic
import Derived.BigQuiet
import Derived.Deep.RegionHeld3
import Derived.ChangeAlike
import Derived.Maps.OwnSet
import Derived.Maps.AppendAt
import Derived.DeepKeys4
section
namespace Go.Proofs.YtffcbfclpfchnaaGreatDoor.Q
open Go.RowKit Go.Proofs.YtffcbfclpfchnaaGreatDoorW.PrintWords Go.Proofs.YtffcbfclpfchnaaGreatDoorW.PrintLast Go.Proofs.YtffcbfclpfchnaaGreatDoorW.PrintMore
attribute [local go_sem] max2_int min2_int max_two min_two max_three min_three max_four min_four   -- for this text's walks alone
set_option linter.unusedVariables false
set_option linter.unusedSimpArgs false
/-! ### path_May: function 39 -/
def path_May.f (k : Nat) (a0 : ByteArray) : Option (Bool) := (path_Elements.f k a0).bind fun bt125 => (some (bt125.2 == 0))
set_option maxHeartbeats 8000000 in
set_option maxRecDepth 100000 in
theorem path_May.calls (k : Nat) (a0 : ByteArray) (r : Bool) (w : World) (h : path_May.f k a0 = some r) :
  Calls Tryz.prog 39 #[.string a0] w fun e w' => e = .returned (.bool r) ∧ Below w.heap.size w w' := by
 have HB := Aside0.mk (Below.refl w.heap.size w)
 have H : ((path_Elements.f k a0).bind fun bt125 => (some (bt125.2 == 0))) = some r := h
 clear h
 replace H := Option.bind_eq_some_iff.mp H
 obtain ⟨⟨t125, t126⟩, A20, H⟩ := H
 replace H : (some (t126 == 0)) = some r := H
 have A2 := Aside0.mk A20
 clear A20
 obtain rfl := Option.some.inj H
 go_enter Tryz.func39, Tryz.ntmps39
 go_wp2_with (first | ((with_reducible refine gate_callee (f := 48) rfl ?_); refine goesL_ (some 7) rfl rfl Tryz.func48 (by kernel_rfl) rfl #[.string a0] rfl (by (try simp only [List.map_toArray, List.map_cons, List.map_nil]); first | done | rfl | (simp only [List.length_drop, List.length_take]; rfl)) ?_; (with_reducible refine (path_Elements.calls k a0 t125 t126 _ A2.out).mono ?_); rintro e w3 ⟨v127, rfl, ho0, hb⟩; refine ⟨_, rfl, ?_⟩; have n0_ := Aside0.mk (Kd.R_lower ho0 (below_size (by repeat (first | (with_reducible first | exact HB.out | apply below_alloc | apply pw_below_drewN | apply below_drew1) | exact HB.out)))); have n1_ := Aside0.mk (below_step (by repeat (first | (with_reducible first | exact HB.out | apply below_alloc | apply pw_below_drewN | apply below_drew1) | exact HB.out)) hb); clear HB; have HO128 := n0_; have HB := n1_; clear n0_ n1_; (try clear hb); (try clear hb2); (try clear hk); (try clear hi); (try clear ho0)))
 go_ret
 exact ⟨by first | rfl | (simp [errW_none, errW_some] <;> rfl) | (simp [*, errW_none, errW_some] <;> rfl), by repeat (first | (with_reducible first | exact HB.out | apply below_alloc | apply pw_below_drewN | apply below_drew1) | exact HB.out)⟩
end Go.Proofs.YtffcbfclpfchnaaGreatDoor.Q
end

section
namespace Go.Proofs.YtffcbfclpfchnaaGreatDoor.Q
open Go.Proofs.YtffcbfclpfchnaaGreatDoor.QB.D
open Go.RowKit Go.Proofs.YtffcbfclpfchnaaGreatDoorW.PrintWords Go.Proofs.YtffcbfclpfchnaaGreatDoorW.PrintLast Go.Proofs.YtffcbfclpfchnaaGreatDoorW.PrintMore
attribute [local go_sem] max2_int min2_int max_two min_two max_three min_three max_four min_four   -- for this text's walks alone
set_option linter.unusedVariables false
set_option linter.unusedSimpArgs false
/-! ### node_May: function 27 -/
def node_May.f (k : Nat) (a0_0 : ByteArray) (a0_1 : ByteArray) : Option (Bool) := (path_May.f k a0_0).bind fun t142 => (if t142 = true then ((version_May.f a0_1).bind fun t143 => (some t143)) else (some false))
set_option maxHeartbeats 8000000 in
set_option maxRecDepth 100000 in
theorem node_May.calls (k : Nat) (a0_0 : ByteArray) (a0_1 : ByteArray) (r : Bool) (w : World) (h : node_May.f k a0_0 a0_1 = some r) :
  Calls Tryz.prog 27 #[.agg #[.string a0_0, .string a0_1]] w fun e w' => e = .returned (.bool r) ∧ Below w.heap.size w w' := by
 have hu42 := Tryz.underlying42
 have HB := Aside0.mk (Below.refl w.heap.size w)
 have H : ((path_May.f k a0_0).bind fun t142 => (if t142 = true then ((version_May.f a0_1).bind fun t143 => (some t143)) else (some false))) = some r := h
 clear h
 replace H := Option.bind_eq_some_iff.mp H
 obtain ⟨t142, A20, H⟩ := H
 replace H : (if t142 = true then ((version_May.f a0_1).bind fun t143 => (some t143)) else (some false)) = some r := H
 have A2 := Aside0.mk A20
 clear A20
 by_cases c3 : t142 = true
 ·subst c3
  have H1 : ((version_May.f a0_1).bind fun t143 => (some t143)) = some r := by rw [if_pos rfl] at H; exact H
  clear H
  have H := H1
  clear H1
  replace H := Option.bind_eq_some_iff.mp H
  obtain ⟨t143, A40, H⟩ := H
  replace H : (some t143) = some r := H
  have A4 := Aside0.mk A40
  clear A40
  obtain rfl := Option.some.inj H
  go_enter Tryz.func27, Tryz.ntmps27
  go_wp2_with (first | ((with_reducible refine gate_dst (N := 1) rfl ?_); refine box_event ?hg (N := 1) ?hd (cs := #[.string a0_0, .string a0_1]) (t := 42) ?hr ?_; (case hd => rfl); (case hg => rfl); (case hr => first | (go_simp; done) | (go_simp; rfl)); intro gb141 hg w5 hbox hb; have n0_ := Aside0.mk (below_step (by repeat (first | (with_reducible first | exact HB.out | apply below_alloc | apply pw_below_drewN | apply below_drew1) | exact HB.out)) hb); have n1_ := Aside0.mk (hbox); have n2_ := Aside0.mk ((by rw [hg]; exact (below_size (by repeat (first | (with_reducible first | exact HB.out | apply below_alloc | apply pw_below_drewN | apply below_drew1) | exact HB.out))) : w.heap.size ≤ gb141)); have n3_ := Aside0.mk ((by rw [hg]; exact (below_size (by repeat (first | (with_reducible first | exact HB.out | apply below_alloc | apply pw_below_drewN | apply below_drew1) | exact HB.out))) : w.heap.size ≤ gb141)); clear HB; have HB := n0_; have BK141 := n1_; have GW141 := n2_; have GE141 := n3_; clear n0_ n1_ n2_ n3_; clear hb hbox hg; have hcz6_0 : w5.cell? ⟨gb141, 0, none⟩ = some (.string a0_0) := (blk_cell BK141.out 0).trans rfl; have hcz6_1 : w5.cell? ⟨gb141, 1, none⟩ = some (.string a0_1) := (blk_cell BK141.out 1).trans rfl; have hfz6_0 := blk_frozen BK141.out 0; have hfz6_1 := blk_frozen BK141.out 1) | ((with_reducible refine gate_callee (f := 39) rfl ?_); refine goesL_ (some 5) rfl rfl Tryz.func39 (by kernel_rfl) rfl #[.string a0_0] rfl (by (try simp only [List.map_toArray, List.map_cons, List.map_nil]); first | done | rfl | (simp only [List.length_drop, List.length_take]; rfl)) ?_; (with_reducible refine (path_May.calls k a0_0 true _ A2.out).mono ?_); rintro e w7 ⟨rfl, hb⟩; refine ⟨_, rfl, ?_⟩; have n0_ := Aside0.mk (blk_below (g := gb141) (o := .cells #[.string a0_0, .string a0_1] 42 (0, 0)) (by (with_reducible repeat (first | refine blk_drewN ?_ _ | refine blk_drew ?_ | refine blk_alloc ?_ _)); exact BK141.out) hb); have n1_ := Aside0.mk (below_step (by repeat (first | (with_reducible first | exact HB.out | apply below_alloc | apply pw_below_drewN | apply below_drew1 | refine below_set ?_ GE141.out) | exact HB.out)) hb); clear BK141; clear HB; have BK141 := n0_; have HB := n1_; clear n0_ n1_; (try clear hb); (try clear hb2); (try clear hk); (try clear hi); have hcz8_0 : w7.cell? ⟨gb141, 0, none⟩ = some (.string a0_0) := (blk_cell BK141.out 0).trans rfl; have hcz8_1 : w7.cell? ⟨gb141, 1, none⟩ = some (.string a0_1) := (blk_cell BK141.out 1).trans rfl; have hfz8_0 := blk_frozen BK141.out 0; have hfz8_1 := blk_frozen BK141.out 1) | (go_at_call 40; (with_reducible refine (version_May.calls a0_1 t143 _ A4.out).mono ?_); rintro e w9 ⟨rfl, hb⟩; have n0_ := Aside0.mk (blk_below (g := gb141) (o := .cells #[.string a0_0, .string a0_1] 42 (0, 0)) (by (with_reducible repeat (first | refine blk_drewN ?_ _ | refine blk_drew ?_ | refine blk_alloc ?_ _)); exact BK141.out) hb); have n1_ := Aside0.mk (below_step (by repeat (first | (with_reducible first | exact HB.out | apply below_alloc | apply pw_below_drewN | apply below_drew1 | refine below_set ?_ GE141.out) | exact HB.out)) hb); clear BK141; clear HB; have BK141 := n0_; have HB := n1_; clear n0_ n1_; (try clear hb); (try clear hb2); (try clear hk); (try clear hi)))
  go_ret
  exact ⟨by first | rfl | (simp [errW_none, errW_some] <;> rfl) | (simp [*, errW_none, errW_some] <;> rfl), by repeat (first | (with_reducible first | exact HB.out | apply below_alloc | apply pw_below_drewN | apply below_drew1 | refine below_set ?_ GE141.out) | exact HB.out)⟩
 ·replace c3 := Bool.eq_false_iff.mpr c3
  subst c3
  have H1 : (some false) = some r := by rw [if_neg (show ¬ (false = true) by decide)] at H; exact H
  clear H
  have H := H1
  clear H1
  obtain rfl := Option.some.inj H
  go_enter Tryz.func27, Tryz.ntmps27
  go_wp2_with (first | ((with_reducible refine gate_dst (N := 1) rfl ?_); refine box_event ?hg (N := 1) ?hd (cs := #[.string a0_0, .string a0_1]) (t := 42) ?hr ?_; (case hd => rfl); (case hg => rfl); (case hr => first | (go_simp; done) | (go_simp; rfl)); intro gb141 hg w10 hbox hb; have n0_ := Aside0.mk (below_step (by repeat (first | (with_reducible first | exact HB.out | apply below_alloc | apply pw_below_drewN | apply below_drew1) | exact HB.out)) hb); have n1_ := Aside0.mk (hbox); have n2_ := Aside0.mk ((by rw [hg]; exact (below_size (by repeat (first | (with_reducible first | exact HB.out | apply below_alloc | apply pw_below_drewN | apply below_drew1) | exact HB.out))) : w.heap.size ≤ gb141)); have n3_ := Aside0.mk ((by rw [hg]; exact (below_size (by repeat (first | (with_reducible first | exact HB.out | apply below_alloc | apply pw_below_drewN | apply below_drew1) | exact HB.out))) : w.heap.size ≤ gb141)); clear HB; have HB := n0_; have BK141 := n1_; have GW141 := n2_; have GE141 := n3_; clear n0_ n1_ n2_ n3_; clear hb hbox hg; have hcz11_0 : w10.cell? ⟨gb141, 0, none⟩ = some (.string a0_0) := (blk_cell BK141.out 0).trans rfl; have hcz11_1 : w10.cell? ⟨gb141, 1, none⟩ = some (.string a0_1) := (blk_cell BK141.out 1).trans rfl; have hfz11_0 := blk_frozen BK141.out 0; have hfz11_1 := blk_frozen BK141.out 1) | ((with_reducible refine gate_callee (f := 39) rfl ?_); refine goesL_ (some 5) rfl rfl Tryz.func39 (by kernel_rfl) rfl #[.string a0_0] rfl (by (try simp only [List.map_toArray, List.map_cons, List.map_nil]); first | done | rfl | (simp only [List.length_drop, List.length_take]; rfl)) ?_; (with_reducible refine (path_May.calls k a0_0 false _ A2.out).mono ?_); rintro e w12 ⟨rfl, hb⟩; refine ⟨_, rfl, ?_⟩; have n0_ := Aside0.mk (blk_below (g := gb141) (o := .cells #[.string a0_0, .string a0_1] 42 (0, 0)) (by (with_reducible repeat (first | refine blk_drewN ?_ _ | refine blk_drew ?_ | refine blk_alloc ?_ _)); exact BK141.out) hb); have n1_ := Aside0.mk (below_step (by repeat (first | (with_reducible first | exact HB.out | apply below_alloc | apply pw_below_drewN | apply below_drew1 | refine below_set ?_ GE141.out) | exact HB.out)) hb); clear BK141; clear HB; have BK141 := n0_; have HB := n1_; clear n0_ n1_; (try clear hb); (try clear hb2); (try clear hk); (try clear hi)))
  go_ret
  exact ⟨by first | rfl | (simp [errW_none, errW_some] <;> rfl) | (simp [*, errW_none, errW_some] <;> rfl), by repeat (first | (with_reducible first | exact HB.out | apply below_alloc | apply pw_below_drewN | apply below_drew1 | refine below_set ?_ GE141.out) | exact HB.out)⟩
/-! ### node_Check: function 35 -/
def node_Check.l0 : Nat → List (S42) → List (S42) → Int → Int → Option (Int)
 | 0, _, _, _, _ => none
 | k + 1, x0, x5, x6, x7 => if x7 < x6 then (if 0 ≤ x7 then (if x7 < (x5.length : Int) then ((node_May.f k ((rd_T42 x5 x7).f0) ((rd_T42 x5 x7).f1)).bind fun t175 => (if t175 = true then (if x7 > 0 then (if 0 ≤ (wrap64 (x7 - 1)) then (if (wrap64 (x7 - 1)) < (x0.length : Int) then ((node_order.f k ((rd_T42 x0 (wrap64 (x7 - 1))).f0) ((rd_T42 x0 (wrap64 (x7 - 1))).f1) ((rd_T42 x5 x7).f0) ((rd_T42 x5 x7).f1)).bind fun t177 => (if t177 ≥ 0 then (some 1) else (node_Check.l0 k x0 x5 x6 (wrap64 (x7 + 1))))) else (none)) else (none)) else (node_Check.l0 k x0 x5 x6 (wrap64 (x7 + 1)))) else (some 1))) else (none)) else (none)) else (some 0)
def node_Check.f (k : Nat) (l0 : List (S42)) : Option (Int) := node_Check.l0 k l0 l0 (l0.length : Int) 0
def node_Check.T4 : Bool × List (List Nat × List Nat) := (true, [([], []), ([0], [0]), ([1], [1]), ([2, 1], [2]), ([3], [3]), ([4, 3], [3, 4]), ([5, 3, 3], [3, 5]), ([6], [6]), ([6], [6]), ([8, 6], [6, 8]), ([7, 9, 6], [6, 7, 9]), ([10, 6], [6, 10]), ([6], [6]), ([11, 12, 6, 6], [6, 11, 12]), ([13, 6], [6, 13]), ([6, 14, 3], [3, 6, 14]), ([3, 15], [3, 15])])
def node_Check.B4 : List Nat := [0, 1, 3, 7, 15, 31, 63, 127, 127, 383, 1023, 2047, 127, 8191, 16383, 32767, 65535]
theorem node_Check.tab4 : rtab .any (opsOf Tryz.f35 4) = node_Check.T4 := by kernel_rfl
theorem node_Check.bits4 : waitsOk node_Check.T4.2 node_Check.B4 = true := by kernel_rfl
set_option maxHeartbeats 8000000 in
set_option maxRecDepth 100000 in
theorem node_Check.calls (k : Nat) (A0 : Option Addr) (c0 : Nat) (l0 : List (S42)) (r : Int) (w : World) (hr0 : Kd.C k42 w A0 l0.length l0) (hc0 : l0.length ≤ c0) (h : node_Check.f k l0 = some r) :
  Calls Tryz.prog 35 #[.slice A0 l0.length c0] w fun e w' => e = .returned (.int .i64 r) ∧ Below w.heap.size w w' := by
 have hu42 := Tryz.underlying42
 have HR0 := Aside0.mk hr0
 have HC0 := Aside0.mk hc0
 clear hr0 hc0
 have HB := Aside0.mk (Below.refl w.heap.size w)
 have H : (node_Check.l0 k l0 l0 (l0.length : Int) 0) = some r := h
 clear h
 have H' := Aside0.mk H
 clear H
 go_enter Tryz.func35, Tryz.ntmps35
 go_wp2
 go_loopg [7] k (fun kq v7 w' => ∃ (x7_1 : Int), v7 = .int .i64 x7_1 ∧ Aside0 (node_Check.l0 kq l0 l0 (l0.length : Int) x7_1 = some r) ∧ Aside0 (kq ≤ k) ∧ Aside0 (Below w.heap.size w w'))
 case atStart => exact ⟨(0), (by first | rfl | (simp; done) | (simp [*]; done)), H', ⟨Nat.le_refl _⟩, ⟨by repeat (first | (with_reducible first | exact HB.out | apply below_alloc | apply pw_below_drewN | apply below_drew1) | exact HB.out)⟩⟩
 case round =>
  clear H'
  obtain ⟨x7_1, rfl, HA, HK1, HB⟩ := hrel
  cases gk with
  | zero => exact absurd HA.out (by simp [node_Check.l0])
  | succ k1 =>
   have H := HA.out
   clear HA
   simp only [node_Check.l0] at H
   by_cases c2 : x7_1 < (l0.length : Int)
   ·rw [if_pos c2] at H
    have c2b0 : decide (x7_1 < (l0.length : Int)) = true := decide_eq_true c2
    clear c2
    by_cases c3 : 0 ≤ x7_1
    ·rw [if_pos c3] at H
     have c3b0 : decide (0 ≤ x7_1) = true := decide_eq_true c3
     clear c3
     by_cases c4 : x7_1 < (l0.length : Int)
     ·rw [if_pos c4] at H
      have c4b0 : decide (x7_1 < (l0.length : Int)) = true := decide_eq_true c4
      clear c4
      replace H := Option.bind_eq_some_iff.mp H
      obtain ⟨t175, A50, H⟩ := H
      replace H : (if t175 = true then (if x7_1 > 0 then (if 0 ≤ (wrap64 (x7_1 - 1)) then (if (wrap64 (x7_1 - 1)) < (l0.length : Int) then ((node_order.f k1 ((rd_T42 l0 (wrap64 (x7_1 - 1))).f0) ((rd_T42 l0 (wrap64 (x7_1 - 1))).f1) ((rd_T42 l0 x7_1).f0) ((rd_T42 l0 x7_1).f1)).bind fun t177 => (if t177 ≥ 0 then (some 1) else (node_Check.l0 k1 l0 l0 (l0.length : Int) (wrap64 (x7_1 + 1))))) else (none)) else (none)) else (node_Check.l0 k1 l0 l0 (l0.length : Int) (wrap64 (x7_1 + 1)))) else (some 1)) = some r := H
      have A5 := Aside0.mk A50
      clear A50
      by_cases c6 : t175 = true
      ·subst c6
       have H1 : (if x7_1 > 0 then (if 0 ≤ (wrap64 (x7_1 - 1)) then (if (wrap64 (x7_1 - 1)) < (l0.length : Int) then ((node_order.f k1 ((rd_T42 l0 (wrap64 (x7_1 - 1))).f0) ((rd_T42 l0 (wrap64 (x7_1 - 1))).f1) ((rd_T42 l0 x7_1).f0) ((rd_T42 l0 x7_1).f1)).bind fun t177 => (if t177 ≥ 0 then (some 1) else (node_Check.l0 k1 l0 l0 (l0.length : Int) (wrap64 (x7_1 + 1))))) else (none)) else (none)) else (node_Check.l0 k1 l0 l0 (l0.length : Int) (wrap64 (x7_1 + 1)))) = some r := by rw [if_pos rfl] at H; exact H
       clear H
       have H := H1
       clear H1
       by_cases c7 : x7_1 > 0
       ·rw [if_pos c7] at H
        have c7b0 : decide (0 < x7_1) = true := decide_eq_true c7
        clear c7
        obtain ⟨ji8, hji8⟩ : ∃ j_ : Int, (wrap64 (x7_1 - 1)) = j_ := ⟨_, rfl⟩
        replace H : (if 0 ≤ (ji8) then (if (ji8) < (l0.length : Int) then ((node_order.f k1 ((rd_T42 l0 (ji8)).f0) ((rd_T42 l0 (ji8)).f1) ((rd_T42 l0 x7_1).f0) ((rd_T42 l0 x7_1).f1)).bind fun t177 => (if t177 ≥ 0 then (some 1) else (node_Check.l0 k1 l0 l0 (l0.length : Int) (wrap64 (x7_1 + 1))))) else (none)) else (none)) = some r := by first | (rw [hji8] at H; exact H) | (simp only [hji8] at H ⊢; exact H)
        (try rw [hji8] at A5)
        have hji8w : (IntKind.i64.wrap (x7_1 - 1)) = ji8 := (i64_w _).trans hji8
        by_cases c9 : 0 ≤ (ji8)
        ·rw [if_pos c9] at H
         have c9b0 : decide (0 ≤ (ji8)) = true := decide_eq_true c9
         clear c9
         by_cases c10 : (ji8) < (l0.length : Int)
         ·rw [if_pos c10] at H
          have c10b0 : decide ((ji8) < (l0.length : Int)) = true := decide_eq_true c10
          clear c10
          replace H := Option.bind_eq_some_iff.mp H
          obtain ⟨t177, A110, H⟩ := H
          replace H : (if t177 ≥ 0 then (some 1) else (node_Check.l0 k1 l0 l0 (l0.length : Int) (wrap64 (x7_1 + 1)))) = some r := H
          have A11 := Aside0.mk A110
          clear A110
          by_cases c12 : t177 ≥ 0
          ·rw [if_pos c12] at H
           have c12b0 : decide (0 ≤ t177) = true := decide_eq_true c12
           clear c12
           obtain rfl := Option.some.inj H
           have p173 : 0 ≤ (x7_1 : Int) := of_decide_eq_true (by first | (with_reducible assumption) | assumption)
           have q173 : x7_1 < (l0.length : Int) := of_decide_eq_true (by first | (with_reducible assumption) | assumption)
           obtain ⟨ad173, e173, hx173_0, hx173_1⟩ := at_T42 HR0.out x7_1 p173 q173
           cases e173
           replace hx173_0 := (HB.out.cell (World.block_lt_of_cell? w _ hx173_0)).trans hx173_0
           replace hx173_1 := (HB.out.cell (World.block_lt_of_cell? w _ hx173_1)).trans hx173_1
           replace p173 := eq_true p173
           replace q173 := eq_true q173
           try go_wp2_with (first | ((with_reducible refine gate_dst (N := 4) rfl ?_); refine box_event ?hg (N := 4) ?hd (cs := #[.string (⟨#[]⟩ : ByteArray), .string (⟨#[]⟩ : ByteArray)]) (t := 42) ?hr ?_; (case hd => rfl); (case hg => rfl); (case hr => first | (go_simp; done) | (go_simp; rfl)); intro gb174 hg w13 hbox hb; have n0_ := Aside0.mk (below_step (by repeat (first | (with_reducible first | exact HB.out | apply below_alloc | apply pw_below_drewN | apply below_drew1) | exact HB.out)) hb); have n1_ := Aside0.mk (hbox); have n2_ := Aside0.mk ((by rw [hg]; exact (below_size (by repeat (first | (with_reducible first | exact HB.out | apply below_alloc | apply pw_below_drewN | apply below_drew1) | exact HB.out))) : w.heap.size ≤ gb174)); have n3_ := Aside0.mk ((by rw [hg]; exact (below_size (by repeat (first | (with_reducible first | exact HB.out | apply below_alloc | apply pw_below_drewN | apply below_drew1) | exact HB.out))) : w.heap.size ≤ gb174)); clear HB; have HB := n0_; have BK174 := n1_; have GW174 := n2_; have GE174 := n3_; clear n0_ n1_ n2_ n3_; clear hb hbox hg; have hcz14_0 : w13.cell? ⟨gb174, 0, none⟩ = some (.string (⟨#[]⟩ : ByteArray)) := (blk_cell BK174.out 0).trans rfl; have hcz14_1 : w13.cell? ⟨gb174, 1, none⟩ = some (.string (⟨#[]⟩ : ByteArray)) := (blk_cell BK174.out 1).trans rfl; have hfz14_0 := blk_frozen BK174.out 0; have hfz14_1 := blk_frozen BK174.out 1))
           have n0_ : Aside0 (((w13.setCell ⟨gb174, 0, none⟩ (.string ((rd_T42 l0 x7_1).f0))).setCell ⟨gb174, 1, none⟩ (.string ((rd_T42 l0 x7_1).f1))).heap[gb174]? = some (.cells #[.string ((rd_T42 l0 x7_1).f0), .string ((rd_T42 l0 x7_1).f1)] 42 (0, 0))) := ⟨by (with_reducible repeat (first | refine blk_drewN ?_ _ | refine blk_drew ?_ | refine blk_alloc ?_ _)); refine blk_put (cs := #[.string ((rd_T42 l0 x7_1).f0), .string (⟨#[]⟩ : ByteArray)]) ?_ 1 _ rfl; (with_reducible repeat (first | refine blk_drewN ?_ _ | refine blk_drew ?_ | refine blk_alloc ?_ _)); refine blk_put (cs := #[.string (⟨#[]⟩ : ByteArray), .string (⟨#[]⟩ : ByteArray)]) ?_ 0 _ rfl; (with_reducible repeat (first | refine blk_drewN ?_ _ | refine blk_drew ?_ | refine blk_alloc ?_ _)); exact BK174.out⟩
           have n1_ : Aside0 (Below w.heap.size w ((w13.setCell ⟨gb174, 0, none⟩ (.string ((rd_T42 l0 x7_1).f0))).setCell ⟨gb174, 1, none⟩ (.string ((rd_T42 l0 x7_1).f1)))) := ⟨by repeat (first | (with_reducible first | exact HB.out | apply below_alloc | apply pw_below_drewN | apply below_drew1 | refine below_set ?_ GE174.out) | exact HB.out)⟩
           (try clear BK174)
           (try clear HB)
           generalize ((w13.setCell ⟨gb174, 0, none⟩ (.string ((rd_T42 l0 x7_1).f0))).setCell ⟨gb174, 1, none⟩ (.string ((rd_T42 l0 x7_1).f1))) = w15 at n0_ n1_ ⊢
           have BK174 := n0_
           have HB := n1_
           clear n0_ n1_
           have n0_ := Aside0.mk (blk_drew BK174.out)
           have n1_ := Aside0.mk (below_drew1 HB.out)
           clear BK174 HB
           have BK174 := n0_
           have HB := n1_
           clear n0_ n1_
           have p176 : 0 ≤ ((ji8) : Int) := of_decide_eq_true (by first | (with_reducible assumption) | assumption)
           have q176 : (ji8) < (l0.length : Int) := of_decide_eq_true (by first | (with_reducible assumption) | assumption)
           obtain ⟨ad176, e176, hx176_0, hx176_1⟩ := at_T42 HR0.out (ji8) p176 q176
           have hw176_1 := hx176_1
           have hw176_0 := hx176_0
           obtain rfl : ad173 = ad176 := (by injection e176)
           replace hx176_0 := (HB.out.cell (World.block_lt_of_cell? w _ hx176_0)).trans hx176_0
           replace hx176_1 := (HB.out.cell (World.block_lt_of_cell? w _ hx176_1)).trans hx176_1
           replace p176 := eq_true p176
           replace q176 := eq_true q176
           refine start_ (n := 17) (S := fun w' => w'.cell? ⟨gb174, 0, none⟩ = some (.string ((rd_T42 l0 x7_1).f0)) ∧ w'.cell? ⟨gb174, 1, none⟩ = some (.string ((rd_T42 l0 x7_1).f1)) ∧ w'.cell? (ad173.add (((ji8)).toNat * 2)) = some (.string ((rd_T42 l0 (ji8)).f0)) ∧ w'.cell? ⟨(ad173.add (((ji8)).toNat * 2)).block, (ad173.add (((ji8)).toNat * 2)).off + 1, none⟩ = some (.string ((rd_T42 l0 (ji8)).f1))) (ds := []) #[false, false, false, false, false, false, false, false, false, false, false, false, false, false, false, false, false] (by kernel_rfl) rfl rfl ⟨(blk_cell BK174.out 0).trans rfl, (blk_cell BK174.out 1).trans rfl, ((HB.out.cell (World.block_lt_of_cell? w _ hw176_0)).trans hw176_0), ((HB.out.cell (World.block_lt_of_cell? w _ hw176_1)).trans hw176_1)⟩ (fun hHeld => ?_); refine with_tabW node_Check.tab4 node_Check.bits4 (fun HT_ HW_ => ?_)
           generalize w15.drew = w16 at BK174 HB hx176_0 hx176_1 hHeld ⊢
           refine tz_ 0 12 HT_.out HW_.out hHeld ?_
           refine one_ (i := 1) (N := some 13) #[true, true, false, false, false, false, false, false, false, false, false, false, false, false, false, false, false] rfl rfl (one_of HT_.out (by kernel_rfl)) (by decide) (fun K hK => ?_)
           refine goes_ Tryz.func27 (by kernel_rfl) rfl #[.agg #[.string ((rd_T42 l0 x7_1).f0), .string ((rd_T42 l0 x7_1).f1)]] (by rfl) rfl rfl (by (try simp only [List.map_toArray, List.map_cons, List.map_nil]); first | done | rfl | (simp only [List.length_drop, List.length_take]; rfl)) ?_
           with_reducible refine (node_May.calls k1 ((rd_T42 l0 x7_1).f0) ((rd_T42 l0 x7_1).f1) true _ A5.out).mono ?_
           rintro e w17 ⟨rfl, hb⟩
           refine ⟨_, rfl, ?_⟩
           have n0_ := Aside0.mk (blk_below (g := gb174) (o := .cells #[.string ((rd_T42 l0 x7_1).f0), .string ((rd_T42 l0 x7_1).f1)] 42 (0, 0)) (by (with_reducible repeat (first | refine blk_drewN ?_ _ | refine blk_drew ?_ | refine blk_alloc ?_ _)); exact BK174.out) hb)
           have n1_ := Aside0.mk (below_step (by repeat (first | (with_reducible first | exact HB.out | apply below_alloc | apply pw_below_drewN | apply below_drew1 | refine below_set ?_ GE174.out) | exact HB.out)) hb)
           clear BK174 HB
           have BK174 := n0_
           have HB := n1_
           clear n0_ n1_
           (try clear hb)
           (try clear hb2)
           (try clear hk)
           (try clear hi)
           refine hK.out _ _ ⟨(blk_cell BK174.out 0).trans rfl, (blk_cell BK174.out 1).trans rfl, ((HB.out.cell (World.block_lt_of_cell? w _ hw176_0)).trans hw176_0), ((HB.out.cell (World.block_lt_of_cell? w _ hw176_1)).trans hw176_1)⟩ (fun hHeld => ?_)
           clear hK K
           refine nz_ 13 ?_
           refine pz_ 2 14 HT_.out ?_
           refine pz_ 3 15 HT_.out ?_
           refine pz_ 4 16 HT_.out ?_
           refine pz_ 5 17 HT_.out ?_
           refine pz_ 6 18 HT_.out ?_
           refine pz_ 7 19 HT_.out ?_
           refine pz_ 8 20 HT_.out ?_
           refine pz_ 9 21 HT_.out ?_
           refine pz_ 10 22 HT_.out ?_
           refine tz_ 11 23 HT_.out HW_.out hHeld ?_
           refine tz_ 12 24 HT_.out HW_.out hHeld ?_
           refine one_ (i := 13) (N := some 25) #[true, true, true, true, true, true, true, true, true, true, true, true, true, true, false, false, false] rfl rfl (one_of HT_.out (by kernel_rfl)) (by decide) (fun K hK => ?_)
           refine goes_ Tryz.func44 (by kernel_rfl) rfl #[.agg #[.string ((rd_T42 l0 (ji8)).f0), .string ((rd_T42 l0 (ji8)).f1)], .agg #[.string ((rd_T42 l0 x7_1).f0), .string ((rd_T42 l0 x7_1).f1)]] (by rfl) rfl rfl (by (try simp only [List.map_toArray, List.map_cons, List.map_nil]); first | done | (simp only [hji8]; rfl) | rfl | (simp only [List.length_drop, List.length_take]; rfl)) ?_
           with_reducible refine (node_order.calls k1 ((rd_T42 l0 (ji8)).f0) ((rd_T42 l0 (ji8)).f1) ((rd_T42 l0 x7_1).f0) ((rd_T42 l0 x7_1).f1) t177 _ A11.out).mono ?_
           rintro e w18 ⟨rfl, hb⟩
           refine ⟨_, rfl, ?_⟩
           have n0_ := Aside0.mk (blk_below (g := gb174) (o := .cells #[.string ((rd_T42 l0 x7_1).f0), .string ((rd_T42 l0 x7_1).f1)] 42 (0, 0)) (by (with_reducible repeat (first | refine blk_drewN ?_ _ | refine blk_drew ?_ | refine blk_alloc ?_ _)); exact BK174.out) hb)
           have n1_ := Aside0.mk (below_step (by repeat (first | (with_reducible first | exact HB.out | apply below_alloc | apply pw_below_drewN | apply below_drew1 | refine below_set ?_ GE174.out) | exact HB.out)) hb)
           clear BK174 HB
           have BK174 := n0_
           have HB := n1_
           clear n0_ n1_
           (try clear hb)
           (try clear hb2)
           (try clear hk)
           (try clear hi)
           refine hK.out _ _ ⟨(blk_cell BK174.out 0).trans rfl, (blk_cell BK174.out 1).trans rfl, ((HB.out.cell (World.block_lt_of_cell? w _ hw176_0)).trans hw176_0), ((HB.out.cell (World.block_lt_of_cell? w _ hw176_1)).trans hw176_1)⟩ (fun hHeld => ?_)
           clear hK K
           refine nz_ 25 ?_
           refine pz_ 14 26 HT_.out ?_
           refine pz_ 15 27 HT_.out ?_
           refine pz_ 16 28 HT_.out ?_
           refine done_ (done_of HT_.out (by kernel_rfl)) ?_
           try go_wp2
           go_ret
           exact ⟨by first | rfl | (simp [errW_none, errW_some] <;> rfl) | (simp only [← hji8]; first | rfl | (simp [errW_none, errW_some] <;> rfl)) | (simp [*, errW_none, errW_some] <;> rfl), by repeat (first | (with_reducible first | exact HB.out | apply below_alloc | apply pw_below_drewN | apply below_drew1 | refine below_set ?_ GE174.out) | exact HB.out)⟩
          ·rw [if_neg c12] at H
           have c12b0 : decide (0 ≤ t177) = false := decide_eq_false c12
           clear c12
           have H' := Aside0.mk H
           clear H
           have p173 : 0 ≤ (x7_1 : Int) := of_decide_eq_true (by first | (with_reducible assumption) | assumption)
           have q173 : x7_1 < (l0.length : Int) := of_decide_eq_true (by first | (with_reducible assumption) | assumption)
           obtain ⟨ad173, e173, hx173_0, hx173_1⟩ := at_T42 HR0.out x7_1 p173 q173
           cases e173
           replace hx173_0 := (HB.out.cell (World.block_lt_of_cell? w _ hx173_0)).trans hx173_0
           replace hx173_1 := (HB.out.cell (World.block_lt_of_cell? w _ hx173_1)).trans hx173_1
           replace p173 := eq_true p173
           replace q173 := eq_true q173
           try go_wp2_with (first | ((with_reducible refine gate_dst (N := 4) rfl ?_); refine box_event ?hg (N := 4) ?hd (cs := #[.string (⟨#[]⟩ : ByteArray), .string (⟨#[]⟩ : ByteArray)]) (t := 42) ?hr ?_; (case hd => rfl); (case hg => rfl); (case hr => first | (go_simp; done) | (go_simp; rfl)); intro gb174 hg w19 hbox hb; have n0_ := Aside0.mk (below_step (by repeat (first | (with_reducible first | exact HB.out | apply below_alloc | apply pw_below_drewN | apply below_drew1) | exact HB.out)) hb); have n1_ := Aside0.mk (hbox); have n2_ := Aside0.mk ((by rw [hg]; exact (below_size (by repeat (first | (with_reducible first | exact HB.out | apply below_alloc | apply pw_below_drewN | apply below_drew1) | exact HB.out))) : w.heap.size ≤ gb174)); have n3_ := Aside0.mk ((by rw [hg]; exact (below_size (by repeat (first | (with_reducible first | exact HB.out | apply below_alloc | apply pw_below_drewN | apply below_drew1) | exact HB.out))) : w.heap.size ≤ gb174)); clear HB; have HB := n0_; have BK174 := n1_; have GW174 := n2_; have GE174 := n3_; clear n0_ n1_ n2_ n3_; clear hb hbox hg; have hcz20_0 : w19.cell? ⟨gb174, 0, none⟩ = some (.string (⟨#[]⟩ : ByteArray)) := (blk_cell BK174.out 0).trans rfl; have hcz20_1 : w19.cell? ⟨gb174, 1, none⟩ = some (.string (⟨#[]⟩ : ByteArray)) := (blk_cell BK174.out 1).trans rfl; have hfz20_0 := blk_frozen BK174.out 0; have hfz20_1 := blk_frozen BK174.out 1))
           have n0_ : Aside0 (((w19.setCell ⟨gb174, 0, none⟩ (.string ((rd_T42 l0 x7_1).f0))).setCell ⟨gb174, 1, none⟩ (.string ((rd_T42 l0 x7_1).f1))).heap[gb174]? = some (.cells #[.string ((rd_T42 l0 x7_1).f0), .string ((rd_T42 l0 x7_1).f1)] 42 (0, 0))) := ⟨by (with_reducible repeat (first | refine blk_drewN ?_ _ | refine blk_drew ?_ | refine blk_alloc ?_ _)); refine blk_put (cs := #[.string ((rd_T42 l0 x7_1).f0), .string (⟨#[]⟩ : ByteArray)]) ?_ 1 _ rfl; (with_reducible repeat (first | refine blk_drewN ?_ _ | refine blk_drew ?_ | refine blk_alloc ?_ _)); refine blk_put (cs := #[.string (⟨#[]⟩ : ByteArray), .string (⟨#[]⟩ : ByteArray)]) ?_ 0 _ rfl; (with_reducible repeat (first | refine blk_drewN ?_ _ | refine blk_drew ?_ | refine blk_alloc ?_ _)); exact BK174.out⟩
           have n1_ : Aside0 (Below w.heap.size w ((w19.setCell ⟨gb174, 0, none⟩ (.string ((rd_T42 l0 x7_1).f0))).setCell ⟨gb174, 1, none⟩ (.string ((rd_T42 l0 x7_1).f1)))) := ⟨by repeat (first | (with_reducible first | exact HB.out | apply below_alloc | apply pw_below_drewN | apply below_drew1 | refine below_set ?_ GE174.out) | exact HB.out)⟩
           (try clear BK174)
           (try clear HB)
           generalize ((w19.setCell ⟨gb174, 0, none⟩ (.string ((rd_T42 l0 x7_1).f0))).setCell ⟨gb174, 1, none⟩ (.string ((rd_T42 l0 x7_1).f1))) = w21 at n0_ n1_ ⊢
           have BK174 := n0_
           have HB := n1_
           clear n0_ n1_
           have n0_ := Aside0.mk (blk_drew BK174.out)
           have n1_ := Aside0.mk (below_drew1 HB.out)
           clear BK174 HB
           have BK174 := n0_
           have HB := n1_
           clear n0_ n1_
           have p176 : 0 ≤ ((ji8) : Int) := of_decide_eq_true (by first | (with_reducible assumption) | assumption)
           have q176 : (ji8) < (l0.length : Int) := of_decide_eq_true (by first | (with_reducible assumption) | assumption)
           obtain ⟨ad176, e176, hx176_0, hx176_1⟩ := at_T42 HR0.out (ji8) p176 q176
           have hw176_1 := hx176_1
           have hw176_0 := hx176_0
           obtain rfl : ad173 = ad176 := (by injection e176)
           replace hx176_0 := (HB.out.cell (World.block_lt_of_cell? w _ hx176_0)).trans hx176_0
           replace hx176_1 := (HB.out.cell (World.block_lt_of_cell? w _ hx176_1)).trans hx176_1
           replace p176 := eq_true p176
           replace q176 := eq_true q176
           refine start_ (n := 17) (S := fun w' => w'.cell? ⟨gb174, 0, none⟩ = some (.string ((rd_T42 l0 x7_1).f0)) ∧ w'.cell? ⟨gb174, 1, none⟩ = some (.string ((rd_T42 l0 x7_1).f1)) ∧ w'.cell? (ad173.add (((ji8)).toNat * 2)) = some (.string ((rd_T42 l0 (ji8)).f0)) ∧ w'.cell? ⟨(ad173.add (((ji8)).toNat * 2)).block, (ad173.add (((ji8)).toNat * 2)).off + 1, none⟩ = some (.string ((rd_T42 l0 (ji8)).f1))) (ds := []) #[false, false, false, false, false, false, false, false, false, false, false, false, false, false, false, false, false] (by kernel_rfl) rfl rfl ⟨(blk_cell BK174.out 0).trans rfl, (blk_cell BK174.out 1).trans rfl, ((HB.out.cell (World.block_lt_of_cell? w _ hw176_0)).trans hw176_0), ((HB.out.cell (World.block_lt_of_cell? w _ hw176_1)).trans hw176_1)⟩ (fun hHeld => ?_); refine with_tabW node_Check.tab4 node_Check.bits4 (fun HT_ HW_ => ?_)
           generalize w21.drew = w22 at BK174 HB hx176_0 hx176_1 hHeld ⊢
           refine tz_ 0 12 HT_.out HW_.out hHeld ?_
           refine one_ (i := 1) (N := some 13) #[true, true, false, false, false, false, false, false, false, false, false, false, false, false, false, false, false] rfl rfl (one_of HT_.out (by kernel_rfl)) (by decide) (fun K hK => ?_)
           refine goes_ Tryz.func27 (by kernel_rfl) rfl #[.agg #[.string ((rd_T42 l0 x7_1).f0), .string ((rd_T42 l0 x7_1).f1)]] (by rfl) rfl rfl (by (try simp only [List.map_toArray, List.map_cons, List.map_nil]); first | done | rfl | (simp only [List.length_drop, List.length_take]; rfl)) ?_
           with_reducible refine (node_May.calls k1 ((rd_T42 l0 x7_1).f0) ((rd_T42 l0 x7_1).f1) true _ A5.out).mono ?_
           rintro e w23 ⟨rfl, hb⟩
           refine ⟨_, rfl, ?_⟩
           have n0_ := Aside0.mk (blk_below (g := gb174) (o := .cells #[.string ((rd_T42 l0 x7_1).f0), .string ((rd_T42 l0 x7_1).f1)] 42 (0, 0)) (by (with_reducible repeat (first | refine blk_drewN ?_ _ | refine blk_drew ?_ | refine blk_alloc ?_ _)); exact BK174.out) hb)
           have n1_ := Aside0.mk (below_step (by repeat (first | (with_reducible first | exact HB.out | apply below_alloc | apply pw_below_drewN | apply below_drew1 | refine below_set ?_ GE174.out) | exact HB.out)) hb)
           clear BK174 HB
           have BK174 := n0_
           have HB := n1_
           clear n0_ n1_
           (try clear hb)
           (try clear hb2)
           (try clear hk)
           (try clear hi)
           refine hK.out _ _ ⟨(blk_cell BK174.out 0).trans rfl, (blk_cell BK174.out 1).trans rfl, ((HB.out.cell (World.block_lt_of_cell? w _ hw176_0)).trans hw176_0), ((HB.out.cell (World.block_lt_of_cell? w _ hw176_1)).trans hw176_1)⟩ (fun hHeld => ?_)
           clear hK K
           refine nz_ 13 ?_
           refine pz_ 2 14 HT_.out ?_
           refine pz_ 3 15 HT_.out ?_
           refine pz_ 4 16 HT_.out ?_
           refine pz_ 5 17 HT_.out ?_
           refine pz_ 6 18 HT_.out ?_
           refine pz_ 7 19 HT_.out ?_
           refine pz_ 8 20 HT_.out ?_
           refine pz_ 9 21 HT_.out ?_
           refine pz_ 10 22 HT_.out ?_
           refine tz_ 11 23 HT_.out HW_.out hHeld ?_
           refine tz_ 12 24 HT_.out HW_.out hHeld ?_
           refine one_ (i := 13) (N := some 25) #[true, true, true, true, true, true, true, true, true, true, true, true, true, true, false, false, false] rfl rfl (one_of HT_.out (by kernel_rfl)) (by decide) (fun K hK => ?_)
           refine goes_ Tryz.func44 (by kernel_rfl) rfl #[.agg #[.string ((rd_T42 l0 (ji8)).f0), .string ((rd_T42 l0 (ji8)).f1)], .agg #[.string ((rd_T42 l0 x7_1).f0), .string ((rd_T42 l0 x7_1).f1)]] (by rfl) rfl rfl (by (try simp only [List.map_toArray, List.map_cons, List.map_nil]); first | done | (simp only [hji8]; rfl) | rfl | (simp only [List.length_drop, List.length_take]; rfl)) ?_
           with_reducible refine (node_order.calls k1 ((rd_T42 l0 (ji8)).f0) ((rd_T42 l0 (ji8)).f1) ((rd_T42 l0 x7_1).f0) ((rd_T42 l0 x7_1).f1) t177 _ A11.out).mono ?_
           rintro e w24 ⟨rfl, hb⟩
           refine ⟨_, rfl, ?_⟩
           have n0_ := Aside0.mk (blk_below (g := gb174) (o := .cells #[.string ((rd_T42 l0 x7_1).f0), .string ((rd_T42 l0 x7_1).f1)] 42 (0, 0)) (by (with_reducible repeat (first | refine blk_drewN ?_ _ | refine blk_drew ?_ | refine blk_alloc ?_ _)); exact BK174.out) hb)
           have n1_ := Aside0.mk (below_step (by repeat (first | (with_reducible first | exact HB.out | apply below_alloc | apply pw_below_drewN | apply below_drew1 | refine below_set ?_ GE174.out) | exact HB.out)) hb)
           clear BK174 HB
           have BK174 := n0_
           have HB := n1_
           clear n0_ n1_
           (try clear hb)
           (try clear hb2)
           (try clear hk)
           (try clear hi)
           refine hK.out _ _ ⟨(blk_cell BK174.out 0).trans rfl, (blk_cell BK174.out 1).trans rfl, ((HB.out.cell (World.block_lt_of_cell? w _ hw176_0)).trans hw176_0), ((HB.out.cell (World.block_lt_of_cell? w _ hw176_1)).trans hw176_1)⟩ (fun hHeld => ?_)
           clear hK K
           refine nz_ 25 ?_
           refine pz_ 14 26 HT_.out ?_
           refine pz_ 15 27 HT_.out ?_
           refine pz_ 16 28 HT_.out ?_
           refine done_ (done_of HT_.out (by kernel_rfl)) ?_
           try go_wp2
           go_roundg k1
           case measure => have := HK1.out; omega
           case rel => exact ⟨(wrap64 (x7_1 + 1)), (by first | rfl | (simp; done) | (simp [*]; done)), H', ⟨by have := HK1.out; omega⟩, ⟨by repeat (first | (with_reducible first | exact HB.out | apply below_alloc | apply pw_below_drewN | apply below_drew1 | refine below_set ?_ GE174.out) | exact HB.out)⟩⟩
         ·rw [if_neg c10] at H
          exact absurd H (by simp)
        ·rw [if_neg c9] at H
         exact absurd H (by simp)
       ·rw [if_neg c7] at H
        have c7b0 : decide (0 < x7_1) = false := decide_eq_false c7
        clear c7
        have H' := Aside0.mk H
        clear H
        have p173 : 0 ≤ (x7_1 : Int) := of_decide_eq_true (by first | (with_reducible assumption) | assumption)
        have q173 : x7_1 < (l0.length : Int) := of_decide_eq_true (by first | (with_reducible assumption) | assumption)
        obtain ⟨ad173, e173, hx173_0, hx173_1⟩ := at_T42 HR0.out x7_1 p173 q173
        cases e173
        replace hx173_0 := (HB.out.cell (World.block_lt_of_cell? w _ hx173_0)).trans hx173_0
        replace hx173_1 := (HB.out.cell (World.block_lt_of_cell? w _ hx173_1)).trans hx173_1
        replace p173 := eq_true p173
        replace q173 := eq_true q173
        try go_wp2_with (first | ((with_reducible refine gate_dst (N := 4) rfl ?_); refine box_event ?hg (N := 4) ?hd (cs := #[.string (⟨#[]⟩ : ByteArray), .string (⟨#[]⟩ : ByteArray)]) (t := 42) ?hr ?_; (case hd => rfl); (case hg => rfl); (case hr => first | (go_simp; done) | (go_simp; rfl)); intro gb174 hg w25 hbox hb; have n0_ := Aside0.mk (below_step (by repeat (first | (with_reducible first | exact HB.out | apply below_alloc | apply pw_below_drewN | apply below_drew1) | exact HB.out)) hb); have n1_ := Aside0.mk (hbox); have n2_ := Aside0.mk ((by rw [hg]; exact (below_size (by repeat (first | (with_reducible first | exact HB.out | apply below_alloc | apply pw_below_drewN | apply below_drew1) | exact HB.out))) : w.heap.size ≤ gb174)); have n3_ := Aside0.mk ((by rw [hg]; exact (below_size (by repeat (first | (with_reducible first | exact HB.out | apply below_alloc | apply pw_below_drewN | apply below_drew1) | exact HB.out))) : w.heap.size ≤ gb174)); clear HB; have HB := n0_; have BK174 := n1_; have GW174 := n2_; have GE174 := n3_; clear n0_ n1_ n2_ n3_; clear hb hbox hg; have hcz26_0 : w25.cell? ⟨gb174, 0, none⟩ = some (.string (⟨#[]⟩ : ByteArray)) := (blk_cell BK174.out 0).trans rfl; have hcz26_1 : w25.cell? ⟨gb174, 1, none⟩ = some (.string (⟨#[]⟩ : ByteArray)) := (blk_cell BK174.out 1).trans rfl; have hfz26_0 := blk_frozen BK174.out 0; have hfz26_1 := blk_frozen BK174.out 1))
        have n0_ : Aside0 (((w25.setCell ⟨gb174, 0, none⟩ (.string ((rd_T42 l0 x7_1).f0))).setCell ⟨gb174, 1, none⟩ (.string ((rd_T42 l0 x7_1).f1))).heap[gb174]? = some (.cells #[.string ((rd_T42 l0 x7_1).f0), .string ((rd_T42 l0 x7_1).f1)] 42 (0, 0))) := ⟨by (with_reducible repeat (first | refine blk_drewN ?_ _ | refine blk_drew ?_ | refine blk_alloc ?_ _)); refine blk_put (cs := #[.string ((rd_T42 l0 x7_1).f0), .string (⟨#[]⟩ : ByteArray)]) ?_ 1 _ rfl; (with_reducible repeat (first | refine blk_drewN ?_ _ | refine blk_drew ?_ | refine blk_alloc ?_ _)); refine blk_put (cs := #[.string (⟨#[]⟩ : ByteArray), .string (⟨#[]⟩ : ByteArray)]) ?_ 0 _ rfl; (with_reducible repeat (first | refine blk_drewN ?_ _ | refine blk_drew ?_ | refine blk_alloc ?_ _)); exact BK174.out⟩
        have n1_ : Aside0 (Below w.heap.size w ((w25.setCell ⟨gb174, 0, none⟩ (.string ((rd_T42 l0 x7_1).f0))).setCell ⟨gb174, 1, none⟩ (.string ((rd_T42 l0 x7_1).f1)))) := ⟨by repeat (first | (with_reducible first | exact HB.out | apply below_alloc | apply pw_below_drewN | apply below_drew1 | refine below_set ?_ GE174.out) | exact HB.out)⟩
        (try clear BK174)
        (try clear HB)
        generalize ((w25.setCell ⟨gb174, 0, none⟩ (.string ((rd_T42 l0 x7_1).f0))).setCell ⟨gb174, 1, none⟩ (.string ((rd_T42 l0 x7_1).f1))) = w27 at n0_ n1_ ⊢
        have BK174 := n0_
        have HB := n1_
        clear n0_ n1_
        have n0_ := Aside0.mk (blk_drew BK174.out)
        have n1_ := Aside0.mk (below_drew1 HB.out)
        clear BK174 HB
        have BK174 := n0_
        have HB := n1_
        clear n0_ n1_
        refine start_ (n := 17) (S := fun w' => w'.cell? ⟨gb174, 0, none⟩ = some (.string ((rd_T42 l0 x7_1).f0)) ∧ w'.cell? ⟨gb174, 1, none⟩ = some (.string ((rd_T42 l0 x7_1).f1))) (ds := []) #[false, false, false, false, false, false, false, false, false, false, false, false, false, false, false, false, false] (by kernel_rfl) rfl rfl ⟨(blk_cell BK174.out 0).trans rfl, (blk_cell BK174.out 1).trans rfl⟩ (fun hHeld => ?_); refine with_tabW node_Check.tab4 node_Check.bits4 (fun HT_ HW_ => ?_)
        generalize w27.drew = w28 at BK174 HB hHeld ⊢
        refine tz_ 0 12 HT_.out HW_.out hHeld ?_
        refine one_ (i := 1) (N := some 13) #[true, true, false, false, false, false, false, false, false, false, false, false, false, false, false, false, false] rfl rfl (one_of HT_.out (by kernel_rfl)) (by decide) (fun K hK => ?_)
        refine goes_ Tryz.func27 (by kernel_rfl) rfl #[.agg #[.string ((rd_T42 l0 x7_1).f0), .string ((rd_T42 l0 x7_1).f1)]] (by rfl) rfl rfl (by (try simp only [List.map_toArray, List.map_cons, List.map_nil]); first | done | rfl | (simp only [List.length_drop, List.length_take]; rfl)) ?_
        with_reducible refine (node_May.calls k1 ((rd_T42 l0 x7_1).f0) ((rd_T42 l0 x7_1).f1) true _ A5.out).mono ?_
        rintro e w29 ⟨rfl, hb⟩
        refine ⟨_, rfl, ?_⟩
        have n0_ := Aside0.mk (blk_below (g := gb174) (o := .cells #[.string ((rd_T42 l0 x7_1).f0), .string ((rd_T42 l0 x7_1).f1)] 42 (0, 0)) (by (with_reducible repeat (first | refine blk_drewN ?_ _ | refine blk_drew ?_ | refine blk_alloc ?_ _)); exact BK174.out) hb)
        have n1_ := Aside0.mk (below_step (by repeat (first | (with_reducible first | exact HB.out | apply below_alloc | apply pw_below_drewN | apply below_drew1 | refine below_set ?_ GE174.out) | exact HB.out)) hb)
        clear BK174 HB
        have BK174 := n0_
        have HB := n1_
        clear n0_ n1_
        (try clear hb)
        (try clear hb2)
        (try clear hk)
        (try clear hi)
        refine hK.out _ _ ⟨(blk_cell BK174.out 0).trans rfl, (blk_cell BK174.out 1).trans rfl⟩ (fun hHeld => ?_)
        clear hK K
        refine nz_ 13 ?_
        refine pz_ 2 14 HT_.out ?_
        refine pz_ 3 15 HT_.out ?_
        refine pz_ 4 16 HT_.out ?_
        refine pz_ 5 17 HT_.out ?_
        refine pz_ 6 18 HT_.out ?_
        refine pu_ 7 19 HT_.out ?_
        refine pu_ 8 20 HT_.out ?_
        refine pu_ 9 21 HT_.out ?_
        refine pu_ 10 22 HT_.out ?_
        refine pu_ 11 23 HT_.out ?_
        refine pu_ 12 24 HT_.out ?_
        refine pu_ 13 25 HT_.out ?_
        refine pu_ 14 26 HT_.out ?_
        refine pz_ 15 27 HT_.out ?_
        refine pz_ 16 28 HT_.out ?_
        refine done_ (done_of HT_.out (by kernel_rfl)) ?_
        try go_wp2
        go_roundg k1
        case measure => have := HK1.out; omega
        case rel => exact ⟨(wrap64 (x7_1 + 1)), (by first | rfl | (simp; done) | (simp [*]; done)), H', ⟨by have := HK1.out; omega⟩, ⟨by repeat (first | (with_reducible first | exact HB.out | apply below_alloc | apply pw_below_drewN | apply below_drew1 | refine below_set ?_ GE174.out) | exact HB.out)⟩⟩
      ·replace c6 := Bool.eq_false_iff.mpr c6
       subst c6
       have H1 : (some 1) = some r := by rw [if_neg (show ¬ (false = true) by decide)] at H; exact H
       clear H
       have H := H1
       clear H1
       obtain rfl := Option.some.inj H
       have p173 : 0 ≤ (x7_1 : Int) := of_decide_eq_true (by first | (with_reducible assumption) | assumption)
       have q173 : x7_1 < (l0.length : Int) := of_decide_eq_true (by first | (with_reducible assumption) | assumption)
       obtain ⟨ad173, e173, hx173_0, hx173_1⟩ := at_T42 HR0.out x7_1 p173 q173
       cases e173
       replace hx173_0 := (HB.out.cell (World.block_lt_of_cell? w _ hx173_0)).trans hx173_0
       replace hx173_1 := (HB.out.cell (World.block_lt_of_cell? w _ hx173_1)).trans hx173_1
       replace p173 := eq_true p173
       replace q173 := eq_true q173
       try go_wp2_with (first | ((with_reducible refine gate_dst (N := 4) rfl ?_); refine box_event ?hg (N := 4) ?hd (cs := #[.string (⟨#[]⟩ : ByteArray), .string (⟨#[]⟩ : ByteArray)]) (t := 42) ?hr ?_; (case hd => rfl); (case hg => rfl); (case hr => first | (go_simp; done) | (go_simp; rfl)); intro gb174 hg w30 hbox hb; have n0_ := Aside0.mk (below_step (by repeat (first | (with_reducible first | exact HB.out | apply below_alloc | apply pw_below_drewN | apply below_drew1) | exact HB.out)) hb); have n1_ := Aside0.mk (hbox); have n2_ := Aside0.mk ((by rw [hg]; exact (below_size (by repeat (first | (with_reducible first | exact HB.out | apply below_alloc | apply pw_below_drewN | apply below_drew1) | exact HB.out))) : w.heap.size ≤ gb174)); have n3_ := Aside0.mk ((by rw [hg]; exact (below_size (by repeat (first | (with_reducible first | exact HB.out | apply below_alloc | apply pw_below_drewN | apply below_drew1) | exact HB.out))) : w.heap.size ≤ gb174)); clear HB; have HB := n0_; have BK174 := n1_; have GW174 := n2_; have GE174 := n3_; clear n0_ n1_ n2_ n3_; clear hb hbox hg; have hcz31_0 : w30.cell? ⟨gb174, 0, none⟩ = some (.string (⟨#[]⟩ : ByteArray)) := (blk_cell BK174.out 0).trans rfl; have hcz31_1 : w30.cell? ⟨gb174, 1, none⟩ = some (.string (⟨#[]⟩ : ByteArray)) := (blk_cell BK174.out 1).trans rfl; have hfz31_0 := blk_frozen BK174.out 0; have hfz31_1 := blk_frozen BK174.out 1))
       have n0_ : Aside0 (((w30.setCell ⟨gb174, 0, none⟩ (.string ((rd_T42 l0 x7_1).f0))).setCell ⟨gb174, 1, none⟩ (.string ((rd_T42 l0 x7_1).f1))).heap[gb174]? = some (.cells #[.string ((rd_T42 l0 x7_1).f0), .string ((rd_T42 l0 x7_1).f1)] 42 (0, 0))) := ⟨by (with_reducible repeat (first | refine blk_drewN ?_ _ | refine blk_drew ?_ | refine blk_alloc ?_ _)); refine blk_put (cs := #[.string ((rd_T42 l0 x7_1).f0), .string (⟨#[]⟩ : ByteArray)]) ?_ 1 _ rfl; (with_reducible repeat (first | refine blk_drewN ?_ _ | refine blk_drew ?_ | refine blk_alloc ?_ _)); refine blk_put (cs := #[.string (⟨#[]⟩ : ByteArray), .string (⟨#[]⟩ : ByteArray)]) ?_ 0 _ rfl; (with_reducible repeat (first | refine blk_drewN ?_ _ | refine blk_drew ?_ | refine blk_alloc ?_ _)); exact BK174.out⟩
       have n1_ : Aside0 (Below w.heap.size w ((w30.setCell ⟨gb174, 0, none⟩ (.string ((rd_T42 l0 x7_1).f0))).setCell ⟨gb174, 1, none⟩ (.string ((rd_T42 l0 x7_1).f1)))) := ⟨by repeat (first | (with_reducible first | exact HB.out | apply below_alloc | apply pw_below_drewN | apply below_drew1 | refine below_set ?_ GE174.out) | exact HB.out)⟩
       (try clear BK174)
       (try clear HB)
       generalize ((w30.setCell ⟨gb174, 0, none⟩ (.string ((rd_T42 l0 x7_1).f0))).setCell ⟨gb174, 1, none⟩ (.string ((rd_T42 l0 x7_1).f1))) = w32 at n0_ n1_ ⊢
       have BK174 := n0_
       have HB := n1_
       clear n0_ n1_
       have n0_ := Aside0.mk (blk_drew BK174.out)
       have n1_ := Aside0.mk (below_drew1 HB.out)
       clear BK174 HB
       have BK174 := n0_
       have HB := n1_
       clear n0_ n1_
       refine start_ (n := 17) (S := fun w' => w'.cell? ⟨gb174, 0, none⟩ = some (.string ((rd_T42 l0 x7_1).f0)) ∧ w'.cell? ⟨gb174, 1, none⟩ = some (.string ((rd_T42 l0 x7_1).f1))) (ds := []) #[false, false, false, false, false, false, false, false, false, false, false, false, false, false, false, false, false] (by kernel_rfl) rfl rfl ⟨(blk_cell BK174.out 0).trans rfl, (blk_cell BK174.out 1).trans rfl⟩ (fun hHeld => ?_); refine with_tabW node_Check.tab4 node_Check.bits4 (fun HT_ HW_ => ?_)
       generalize w32.drew = w33 at BK174 HB hHeld ⊢
       refine tz_ 0 12 HT_.out HW_.out hHeld ?_
       refine one_ (i := 1) (N := some 13) #[true, true, false, false, false, false, false, false, false, false, false, false, false, false, false, false, false] rfl rfl (one_of HT_.out (by kernel_rfl)) (by decide) (fun K hK => ?_)
       refine goes_ Tryz.func27 (by kernel_rfl) rfl #[.agg #[.string ((rd_T42 l0 x7_1).f0), .string ((rd_T42 l0 x7_1).f1)]] (by rfl) rfl rfl (by (try simp only [List.map_toArray, List.map_cons, List.map_nil]); first | done | rfl | (simp only [List.length_drop, List.length_take]; rfl)) ?_
       with_reducible refine (node_May.calls k1 ((rd_T42 l0 x7_1).f0) ((rd_T42 l0 x7_1).f1) false _ A5.out).mono ?_
       rintro e w34 ⟨rfl, hb⟩
       refine ⟨_, rfl, ?_⟩
       have n0_ := Aside0.mk (blk_below (g := gb174) (o := .cells #[.string ((rd_T42 l0 x7_1).f0), .string ((rd_T42 l0 x7_1).f1)] 42 (0, 0)) (by (with_reducible repeat (first | refine blk_drewN ?_ _ | refine blk_drew ?_ | refine blk_alloc ?_ _)); exact BK174.out) hb)
       have n1_ := Aside0.mk (below_step (by repeat (first | (with_reducible first | exact HB.out | apply below_alloc | apply pw_below_drewN | apply below_drew1 | refine below_set ?_ GE174.out) | exact HB.out)) hb)
       clear BK174 HB
       have BK174 := n0_
       have HB := n1_
       clear n0_ n1_
       (try clear hb)
       (try clear hb2)
       (try clear hk)
       (try clear hi)
       refine hK.out _ _ ⟨(blk_cell BK174.out 0).trans rfl, (blk_cell BK174.out 1).trans rfl⟩ (fun hHeld => ?_)
       clear hK K
       refine nz_ 13 ?_
       refine pz_ 2 14 HT_.out ?_
       refine pz_ 3 15 HT_.out ?_
       refine pu_ 4 16 HT_.out ?_
       refine pu_ 5 17 HT_.out ?_
       refine pu_ 6 18 HT_.out ?_
       refine pu_ 7 19 HT_.out ?_
       refine pu_ 8 20 HT_.out ?_
       refine pu_ 9 21 HT_.out ?_
       refine pu_ 10 22 HT_.out ?_
       refine pu_ 11 23 HT_.out ?_
       refine pu_ 12 24 HT_.out ?_
       refine pu_ 13 25 HT_.out ?_
       refine pu_ 14 26 HT_.out ?_
       refine pu_ 15 27 HT_.out ?_
       refine pz_ 16 28 HT_.out ?_
       refine done_ (done_of HT_.out (by kernel_rfl)) ?_
       try go_wp2
       go_ret
       exact ⟨by first | rfl | (simp [errW_none, errW_some] <;> rfl) | (simp [*, errW_none, errW_some] <;> rfl), by repeat (first | (with_reducible first | exact HB.out | apply below_alloc | apply pw_below_drewN | apply below_drew1 | refine below_set ?_ GE174.out) | exact HB.out)⟩
     ·rw [if_neg c4] at H
      exact absurd H (by simp)
    ·rw [if_neg c3] at H
     exact absurd H (by simp)
   ·rw [if_neg c2] at H
    have c2b0 : decide (x7_1 < (l0.length : Int)) = false := decide_eq_false c2
    clear c2
    obtain rfl := Option.some.inj H
    go_wp2
    go_ret
    exact ⟨by first | rfl | (simp [errW_none, errW_some] <;> rfl) | (simp [*, errW_none, errW_some] <;> rfl), by repeat (first | (with_reducible first | exact HB.out | apply below_alloc | apply pw_below_drewN | apply below_drew1) | exact HB.out)⟩
end Go.Proofs.YtffcbfclpfchnaaGreatDoor.Q
end

section
namespace Go.Proofs.YtffcbfclpfchnaaGreatDoor.Q
open Go.Proofs.YtffcbfclpfchnaaGreatDoor.QB.D
open Go Go.RowKit Go.Lib Go.Proofs.YtffcbfclpfchnaaGreatDoorW.PrintWords Go.Proofs.YtffcbfclpfchnaaGreatDoorW.PrintLast Go.Proofs.YtffcbfclpfchnaaGreatDoorW.PrintMore Gw
set_option linter.unusedVariables false
set_option linter.unusedSimpArgs false
abbrev GoodN (x : S42) : Prop := Tiny x.f0 ∧ Tiny x.f1 ∧ isVersion (bs x.f1) = true
def np (x : S42) : NP := (bs x.f0, bs x.f1)
theorem np_inj {x y : S42} (h : np x = np y) : x = y := by
  cases x; cases y
  simp only [np, Prod.mk.injEq] at h
  rw [bs_inj h.1, bs_inj h.2]
def ordN (x y : S42) : Int := nodC (np x) (np y)
theorem ordN_to : TO GoodN ordN := by
  have h := nodC_to
  refine ⟨fun a b => h.tri _ _, fun a b ha hb => h.sym _ _ ha.2.2 hb.2.2, fun a b ha hb => ?_, fun a b d ha hb hd => h.tr _ _ _ ha.2.2 hb.2.2 hd.2.2⟩
  show nodC _ _ = 0 ↔ _
  rw [h.eq _ _ ha.2.2 hb.2.2]
  exact ⟨np_inj, fun e => by rw [e]⟩
theorem vparts_of {s : ByteArray} (h : isVersion (bs s) = true) : vparts (bs s) = some (vOf (bs s)) := by
  rw [← vparts_some] at h
  obtain ⟨v, hv⟩ := Option.isSome_iff_exists.1 h
  unfold vOf
  rw [hv]
  rfl
instance : DecidableEq S42 := fun a b => if h : a.f0 = b.f0 ∧ a.f1 = b.f1 then isTrue (by cases a; cases b; simp at h; rw [h.1, h.2]) else isFalse (fun e => h (by subst e; exact ⟨rfl, rfl⟩))
abbrev TinyN (x : S42) : Prop := Tiny x.f0 ∧ Tiny x.f1
def mayN (x : S42) : Bool := isNode (np x)
theorem mayN_good {x : S42} (hx : TinyN x) (hm : mayN x = true) : GoodN x := by
  unfold mayN isNode np at hm
  rw [Bool.and_eq_true] at hm
  exact ⟨hx.1, hx.2, hm.2⟩
def few (s : ByteArray) : ByteArray := if (s.size : Int) > 400 then s.extract 0 400 else s
theorem few_size (s : ByteArray) : (few s).size ≤ 400 := by
  unfold few
  split
  · rw [ByteArray.size_extract]; omega
  · omega
theorem Few_val (s : ByteArray) : graftwoodlaw01_Few.f s = some (few s) := by
  unfold graftwoodlaw01_Few.f few
  split
  · rw [if_pos (by omega), if_pos (by omega)]
  · rfl
theorem One_val (a b : ByteArray) : graftwoodlaw05_One.f a b = some (few a, few b) := by
  unfold graftwoodlaw05_One.f
  rw [Few_val, Few_val]
  rfl
/-- A node of texts of no more than 400 octets. -/
abbrev Brief (x : S42) : Prop := x.f0.size ≤ 400 ∧ x.f1.size ≤ 400
theorem Brief.tiny {x : S42} (h : Brief x) : TinyN x := by unfold TinyN Tiny; omega
def oneN (x : S42) : S42 := ⟨few x.f0, few x.f1⟩
theorem oneN_brief (x : S42) : Brief (oneN x) := ⟨few_size _, few_size _⟩
theorem rd_needs {l : List S51} {i : Nat} (hi : i < l.length) : rd_T51 l (i : Int) = l[i] := by simp [rd_T51, List.getD_eq_getElem?_getD, List.getElem?_eq_getElem hi]
def oneE (x : S51) : S51 := ⟨oneN x.f0, oneN x.f1⟩
def fewE (l : List S51) : List S51 := (l.take 30).map oneE
theorem fewE_l0 (l : List S51) : ∀ (n i k : Nat), 30 ≤ i + n → i ≤ 30 → 2 * n + 2 ≤ k → graftwoodlaw18_Few.l0 k l ((l.take i).map oneE) (i : Int) = some (fewE l) := by
  intro n
  induction n with
  | zero =>
    intro i k h1 h2 hk
    obtain ⟨j, rfl⟩ : ∃ j, k = j + 2 := ⟨k - 2, by omega⟩
    have e : i = 30 := by omega
    subst e
    simp only [graftwoodlaw18_Few.l0]
    by_cases h : ((30 : Nat) : Int) < (l.length : Int)
    · rw [if_pos h]; rfl
    · rw [if_neg h]; rfl
  | succ n ih =>
    intro i k h1 h2 hk
    obtain ⟨j, rfl⟩ : ∃ j, k = j + 2 := ⟨k - 2, by omega⟩
    by_cases h : i < l.length
    · by_cases h30 : i < 30
      · have hx : (l.take i).map oneE ++ [(⟨⟨few l[i].f0.f0, few l[i].f0.f1⟩, ⟨few l[i].f1.f0, few l[i].f1.f1⟩⟩ : S51)] = (l.take (i + 1)).map oneE := by
          rw [List.take_succ_eq_append_getElem h, List.map_append]; rfl
        simp only [graftwoodlaw18_Few.l0, graftwoodlaw18_Few.j1]
        rw [if_pos (by omega), if_pos (decide_eq_true (by omega)), if_pos (by omega), if_pos (by omega), rd_needs h, One_val, One_val]
        simp only [Option.bind_some]
        rw [if_pos (by rw [List.length_map, List.length_take]; omega), hx, show wrap64 ((i : Int) + 1) = ((i + 1 : Nat) : Int) by unfold wrap64; omega]
        exact ih (i + 1) j (by omega) (by omega) (by omega)
      · exact ih i (j + 2) (by omega) h2 (by omega)
    · simp only [graftwoodlaw18_Few.l0, graftwoodlaw18_Few.j1]
      rw [if_neg (by omega)]
      unfold fewE
      rw [List.take_of_length_le (by omega : l.length ≤ i), List.take_of_length_le (by omega : l.length ≤ 30)]
      rfl
theorem fewE_val (l : List S51) (k : Nat) (hk : 70 ≤ k) : graftwoodlaw18_Few.f k l = some (fewE l) := fewE_l0 l 30 0 k (by omega) (by omega) (by omega)
theorem fewE_len (l : List S51) : (fewE l).length ≤ 30 := by unfold fewE; rw [List.length_map, List.length_take]; omega
theorem fewE_brief (l : List S51) : ∀ x ∈ fewE l, Brief x.f0 ∧ Brief x.f1 := fun x hx => by
  obtain ⟨y, _, rfl⟩ := List.mem_map.1 hx
  exact ⟨oneN_brief _, oneN_brief _⟩
theorem rd_nat {l : List S42} {i : Nat} (hi : i < l.length) : rd_T42 l (i : Int) = l[i] := by simp [rd_T42, List.getD_eq_getElem?_getD, List.getElem?_eq_getElem hi]
theorem node_eqb (x y : S42) : (x.f0.toList == y.f0.toList && x.f1.toList == y.f1.toList) = decide (x = y) := by
  rw [str_eq, str_eq]
  by_cases h : x = y
  · subst h; simp
  · rw [decide_eq_false h]
    by_cases h0 : x.f0 = y.f0
    · have h1 : x.f1 ≠ y.f1 := fun h1 => h (by cases x; cases y; simp only at h0 h1; rw [h0, h1])
      simp [h0, h1]
    · simp [h0]
theorem indexN_l0 (l : List S42) (t : S42) (hl : l.length ≤ 4294967296) : ∀ (n i k : Nat), l.length ≤ i + n → i ≤ l.length → n + 1 ≤ k → ∃ r : Int, api_Node_37.l0 k l (l.length : Int) (i : Int) t.f0 t.f1 = some r ∧ decide (r ≥ 0) = decide (t ∈ l.drop i) := by
  intro n
  induction n with
  | zero =>
    intro i k h1 h2 hk
    obtain ⟨j, rfl⟩ : ∃ j, k = j + 1 := ⟨k - 1, by omega⟩
    have e : i = l.length := by omega
    subst e
    refine ⟨-1, ?_, by rw [List.drop_length]; simp⟩
    simp only [api_Node_37.l0]
    rw [if_neg (by omega)]
  | succ n ih =>
    intro i k h1 h2 hk
    obtain ⟨j, rfl⟩ : ∃ j, k = j + 1 := ⟨k - 1, by omega⟩
    by_cases h : i < l.length
    · simp only [api_Node_37.l0]
      rw [if_pos (by omega), if_pos (by omega), if_pos (by omega), rd_nat h, node_eqb, List.drop_eq_getElem_cons h]
      by_cases e : t = l[i]
      · rw [decide_eq_true e, if_pos rfl]
        refine ⟨(i : Int), rfl, ?_⟩
        rw [decide_eq_true (by omega), decide_eq_true (by rw [e]; exact List.mem_cons_self)]
      · rw [decide_eq_false e, if_neg (by decide), show wrap64 ((i : Int) + 1) = ((i + 1 : Nat) : Int) by unfold wrap64; omega]
        obtain ⟨r, h3, h4⟩ := ih (i + 1) j (by omega) (by omega) (by omega)
        refine ⟨r, h3, h4.trans (decide_eq_decide.2 ⟨fun h => List.mem_cons_of_mem _ h, fun h => (List.mem_cons.1 h).resolve_left e⟩)⟩
    · exact ih i (j + 1) (by omega) h2 (by omega)
theorem conN_val (l : List S42) (t : S42) (hl : l.length ≤ 4294967296) (k : Nat) (hk : l.length + 1 ≤ k) : api_Node_24.f k l t.f0 t.f1 = some (decide (t ∈ l)) := by
  obtain ⟨r, h1, h2⟩ := indexN_l0 l t hl l.length 0 k (by omega) (Nat.zero_le _) hk
  rw [List.drop_zero] at h2
  unfold api_Node_24.f api_Node_37.f
  rw [show ((0 : Nat) : Int) = 0 from rfl] at h1
  rw [h1, Option.bind_some, h2]
def fewN (l : List S42) : List S42 := (l.take 24).map oneN
theorem few_l0 (l : List S42) : ∀ (n i k : Nat), 24 ≤ i + n → i ≤ 24 → n + 1 ≤ k → graftwoodlaw05_Few.l0 k l ((l.take i).map oneN) (i : Int) = some (fewN l) := by
  intro n
  induction n with
  | zero =>
    intro i k h1 h2 hk
    obtain ⟨j, rfl⟩ : ∃ j, k = j + 1 := ⟨k - 1, by omega⟩
    have e : i = 24 := by omega
    subst e
    simp only [graftwoodlaw05_Few.l0]
    by_cases h : ((24 : Nat) : Int) < (l.length : Int)
    · rw [if_pos h, if_neg (by omega)]; rfl
    · rw [if_neg h]; rfl
  | succ n ih =>
    intro i k h1 h2 hk
    obtain ⟨j, rfl⟩ : ∃ j, k = j + 1 := ⟨k - 1, by omega⟩
    by_cases h : i < l.length
    · by_cases h24 : i < 24
      · simp only [graftwoodlaw05_Few.l0]
        have hx : (l.take i).map oneN ++ [(⟨few l[i].f0, few l[i].f1⟩ : S42)] = (l.take (i + 1)).map oneN := by
          rw [List.take_succ_eq_append_getElem h, List.map_append]; rfl
        rw [if_pos (by omega), if_pos (by omega), if_pos (by omega), rd_nat h, One_val]
        simp only [Option.bind_some]
        rw [if_pos (by rw [List.length_map, List.length_take]; omega), hx, show wrap64 ((i : Int) + 1) = ((i + 1 : Nat) : Int) by unfold wrap64; omega]
        exact ih (i + 1) j (by omega) (by omega) (by omega)
      · exact ih i (j + 1) (by omega) h2 (by omega)
    · simp only [graftwoodlaw05_Few.l0]
      rw [if_neg (by omega)]
      unfold fewN
      rw [List.take_of_length_le (by omega : l.length ≤ i), List.take_of_length_le (by omega : l.length ≤ 24)]
theorem fewN_val (l : List S42) (k : Nat) (hk : 30 ≤ k) : graftwoodlaw05_Few.f k l = some (fewN l) := few_l0 l 24 0 k (by omega) (by omega) (by omega)
theorem fewN_len (l : List S42) : (fewN l).length ≤ 24 := by unfold fewN; rw [List.length_map, List.length_take]; omega
theorem fewN_brief (l : List S42) : ∀ x ∈ fewN l, Brief x := fun x hx => by
  obtain ⟨y, _, rfl⟩ := List.mem_map.1 hx
  exact oneN_brief y
theorem has_l0 (l : List S42) (t : S42) (hl : l.length ≤ 4294967296) : ∀ (n i k : Nat), l.length ≤ i + n → i ≤ l.length → n + 1 ≤ k → graftwoodref05_Has.l0 k l (i : Int) t.f0 t.f1 = some (decide (t ∈ l.drop i)) := by
  intro n
  induction n with
  | zero =>
    intro i k h1 h2 hk
    obtain ⟨j, rfl⟩ : ∃ j, k = j + 1 := ⟨k - 1, by omega⟩
    have e : i = l.length := by omega
    subst e
    simp only [graftwoodref05_Has.l0]
    rw [if_neg (by omega), List.drop_length]
    rfl
  | succ n ih =>
    intro i k h1 h2 hk
    obtain ⟨j, rfl⟩ : ∃ j, k = j + 1 := ⟨k - 1, by omega⟩
    by_cases h : i < l.length
    · simp only [graftwoodref05_Has.l0]
      rw [if_pos (by omega), if_pos (by omega), rd_nat h, node_eqb, List.drop_eq_getElem_cons h]
      by_cases e : l[i] = t
      · rw [decide_eq_true e, if_pos rfl, decide_eq_true (by rw [e]; exact List.mem_cons_self)]
      · rw [decide_eq_false e, if_neg (by decide), show wrap64 ((i : Int) + 1) = ((i + 1 : Nat) : Int) by unfold wrap64; omega, ih (i + 1) j (by omega) (by omega) (by omega)]
        exact congrArg some (decide_eq_decide.2 ⟨fun h => List.mem_cons_of_mem _ h, fun h => (List.mem_cons.1 h).resolve_left (fun e2 => e e2.symm)⟩)
    · exact ih i (j + 1) (by omega) h2 (by omega)
theorem has_val (l : List S42) (t : S42) (hl : l.length ≤ 4294967296) (k : Nat) (hk : l.length + 1 ≤ k) : graftwoodref05_Has.f k l t.f0 t.f1 = some (decide (t ∈ l)) := by
  have h := has_l0 l t hl l.length 0 k (by omega) (Nat.zero_le _) hk
  rw [List.drop_zero] at h
  exact h
theorem same_l0 (l m : List S42) (hl : l.length ≤ 4294967296) (hm : l.length = m.length) : ∀ (n i k : Nat), l.length ≤ i + n → i ≤ l.length → n + 1 ≤ k → graftwoodref05_Same.l0 k l m (i : Int) = some (decide (l.drop i = m.drop i)) := by
  intro n
  induction n with
  | zero =>
    intro i k h1 h2 hk
    obtain ⟨j, rfl⟩ : ∃ j, k = j + 1 := ⟨k - 1, by omega⟩
    have e : i = l.length := by omega
    subst e
    simp only [graftwoodref05_Same.l0]
    rw [if_neg (by omega), List.drop_length, List.drop_eq_nil_of_le (by omega)]
    rfl
  | succ n ih =>
    intro i k h1 h2 hk
    obtain ⟨j, rfl⟩ : ∃ j, k = j + 1 := ⟨k - 1, by omega⟩
    by_cases h : i < l.length
    · have h' : i < m.length := by omega
      simp only [graftwoodref05_Same.l0]
      have hn : (!(l[i].f0.toList == m[i].f0.toList) || !(l[i].f1.toList == m[i].f1.toList)) = !decide (l[i] = m[i]) := by rw [← node_eqb, Bool.not_and]
      rw [if_pos (by omega), if_pos (by omega), if_pos (by omega), rd_nat h, rd_nat h', hn, List.drop_eq_getElem_cons h, List.drop_eq_getElem_cons h']
      by_cases e : l[i] = m[i]
      · rw [decide_eq_true e, if_neg (by decide), show wrap64 ((i : Int) + 1) = ((i + 1 : Nat) : Int) by unfold wrap64; omega, ih (i + 1) j (by omega) (by omega) (by omega)]
        exact congrArg some (decide_eq_decide.2 ⟨fun h => by rw [e, h], fun h => (List.cons.inj h).2⟩)
      · rw [decide_eq_false e, if_pos (by decide), decide_eq_false (fun h => e (List.cons.inj h).1)]
    · exact ih i (j + 1) (by omega) h2 (by omega)
theorem same_val (l m : List S42) (hl : l.length ≤ 4294967296) (k : Nat) (hk : l.length + 1 ≤ k) : graftwoodref05_Same.f k l m = some (decide (l = m)) := by
  unfold graftwoodref05_Same.f
  by_cases h : l.length = m.length
  · rw [if_pos (by omega)]
    have h2 := same_l0 l m hl h l.length 0 k (by omega) (Nat.zero_le _) hk
    rw [List.drop_zero, List.drop_zero] at h2
    exact h2
  · rw [if_neg (by omega), decide_eq_false (fun e => h (by rw [e]))]
theorem elements_from (s : ByteArray) (hs : Tiny s) : ∀ (k i : Nat), ((parts 47 (bs s)).map ofB).length ≤ i + k → i ≤ ((parts 47 (bs s)).map ofB).length →
    path_Elements.l0 (k + 1) ((parts 47 (bs s)).map ofB) ((parts 47 (bs s)).map ofB) (((parts 47 (bs s)).map ofB).length : Int) (i : Int) = some (if ((parts 47 (bs s)).drop i).all isElem then ((parts 47 (bs s)).map ofB, 0) else ([], 1)) := by
  have hsm : Small s := by unfold Tiny at hs; unfold Small; omega
  obtain ⟨hl, hx⟩ := parts_small hsm 47
  have hlen : ((parts 47 (bs s)).map ofB).length = (parts 47 (bs s)).length := List.length_map _
  have hall : ∀ (i : Nat) (hi : i < (parts 47 (bs s)).length), path_element.f (((parts 47 (bs s)).map ofB)[i]'(by rw [hlen]; exact hi)) = some (isElem (parts 47 (bs s))[i]) := by
    intro i hi
    have h2 := hx (((parts 47 (bs s)).map ofB)[i]'(by rw [hlen]; exact hi)) (List.getElem_mem _)
    unfold path_element.f
    rw [if_pos (by unfold Tiny at *; omega), List.getElem_map, bs_ofB (parts_oct (bs_oct s) _ (List.getElem_mem hi))]
  intro k
  induction k with
  | zero =>
    intro i h1 h2
    have e : i = (parts 47 (bs s)).length := by omega
    subst e
    unfold path_Elements.l0
    rw [if_neg (by omega), List.drop_length]
    rfl
  | succ k ih =>
    intro i h1 h2
    unfold path_Elements.l0
    by_cases hi : i < (parts 47 (bs s)).length
    · rw [if_pos (by omega), if_pos (by omega), if_pos (by omega)]
      have hr : rdOf ByteArray.empty ((parts 47 (bs s)).map ofB) (i : Int) = ((parts 47 (bs s)).map ofB)[i]'(by rw [hlen]; exact hi) := by
        simp [rdOf, List.getD_eq_getElem?_getD, List.getElem?_eq_getElem hi]
      rw [hr, hall i hi, List.drop_eq_getElem_cons hi, List.all_cons, Option.bind_some]
      cases he : isElem (parts 47 (bs s))[i]
      · rfl
      · rw [if_pos rfl, Bool.true_and, show wrap64 ((i : Int) + 1) = ((i + 1 : Nat) : Int) by unfold wrap64; unfold Tiny at hs; omega]
        exact ih (i + 1) (by omega) (by omega)
    · have e : i = (parts 47 (bs s)).length := by omega
      rw [if_neg (by omega), List.drop_eq_nil_of_le (by omega)]
      rfl
theorem path_May_val (k : Nat) (s : ByteArray) (hs : Tiny s) (hk : s.size + 2 ≤ k) : path_May.f k s = some (isPath (bs s)) := by
  obtain ⟨j, rfl⟩ : ∃ j, k = j + 1 := ⟨k - 1, by omega⟩
  have hl := parts_len s 47
  unfold path_May.f path_Elements.f octet_Parts.f
  rw [if_pos ⟨hs, by decide, by decide⟩, Option.bind_some]
  have h := elements_from s hs j 0 (by omega) (Nat.zero_le _)
  rw [show (47 : Int).toNat = 47 from rfl, show ((0 : Nat) : Int) = 0 from rfl] at *
  rw [h, Option.bind_some, List.drop_zero]
  unfold isPath
  cases (parts 47 (bs s)).all isElem <;> rfl
theorem version_May_val (s : ByteArray) (hs : Tiny s) : version_May.f s = some (isVersion (bs s)) := by
  unfold version_May.f version_Split.f
  rw [if_pos hs, Option.bind_some, ← vparts_some]
  cases vparts (bs s) <;> rfl
theorem node_May_val (k : Nat) (x : S42) (hx : TinyN x) (hk : x.f0.size + 2 ≤ k) : node_May.f k x.f0 x.f1 = some (mayN x) := by
  unfold node_May.f
  rw [path_May_val k _ hx.1 hk, version_May_val _ hx.2]
  show _ = some (isPath (bs x.f0) && isVersion (bs x.f1))
  cases isPath (bs x.f0) <;> rfl
/-- May a need not be? -/
def badE (x : S51) : Bool := !mayN x.f1 || (!decide (x.f0 = z42) && !mayN x.f0)
abbrev TinyE (x : S51) : Prop := TinyN x.f0 ∧ TinyN x.f1
theorem node_eqz (x : S42) : (x.f0.toList == (⟨#[]⟩ : ByteArray).toList && x.f1.toList == (⟨#[]⟩ : ByteArray).toList) = decide (x = z42) := by
  rw [str_eq, str_eq]
  by_cases h : x = z42
  · subst h; rfl
  · rw [decide_eq_false h]
    by_cases h0 : x.f0 = ⟨#[]⟩
    · have h1 : x.f1 ≠ ⟨#[]⟩ := fun h1 => h (by cases x; simp only at h0 h1; rw [h0, h1]; rfl)
      simp [h0, h1]
    · simp [h0]
theorem node_eqz8 (x : S42) : (!x.f0.toList.isEmpty || !x.f1.toList.isEmpty) = !decide (x = z42) := by
  have h := node_eqz x
  have e : (⟨#[]⟩ : ByteArray).toList = [] := by rw [ByteArray.toList_eq]
  rw [e] at h
  rw [← h]
  cases x.f0.toList <;> cases x.f1.toList <;> rfl
set_option maxHeartbeats 4000000 in
set_option maxRecDepth 100000 in
theorem chk1_calls (x : S51) (hx : TinyE x) (B : Nat) (w : World) (h0 : w.cell? ⟨B, 0, none⟩ = some (.string ⟨#[]⟩)) (h1 : w.cell? ⟨B, 1, none⟩ = some (.string ⟨#[]⟩)) (hB : B < w.heap.size) :
    Calls Tryz.prog 26 #[.agg #[.string x.f0.f0, .string x.f0.f1, .string x.f1.f0, .string x.f1.f1], .pointer (some ⟨B, 0, none⟩)] w fun e w' => e = .returned (.bool (badE x)) ∧ Below w.heap.size w w' := by
  have hu24 := Tryz.underlying42
  have hu34 := Tryz.underlying51
  have q1 := hx.2.1
  have q0 := hx.1.1
  unfold Tiny at q1 q0
  have m1 := node_May_val 4294967300 x.f1 hx.2 (by omega)
  have m0 := node_May_val 4294967300 x.f0 hx.1 (by omega)
  cases b1 : mayN x.f1 with
  | false =>
    rw [b1] at m1
    have C1 := fun w => node_May.calls 4294967300 x.f1.f0 x.f1.f1 false w m1
    have hr : badE x = true := by unfold badE; rw [b1]; rfl
    rw [hr]
    clear m1 m0 q0 q1 hr hx
    go_enter Tryz.func26, Tryz.ntmps26
    go_wp2_with fail
    refine (C1 _).mono ?_
    rintro e w1 ⟨rfl, hb1⟩
    have HB1 : Aside0 (Below w.heap.size w w1) := ⟨(below_alloc (Below.refl _ _) _).trans (hb1.mono (by simp))⟩
    clear hb1 C1
    go_wp2
    go_ret
    exact ⟨rfl, HB1.out⟩
  | true =>
    rw [b1] at m1
    have C1 := fun w => node_May.calls 4294967300 x.f1.f0 x.f1.f1 true w m1
    by_cases hq : x.f0 = z42
    · have he0 : x.f0.f0.toList = [] := by rw [hq, ByteArray.toList_eq]; rfl
      have he1 : x.f0.f1.toList = [] := by rw [hq, ByteArray.toList_eq]; rfl
      have hr : badE x = false := by unfold badE; rw [b1, decide_eq_true hq]; rfl
      rw [hr]
      clear m1 m0 q0 q1 hr hx hq
      go_enter Tryz.func26, Tryz.ntmps26
      go_wp2_with fail
      refine (C1 _).mono ?_
      rintro e w1 ⟨rfl, hb1⟩
      have HB1 : Aside0 (Below w.heap.size w w1) := ⟨(below_alloc (Below.refl _ _) _).trans (hb1.mono (by simp))⟩
      have n0 : w1.cell? ⟨w.heap.size, 0, none⟩ = some (.string x.f0.f0) := (hb1.cell (p := ⟨w.heap.size, 0, none⟩) (by simp)).trans (by simp [go_sem])
      have n1 : w1.cell? ⟨w.heap.size, 1, none⟩ = some (.string x.f0.f1) := (hb1.cell (p := ⟨w.heap.size, 1, none⟩) (by simp)).trans (by simp [go_sem])
      have r0 : w1.cell? ⟨B, 0, none⟩ = some (.string ⟨#[]⟩) := (HB1.out.cell (p := ⟨B, 0, none⟩) hB).trans h0
      have r1 : w1.cell? ⟨B, 1, none⟩ = some (.string ⟨#[]⟩) := (HB1.out.cell (p := ⟨B, 1, none⟩) hB).trans h1
      clear hb1 C1
      go_wp2
      go_ret
      exact ⟨rfl, HB1.out⟩
    · have hs : (x.f0.f0.toList = []) = False ∨ (x.f0.f0.toList = [] ∧ (x.f0.f1.toList = []) = False) := by
        by_cases h2 : x.f0.f0.toList = []
        · refine Or.inr ⟨h2, eq_false (fun h3 => hq ?_)⟩
          have e0 := (toList_nil _).1 h2
          have e1 := (toList_nil _).1 h3
          have f0 : x.f0.f0 = ⟨#[]⟩ := bs_inj (by rw [e0]; rfl)
          have f1 : x.f0.f1 = ⟨#[]⟩ := bs_inj (by rw [e1]; rfl)
          rcases hx9 : x.f0 with ⟨u0, u1⟩
          rw [hx9] at f0 f1
          simp only at f0 f1
          rw [f0, f1]
          rfl
        · exact Or.inl (eq_false h2)
      have hr : badE x = !mayN x.f0 := by unfold badE; rw [b1, decide_eq_false hq]; simp
      rw [hr]
      obtain ⟨b0, hb0⟩ : ∃ b, b = mayN x.f0 := ⟨_, rfl⟩
      rw [← hb0] at m0 ⊢
      have C0 := fun w => node_May.calls 4294967300 x.f0.f0 x.f0.f1 b0 w m0
      clear m1 m0 q0 q1 hr hx hq hb0
      rcases hs with h2 | ⟨h2, h3⟩
      all_goals
        go_enter Tryz.func26, Tryz.ntmps26
        go_wp2_with fail
        refine (C1 _).mono ?_
        rintro e w1 ⟨rfl, hb1⟩
        have HB1 : Aside0 (Below w.heap.size w w1) := ⟨(below_alloc (Below.refl _ _) _).trans (hb1.mono (by simp))⟩
        have n0 : w1.cell? ⟨w.heap.size, 0, none⟩ = some (.string x.f0.f0) := (hb1.cell (p := ⟨w.heap.size, 0, none⟩) (by simp)).trans (by simp [go_sem])
        have n1 : w1.cell? ⟨w.heap.size, 1, none⟩ = some (.string x.f0.f1) := (hb1.cell (p := ⟨w.heap.size, 1, none⟩) (by simp)).trans (by simp [go_sem])
        have r0 : w1.cell? ⟨B, 0, none⟩ = some (.string ⟨#[]⟩) := (HB1.out.cell (p := ⟨B, 0, none⟩) hB).trans h0
        have r1 : w1.cell? ⟨B, 1, none⟩ = some (.string ⟨#[]⟩) := (HB1.out.cell (p := ⟨B, 1, none⟩) hB).trans h1
        clear hb1 C1
        go_wp2_with fail
        refine (C0 _).mono ?_
        rintro e w2 ⟨rfl, hb2⟩
        have HB2 : Aside0 (Below w.heap.size w w2) := ⟨HB1.out.trans (hb2.mono HB1.out.size)⟩
        clear hb2 C0
        go_wp2
        go_ret
        exact ⟨rfl, HB2.out⟩
set_option maxHeartbeats 4000000 in
set_option maxRecDepth 100000 in
theorem indexE_calls (A0 : Option Addr) (c0 : Nat) (l0 : List S51) (w : World) (hr0 : Kd.C k51 w A0 l0.length l0) (hl0 : l0.length ≤ 4294967296) (p : S51 → Bool) (B : Nat)
    (hp : ∀ x ∈ l0, ∀ (W : World), Below w.heap.size w W → Calls Tryz.prog 26 #[.agg #[.string x.f0.f0, .string x.f0.f1, .string x.f1.f0, .string x.f1.f1], .pointer (some ⟨B, 0, none⟩)] W fun e w' => e = .returned (.bool (p x)) ∧ Below W.heap.size W w') :
    Calls Tryz.prog 38 #[.slice A0 l0.length c0, .func (.func 26) #[] #[.pointer (some ⟨B, 0, none⟩)]] w fun e w' => ∃ r : Int, e = .returned (.int .i64 r) ∧ decide (0 ≤ r) = l0.any p ∧ Below w.heap.size w w' := by
  have hu24 := Tryz.underlying42
  have hu34 := Tryz.underlying51
  have HR0 := Aside0.mk hr0
  have HP := Aside0.mk hp
  have hl1 : (l0.length : Int) ≤ 4294967296 := by omega
  clear hr0 hp
  go_enter Tryz.func38, Tryz.ntmps38
  go_wp2_with fail
  go_loopw [5, 8] (fun _ v8 wr => ∃ i : Nat, i ≤ l0.length ∧ v8 = .int .i64 (i : Int) ∧ Aside0 (Below w.heap.size w wr) ∧ Aside0 ((l0.take i).any p = false)) (fun _ v8 _ => l0.length - (RowKit.intOf v8).toNat)
  case atStart => exact ⟨0, Nat.zero_le _, rfl, ⟨Below.refl _ _⟩, ⟨rfl⟩⟩
  case round =>
    obtain ⟨i, hi, rfl, HB, HA⟩ := hrel
    by_cases hil : i < l0.length
    · have j1 : (i : Int) < (l0.length : Int) := by omega
      have hdi : decide ((i : Int) < (l0.length : Int)) = true := decide_eq_true j1
      obtain ⟨x, hx⟩ : ∃ x, x = l0[i] := ⟨_, rfl⟩
      have hmem : x ∈ l0 := by rw [hx]; exact List.getElem_mem hil
      obtain ⟨ad, e0, hx0, hx1, hx2, hx3⟩ := at_T51 HR0.out (i : Int) (by omega) (by omega)
      have hrd : rd_T51 l0 (i : Int) = x := by rw [hx]; simp [rd_T51, List.getD_eq_getElem?_getD, List.getElem?_eq_getElem hil]
      rw [hrd, Int.toNat_natCast] at hx0 hx1 hx2 hx3
      cases e0
      replace hx0 := (HB.out.cell (World.block_lt_of_cell? w _ hx0)).trans hx0
      replace hx1 := (HB.out.cell (World.block_lt_of_cell? w _ hx1)).trans hx1
      replace hx2 := (HB.out.cell (World.block_lt_of_cell? w _ hx2)).trans hx2
      replace hx3 := (HB.out.cell (World.block_lt_of_cell? w _ hx3)).trans hx3
      have hcall := HP.out x hmem wr HB.out
      have htk : l0.take (i + 1) = l0.take i ++ [x] := by rw [hx]; exact List.take_succ_eq_append_getElem hil
      have HTK := Aside0.mk htk
      have HMEM := Aside0.mk hmem
      clear hx hrd htk hmem
      cases hq : p x with
      | true =>
        rw [hq] at hcall
        have HQ := Aside0.mk hq
        clear hq
        go_wp2_with (go_at_call 26; with_reducible refine hcall.mono ?_; rintro e w' ⟨rfl, hb'⟩)
        have hbel := HB.out.trans (hb'.mono HB.out.size)
        go_ret
        refine ⟨_, rfl, ?_, hbel⟩
        rw [decide_eq_true (by omega)]
        exact (List.any_eq_true.2 ⟨x, HMEM.out, HQ.out⟩).symm
      | false =>
        rw [hq] at hcall
        have HQ := Aside0.mk hq
        clear hq
        go_wp2_with (go_at_call 26; with_reducible refine hcall.mono ?_; rintro e w' ⟨rfl, hb'⟩)
        have hbel : Aside0 (Below w.heap.size w w') := ⟨HB.out.trans (hb'.mono HB.out.size)⟩
        clear hb'
        go_roundw
        case rel => exact ⟨i + 1, by omega, by go_num, hbel, ⟨by rw [HTK.out, List.any_append, HA.out]; simp [HQ.out]⟩⟩
        case measure => simp [RowKit.intOf]; omega
    · obtain rfl : i = l0.length := by omega
      have hdi : decide ((l0.length : Int) < (l0.length : Int)) = false := decide_eq_false (by omega)
      have ha := HA.out
      rw [List.take_length] at ha
      have HA2 := Aside0.mk ha
      clear ha
      go_wp2
      go_ret
      exact ⟨_, rfl, by rw [HA2.out]; rfl, HB.out⟩
def okE (l : List S51) : Bool := !l.any badE
def kI : Bool → Int
  | true => 0
  | false => 1
def lack_Check.f (l : List S51) : Option Int := if l.length ≤ 4294967296 ∧ (∀ x ∈ l, TinyE x) then some (kI (okE l)) else none
set_option maxHeartbeats 4000000 in
set_option maxRecDepth 100000 in
theorem lack_Check.calls (A0 : Option Addr) (c0 : Nat) (l0 : List S51) (r : Int) (w : World) (hr0 : Kd.C k51 w A0 l0.length l0) (hc0 : l0.length ≤ c0) (h : lack_Check.f l0 = some r) :
    Calls Tryz.prog 9 #[.slice A0 l0.length c0] w fun e w' => e = .returned (.int .i64 r) ∧ Below w.heap.size w w' := by
  unfold lack_Check.f at h
  split at h
  case isFalse => cases h
  case isTrue hc =>
    injection h with h
    subst h
    obtain ⟨hl, ht⟩ := hc
    have HR0 := Aside0.mk hr0
    have hu24 := Tryz.underlying42
    -- ContainsFunc, in the world that holds the root
    have CF : ∀ (W : World) (B : Nat), Kd.C k51 W A0 l0.length l0 → W.cell? ⟨B, 0, none⟩ = some (.string ⟨#[]⟩) → W.cell? ⟨B, 1, none⟩ = some (.string ⟨#[]⟩) → B < W.heap.size →
        Calls Tryz.prog 25 #[.slice A0 l0.length c0, .func (.func 26) #[] #[.pointer (some ⟨B, 0, none⟩)]] W fun e w' => e = .returned (.bool (l0.any badE)) ∧ Below W.heap.size W w' := by
      intro W B hR h0 h1 hB
      have CI := indexE_calls A0 c0 l0 W hR hl badE B (fun x hx W' hW => chk1_calls x (ht x hx) B W' ((hW.cell (p := ⟨B, 0, none⟩) hB).trans h0) ((hW.cell (p := ⟨B, 1, none⟩) hB).trans h1) (Nat.lt_of_lt_of_le hB hW.size))
      clear hR h0 h1 ht HR0 hr0
      go_enter Tryz.func25, Tryz.ntmps25
      go_wp2_with fail
      refine CI.mono ?_
      rintro e w1 ⟨q, rfl, hq, hb1⟩
      have HB1 := Aside0.mk hb1
      clear hb1 CI
      go_wp2
      go_ret
      exact ⟨rfl, HB1.out⟩
    obtain ⟨b, hb⟩ : ∃ b, b = l0.any badE := ⟨_, rfl⟩
    rw [← hb] at CF
    have hk : kI (okE l0) = kI (!b) := by unfold okE; rw [← hb]
    rw [hk]
    clear hb hk hr0 ht
    go_enter Tryz.func9, Tryz.ntmps9
    go_wp2_with fail
    refine (CF _ w.heap.size (Kd.C_alloc HR0.out _) (by simp [go_sem]) (by simp [go_sem]) (by simp)).mono ?_
    rintro e w1 ⟨rfl, hb1⟩
    have HB1 : Aside0 (Below w.heap.size w w1) := ⟨(below_alloc (Below.refl _ _) _).trans (hb1.mono (by simp))⟩
    clear hb1 CF
    cases b
    · go_wp2
      go_ret
      exact ⟨rfl, HB1.out⟩
    · go_wp2
      go_ret
      exact ⟨rfl, HB1.out⟩
theorem order_val (k : Nat) (x y : S42) (hx : GoodN x) (hy : GoodN y) : node_order.f (k + 3) x.f0 x.f1 y.f0 y.f1 = some (ordN x y) := by
  unfold node_order.f
  by_cases h : (x.f0.toList == y.f0.toList && x.f1.toList == y.f1.toList) = true
  · rw [if_pos h]
    rw [str_eq, str_eq, Bool.and_eq_true, decide_eq_true_eq, decide_eq_true_eq] at h
    have e : x = y := by cases x; cases y; simp only at h; rw [h.1, h.2]
    subst e
    exact congrArg some ((ordN_to.eq x x hx hx).2 rfl).symm
  · rw [if_neg h]
    have hv : version_Cmp.f x.f1 y.f1 = some (verC (vOf (bs x.f1)) (vOf (bs y.f1)), 0) := by
      unfold version_Cmp.f
      rw [if_pos ⟨hx.2.1, hy.2.1⟩, vparts_of hx.2.2, vparts_of hy.2.2]
      rfl
    rw [hv, octcmp_val]
    simp only [Option.bind_some]
    rw [or2_val]
    rfl
theorem okE_iff (l : List S51) : okE l = true ↔ ∀ e ∈ l, badE e = false := by
  unfold okE
  rw [Bool.not_eq_true', List.any_eq_false]
  simp only [Bool.not_eq_true]
theorem okE_same {l m : List S51} (h : ∀ e, e ∈ l ↔ e ∈ m) : okE l = okE m := by
  rw [Bool.eq_iff_iff, okE_iff, okE_iff]
  exact ⟨fun g e he => g e ((h e).2 he), fun g e he => g e ((h e).1 he)⟩
def dbl (l : List S51) : List S51 := l.flatMap (fun e => [e, e])
theorem dbl_len (l : List S51) : (dbl l).length = 2 * l.length := by
  unfold dbl
  induction l with
  | nil => rfl
  | cons x r ih => rw [List.flatMap_cons, List.length_append, ih]; simp only [List.length_cons, List.length_nil]; omega
theorem mem_dbl (l : List S51) (e : S51) : e ∈ l ↔ e ∈ dbl l.reverse := by
  unfold dbl
  rw [List.mem_flatMap]
  constructor
  · intro h; exact ⟨e, List.mem_reverse.2 h, List.mem_cons_self⟩
  · rintro ⟨x, hx, he⟩
    have : e = x := by simpa using he
    subst this
    exact List.mem_reverse.1 hx
/-- The nodes of a list, each once, in the order of their first coming. -/
def ded (l : List S42) : List S42 := l.foldl (fun acc x => if x ∈ acc then acc else acc ++ [x]) []
theorem ded_snoc (l : List S42) (x : S42) : ded (l ++ [x]) = if x ∈ ded l then ded l else ded l ++ [x] := by
  unfold ded
  rw [List.foldl_append]
  rfl
theorem ded_take (l : List S42) (i : Nat) (hi : i < l.length) : ded (l.take (i + 1)) = if l[i] ∈ ded (l.take i) then ded (l.take i) else ded (l.take i) ++ [l[i]] := by
  rw [List.take_succ_eq_append_getElem hi, ded_snoc]
theorem ded_len (l : List S42) : ∀ i, i ≤ l.length → (ded (l.take i)).length ≤ i
  | 0, _ => by simp [ded]
  | i + 1, h => by
    have ih := ded_len l i (by omega)
    rw [ded_take l i (by omega)]
    split <;> simp <;> omega
theorem ded_mem (l : List S42) (x : S42) : ∀ i, i ≤ l.length → (x ∈ ded (l.take i) ↔ x ∈ l.take i)
  | 0, _ => by simp [ded]
  | i + 1, h => by
    have ih := ded_mem l x i (by omega)
    rw [ded_take l i (by omega), List.take_succ_eq_append_getElem (show i < l.length by omega), List.mem_append, List.mem_singleton]
    split
    · rename_i hm
      rw [ih]
      refine ⟨Or.inl, fun h => h.elim id fun e => ?_⟩
      subst e
      have h2 := ded_mem l l[i] i (by omega)
      exact h2.1 hm
    · rw [List.mem_append, List.mem_singleton, ih]
def insN (x : S42) : List S42 → List S42
  | [] => [x]
  | y :: r => if ordN x y ≤ 0 then x :: y :: r else y :: insN x r
def sortN (l : List S42) : List S42 := l.foldr insN []
theorem insN_perm (x : S42) : ∀ l, (insN x l).Perm (x :: l)
  | [] => List.Perm.refl _
  | y :: r => by
    unfold insN
    split
    · exact List.Perm.refl _
    · exact ((insN_perm x r).cons y).trans (List.Perm.swap x y r)
theorem sortN_perm : ∀ l, (sortN l).Perm l
  | [] => List.Perm.refl _
  | x :: l => (insN_perm x _).trans ((sortN_perm l).cons x)
theorem insN_sorted (x : S42) (hx : GoodN x) : ∀ l, (∀ y ∈ l, GoodN y) → l.Pairwise (fun x y => ordN x y ≤ 0) → (insN x l).Pairwise (fun x y => ordN x y ≤ 0)
  | [], _, _ => List.pairwise_singleton _ _
  | y :: r, hg, hp => by
    have gy := hg y List.mem_cons_self
    rw [List.pairwise_cons] at hp
    unfold insN
    split
    · rename_i h
      refine List.pairwise_cons.2 ⟨fun z hz => ?_, List.pairwise_cons.2 hp⟩
      rcases List.mem_cons.1 hz with rfl | hz
      · exact h
      · exact (ordN_to.le x y z hx gy (hg z (List.mem_cons_of_mem _ hz)) h (hp.1 z hz)).1
    · rename_i h
      refine List.pairwise_cons.2 ⟨fun z hz => ?_, insN_sorted x hx r (fun z hz => hg z (List.mem_cons_of_mem _ hz)) hp.2⟩
      rcases List.mem_cons.1 ((insN_perm x r).mem_iff.1 hz) with rfl | hz
      · have := ordN_to.sym z y hx gy
        omega
      · exact hp.1 z hz
theorem sortN_sorted : ∀ l, (∀ y ∈ l, GoodN y) → (sortN l).Pairwise (fun x y => ordN x y ≤ 0)
  | [], _ => List.Pairwise.nil
  | x :: l, hg => insN_sorted x (hg x List.mem_cons_self) _ (fun y hy => hg y (List.mem_cons_of_mem _ ((sortN_perm l).mem_iff.1 hy))) (sortN_sorted l (fun y hy => hg y (List.mem_cons_of_mem _ hy)))
def setN (l : List S42) : List S42 := sortN (ded l)
/-- Nodes that may be, each behind the one ahead. -/
def chk : Option S42 → List S42 → Bool
  | _, [] => true
  | p, x :: r => mayN x && (match p with | none => true | some q => decide (ordN q x < 0)) && chk (some x) r
def checkN (l : List S42) : Bool := chk none l
theorem chk_facts : ∀ (l : List S42) (p : Option S42), chk p l = true → l.all mayN = true
  | [], _, _ => rfl
  | x :: r, p, h => by
    simp only [chk, Bool.and_eq_true] at h
    rw [List.all_cons, h.1.1, chk_facts r _ h.2]
    rfl
theorem chk_sorted : ∀ (l : List S42) (p : Option S42), (∀ x ∈ l, TinyN x) → (∀ q, p = some q → GoodN q) → chk p l = true → l.Pairwise (fun x y => ordN x y < 0) ∧ (∀ q, p = some q → ∀ x ∈ l, ordN q x < 0)
  | [], _, _, _, _ => ⟨List.Pairwise.nil, fun _ _ x hx => by cases hx⟩
  | x :: r, p, ht, hp, h => by
    simp only [chk, Bool.and_eq_true] at h
    have gx := mayN_good (ht x List.mem_cons_self) h.1.1
    have ih := chk_sorted r (some x) (fun y hy => ht y (List.mem_cons_of_mem _ hy)) (fun q e => by injection e with e; rw [← e]; exact gx) h.2
    have hxr := ih.2 x rfl
    refine ⟨List.pairwise_cons.2 ⟨hxr, ih.1⟩, fun q e y hy => ?_⟩
    subst e
    have h1 : ordN q x < 0 := of_decide_eq_true h.1.2
    rcases List.mem_cons.1 hy with rfl | hy
    · exact h1
    · have gy : GoodN y := mayN_good (ht y (List.mem_cons_of_mem _ hy)) (List.all_eq_true.1 (chk_facts r _ h.2) y hy)
      exact ordN_to.tr _ _ _ (hp q rfl) gx gy h1 (hxr y hy)
theorem check_good {l : List S42} (ht : ∀ x ∈ l, TinyN x) (h : checkN l = true) : (∀ x ∈ l, GoodN x) ∧ l.Pairwise (fun x y => ordN x y < 0) :=
  ⟨fun x hx => mayN_good (ht x hx) (List.all_eq_true.1 (chk_facts l _ h) x hx), (chk_sorted l none ht (fun q e => by cases e) h).1⟩
theorem bel_next {w : World} {o : Obj} {W W2 : World} {R : Prop} (h : Below (w.heap.size + 1) (w.alloc o) W ∧ R) (hb : Below W.heap.size W W2) : Below (w.heap.size + 1) (w.alloc o) W2 := h.1.trans (hb.mono (by have := h.1.size; simp at this; omega))
/-- How many are ahead of a node. -/
def ahead (l : List S42) (t : S42) : Nat := (l.filter (fun x => decide (ordN x t < 0))).length
theorem ahead_val (l : List S42) (t : S42) (i : Nat) (hi : i ≤ l.length) (h1 : ∀ a (ha : a < l.length), a < i → ordN l[a] t < 0) (h2 : ∀ a (ha : a < l.length), i ≤ a → 0 ≤ ordN l[a] t) : ahead l t = i := by
  unfold ahead
  have e : l = l.take i ++ l.drop i := (List.take_append_drop i l).symm
  have f1 : (l.take i).filter (fun x => decide (ordN x t < 0)) = l.take i := by
    rw [List.filter_eq_self]
    intro x hx
    obtain ⟨a, ha, rfl⟩ := List.getElem_of_mem hx
    rw [List.length_take] at ha
    rw [List.getElem_take, decide_eq_true_eq]
    exact h1 a (by omega) (by omega)
  have f2 : (l.drop i).filter (fun x => decide (ordN x t < 0)) = [] := by
    rw [List.filter_eq_nil_iff]
    intro x hx
    obtain ⟨a, ha, rfl⟩ := List.getElem_of_mem hx
    rw [List.length_drop] at ha
    rw [List.getElem_drop, decide_eq_true_eq]
    have := h2 (i + a) (by omega) (by omega)
    omega
  conv => lhs; rw [e]
  rw [List.filter_append, f1, f2, List.append_nil, List.length_take]
  omega
theorem found_val (l : List S42) (t : S42) (hg : ∀ x ∈ l, GoodN x) (gt : GoodN t) (hs : l.Pairwise (fun x y => ordN x y < 0)) (i : Nat) (h1 : ∀ a (ha : a < l.length), a < i → ordN l[a] t < 0) (h2 : ∀ a (ha : a < l.length), i ≤ a → 0 ≤ ordN l[a] t) :
    (t ∈ l) ↔ ∃ h : i < l.length, ordN l[i] t = 0 := by
  constructor
  · intro hm
    obtain ⟨a, ha, rfl⟩ := List.getElem_of_mem hm
    have h0 : ordN l[a] l[a] = 0 := (ordN_to.eq _ _ (hg _ (List.getElem_mem ha)) (hg _ (List.getElem_mem ha))).2 rfl
    rcases Nat.lt_trichotomy a i with h | h | h
    · have := h1 a ha h; omega
    · subst h; exact ⟨ha, h0⟩
    · have h3 := List.pairwise_iff_getElem.1 hs i a (by omega) ha h
      have h4 := h2 i (by omega) (Nat.le_refl _)
      omega
  · rintro ⟨h, h0⟩
    have := (ordN_to.eq _ _ (hg _ (List.getElem_mem h)) gt).1 h0
    rw [← this]
    exact List.getElem_mem h
def okI : Bool → Int
  | true => 0
  | false => 1
theorem check_l0 (l : List S42) (hl : l.length ≤ 4294967296) (ht : ∀ x ∈ l, TinyN x) : ∀ (n i k : Nat) (p : Option S42), l.length ≤ i + n → i ≤ l.length → n + 4294967300 ≤ k →
    (p = if i = 0 then none else l[i - 1]?) → (∀ q, p = some q → mayN q = true) →
    node_Check.l0 k l l (l.length : Int) (i : Int) = some (okI (chk p (l.drop i))) := by
  intro n
  induction n with
  | zero =>
    intro i k p h1 h2 hk hp hq
    obtain ⟨j, rfl⟩ : ∃ j, k = j + 1 := ⟨k - 1, by omega⟩
    have e : i = l.length := by omega
    subst e
    simp only [node_Check.l0]
    rw [if_neg (by omega), List.drop_length]
    cases p <;> rfl
  | succ n ih =>
    intro i k p h1 h2 hk hp hq
    obtain ⟨j, rfl⟩ : ∃ j, k = j + 1 := ⟨k - 1, by omega⟩
    by_cases hi : i < l.length
    · have hm := List.getElem_mem hi
      have htx := ht _ hm
      have hrd : rd_T42 l (i : Int) = l[i] := by simp [rd_T42, List.getD_eq_getElem?_getD, List.getElem?_eq_getElem hi]
      have hmv := node_May_val j l[i] htx (by have := htx.1; unfold Tiny at this; omega)
      simp only [node_Check.l0]
      rw [if_pos (by omega), if_pos (by omega), if_pos (by omega), hrd, hmv, List.drop_eq_getElem_cons hi]
      simp only [Option.bind_some, chk]
      by_cases hmx : mayN l[i] = true
      case neg =>
        rw [Bool.not_eq_true] at hmx
        rw [hmx]
        rfl
      case pos =>
        rw [hmx]
        simp only [if_true, Bool.true_and]
        have hw : wrap64 ((i : Int) + 1) = ((i + 1 : Nat) : Int) := by unfold wrap64; omega
        have ih' := ih (i + 1) j (some l[i]) (by omega) (by omega) (by omega) (by rw [if_neg (by omega)]; simp [List.getElem?_eq_getElem hi]) (fun q h => by injection h with h; rw [← h]; exact hmx)
        by_cases h0 : i = 0
        · subst h0
          rw [if_pos rfl] at hp
          subst hp
          rw [if_neg (by omega), hw, ih']
          rfl
        · rw [if_neg h0, List.getElem?_eq_getElem (by omega)] at hp
          subst hp
          have hi1 : i - 1 < l.length := by omega
          have hw1 : wrap64 ((i : Int) - 1) = ((i - 1 : Nat) : Int) := by unfold wrap64; omega
          have hrd1 : rd_T42 l ((i - 1 : Nat) : Int) = l[i - 1] := by simp [rd_T42, List.getD_eq_getElem?_getD, List.getElem?_eq_getElem hi1]
          have gx := mayN_good (ht _ (List.getElem_mem hi1)) (hq _ rfl)
          have gy := mayN_good htx hmx
          obtain ⟨j3, rfl⟩ : ∃ j3, j = j3 + 3 := ⟨j - 3, by omega⟩
          rw [if_pos (by omega), hw1, if_pos (by omega), if_pos (by omega), hrd1, order_val j3 _ _ gx gy]
          simp only [Option.bind_some]
          by_cases hc : ordN l[i - 1] l[i] < 0
          · rw [if_neg (by omega), hw, ih', decide_eq_true hc]
            rfl
          · rw [if_pos (by omega), decide_eq_false hc]
            rfl
    · exact ih i (j + 1) p (by omega) h2 (by omega) hp hq
theorem check_val (l : List S42) (hl : l.length ≤ 4294967296) (ht : ∀ x ∈ l, TinyN x) (k : Nat) (hk : 8589934600 ≤ k) : node_Check.f k l = some (okI (checkN l)) := by
  have h := check_l0 l hl ht l.length 0 k none (by omega) (Nat.zero_le _) (by omega) rfl (fun q h => by cases h)
  rw [List.drop_zero] at h
  exact h
structure IsSet (l : List S42) : Prop where
  good : ∀ x ∈ l, GoodN x
  may : ∀ x ∈ l, mayN x = true
  lt : l.Pairwise (fun x y => ordN x y < 0)
theorem ordN_self {x : S42} (h : GoodN x) : ordN x x = 0 := (ordN_to.eq x x h h).2 rfl
theorem ordN_ne {x y : S42} (hx : GoodN x) (h : ordN x y < 0) : x ≠ y := fun e => by
  subst e
  rw [ordN_self hx] at h
  omega
theorem IsSet.nodup {l : List S42} (h : IsSet l) : l.Nodup := List.Pairwise.imp_of_mem (fun hx _ hxy => ordN_ne (h.good _ hx) hxy) h.lt
theorem IsSet.nil : IsSet [] := ⟨fun x h => by (cases h), fun x h => by (cases h), List.Pairwise.nil⟩
theorem IsSet.tail {x : S42} {l : List S42} (h : IsSet (x :: l)) : IsSet l := ⟨fun y hy => h.good y (List.mem_cons_of_mem _ hy), fun y hy => h.may y (List.mem_cons_of_mem _ hy), (List.pairwise_cons.1 h.lt).2⟩
/-- Two sets with the same nodes are the same list. -/
theorem IsSet.ext : ∀ {l m : List S42}, IsSet l → IsSet m → (∀ x, x ∈ l ↔ x ∈ m) → l = m
  | [], [], _, _, _ => rfl
  | [], y :: m, _, _, h => absurd ((h y).2 List.mem_cons_self) (by simp)
  | x :: l, [], _, _, h => absurd ((h x).1 List.mem_cons_self) (by simp)
  | x :: l, y :: m, hl, hm, h => by
    have gx := hl.good x List.mem_cons_self
    have gy := hm.good y List.mem_cons_self
    have e : x = y := by
      rcases List.mem_cons.1 ((h x).1 List.mem_cons_self) with e | e
      · exact e
      · rcases List.mem_cons.1 ((h y).2 List.mem_cons_self) with e2 | e2
        · exact e2.symm
        · have h1 := (List.pairwise_cons.1 hm.lt).1 x e
          have h2 := (List.pairwise_cons.1 hl.lt).1 y e2
          have := ordN_to.sym x y gx gy
          omega
    subst e
    have hx1 : x ∉ l := (List.nodup_cons.1 hl.nodup).1
    have hx2 : x ∉ m := (List.nodup_cons.1 hm.nodup).1
    rw [IsSet.ext hl.tail hm.tail (fun z => ⟨fun hz => by
      rcases List.mem_cons.1 ((h z).1 (List.mem_cons_of_mem _ hz)) with e | e
      · subst e; exact absurd hz hx1
      · exact e, fun hz => by
      rcases List.mem_cons.1 ((h z).2 (List.mem_cons_of_mem _ hz)) with e | e
      · subst e; exact absurd hz hx2
      · exact e⟩)]
theorem IsSet.filter {l : List S42} (h : IsSet l) (p : S42 → Bool) : IsSet (l.filter p) :=
  ⟨fun x hx => h.good x (List.mem_filter.1 hx).1, fun x hx => h.may x (List.mem_filter.1 hx).1, h.lt.filter p⟩
theorem chk_of : ∀ (l : List S42) (p : Option S42), (∀ x ∈ l, mayN x = true) → l.Pairwise (fun x y => ordN x y < 0) → (∀ q, p = some q → ∀ x ∈ l, ordN q x < 0) → chk p l = true
  | [], p, _, _, _ => by cases p <;> rfl
  | x :: r, p, hm, hs, hp => by
    rw [List.pairwise_cons] at hs
    simp only [chk, Bool.and_eq_true]
    refine ⟨⟨hm x List.mem_cons_self, ?_⟩, chk_of r (some x) (fun y hy => hm y (List.mem_cons_of_mem _ hy)) hs.2 (fun q e y hy => by injection e with e; rw [← e]; exact hs.1 y hy)⟩
    cases p with
    | none => rfl
    | some q => exact decide_eq_true (hp q rfl x List.mem_cons_self)
theorem check_set {l : List S42} (ht : ∀ x ∈ l, TinyN x) : checkN l = true ↔ IsSet l :=
  ⟨fun h => ⟨(check_good ht h).1, fun x hx => List.all_eq_true.1 (chk_facts l _ h) x hx, (check_good ht h).2⟩, fun h => chk_of l none h.may h.lt (fun q e => by cases e)⟩
theorem IsSet.check {l : List S42} (h : IsSet l) : checkN l = true := chk_of l none h.may h.lt (fun q e => by cases e)
theorem mem_ded (l : List S42) (x : S42) : x ∈ ded l ↔ x ∈ l := by
  have h := ded_mem l x l.length (Nat.le_refl _)
  rwa [List.take_length] at h
theorem mem_setN (l : List S42) (x : S42) : x ∈ setN l ↔ x ∈ l := (sortN_perm _).mem_iff.trans (mem_ded l x)
theorem ded_nodup : ∀ (l : List S42), (ded l).Nodup := by
  intro l
  have h : ∀ (l acc : List S42), acc.Nodup → (l.foldl (fun acc x => if x ∈ acc then acc else acc ++ [x]) acc).Nodup := by
    intro l
    induction l with
    | nil => intro acc h; exact h
    | cons x r ih =>
      intro acc h
      rw [List.foldl_cons]
      refine ih _ ?_
      split
      · exact h
      · rename_i hx
        refine List.nodup_append.2 ⟨h, List.nodup_cons.2 ⟨by simp, List.nodup_nil⟩, fun a ha b hb => ?_⟩
        simp at hb
        subst hb
        intro e
        subst e
        exact hx ha
  exact h l [] List.nodup_nil
theorem setN_set {l : List S42} (ht : ∀ x ∈ l, TinyN x) (hm : ∀ x ∈ l, mayN x = true) : IsSet (setN l) := by
  have hg : ∀ x ∈ setN l, GoodN x := fun x hx => mayN_good (ht x ((mem_setN l x).1 hx)) (hm x ((mem_setN l x).1 hx))
  refine ⟨hg, fun x hx => hm x ((mem_setN l x).1 hx), ?_⟩
  have hnd : (setN l).Nodup := (sortN_perm _).nodup_iff.2 (ded_nodup l)
  have hs := sortN_sorted (ded l) (fun y hy => mayN_good (ht y ((mem_ded l y).1 hy)) (hm y ((mem_ded l y).1 hy)))
  refine List.Pairwise.imp_of_mem (fun hx hy h => ?_) (List.Pairwise.and hs hnd)
  have := ordN_to.eq _ _ (hg _ hx) (hg _ hy)
  rcases Int.lt_or_eq_of_le h.1 with h1 | h1
  · exact h1
  · exact absurd (this.1 h1) h.2
theorem split_ahead (t : S42) (gt : GoodN t) : ∀ (l : List S42), (∀ x ∈ l, GoodN x) → l.Pairwise (fun x y => ordN x y < 0) →
    l.take (ahead l t) = l.filter (fun x => decide (ordN x t < 0)) ∧ l.drop (ahead l t) = l.filter (fun x => !decide (ordN x t < 0))
  | [], _, _ => ⟨by simp, by simp⟩
  | x :: r, hg, hs => by
    rw [List.pairwise_cons] at hs
    have ih := split_ahead t gt r (fun y hy => hg y (List.mem_cons_of_mem _ hy)) hs.2
    by_cases h : ordN x t < 0
    · have e : ahead (x :: r) t = ahead r t + 1 := by unfold ahead; rw [List.filter_cons_of_pos (by simp [h])]; rfl
      rw [e, List.take_succ_cons, List.drop_succ_cons, ih.1, ih.2, List.filter_cons_of_pos (by simp [h]), List.filter_cons_of_neg (by simp [h])]
      exact ⟨rfl, rfl⟩
    · have hn : ∀ y ∈ r, ¬ ordN y t < 0 := fun y hy h2 => h (ordN_to.tr x y t (hg x List.mem_cons_self) (hg y (List.mem_cons_of_mem _ hy)) gt (hs.1 y hy) h2)
      have f0 : (x :: r).filter (fun x => decide (ordN x t < 0)) = [] := by
        rw [List.filter_eq_nil_iff]
        intro y hy
        rcases List.mem_cons.1 hy with rfl | hy
        · simp only [decide_eq_true_eq]; exact h
        · simp only [decide_eq_true_eq]; exact hn y hy
      have e : ahead (x :: r) t = 0 := by unfold ahead; rw [f0]; rfl
      rw [e, f0]
      refine ⟨rfl, ?_⟩
      rw [List.drop_zero]
      refine (List.filter_eq_self.2 fun y hy => ?_).symm
      rcases List.mem_cons.1 hy with rfl | hy
      · simp [h]
      · simp [hn y hy]
/-- The reference's set with a node. -/
def rwithN (l : List S42) (t : S42) : List S42 := l.filter (fun x => decide (ordN x t < 0)) ++ [t] ++ l.filter (fun x => decide (ordN t x < 0))
theorem mem_rwithN {l : List S42} {t : S42} (hg : ∀ x ∈ l, GoodN x) (gt : GoodN t) (x : S42) : x ∈ rwithN l t ↔ x ∈ l ∨ x = t := by
  unfold rwithN
  simp only [List.mem_append, List.mem_filter, List.mem_singleton, decide_eq_true_eq]
  constructor
  · rintro ((h | h) | h)
    · exact Or.inl h.1
    · exact Or.inr h
    · exact Or.inl h.1
  · rintro (h | h)
    · have h1 := ordN_to.sym x t (hg x h) gt
      have h2 := ordN_to.eq x t (hg x h) gt
      rcases ordN_to.tri x t with e | e | e
      · exact Or.inl (Or.inl ⟨h, by omega⟩)
      · exact Or.inl (Or.inr (h2.1 e))
      · exact Or.inr ⟨h, by omega⟩
    · exact Or.inl (Or.inr h)
theorem rwithN_set {l : List S42} {t : S42} (h : IsSet l) (gt : GoodN t) (mt : mayN t = true) : IsSet (rwithN l t) := by
  refine ⟨fun x hx => ?_, fun x hx => ?_, ?_⟩
  · rcases (mem_rwithN h.good gt x).1 hx with e | e
    · exact h.good x e
    · subst e; exact gt
  · rcases (mem_rwithN h.good gt x).1 hx with e | e
    · exact h.may x e
    · subst e; exact mt
  · unfold rwithN
    rw [List.pairwise_append, List.pairwise_append]
    refine ⟨⟨h.lt.filter _, List.pairwise_singleton _ _, fun a ha b hb => ?_⟩, h.lt.filter _, fun a ha b hb => ?_⟩
    · simp only [List.mem_singleton] at hb
      subst hb
      exact of_decide_eq_true (List.mem_filter.1 ha).2
    · have hb1 := List.mem_filter.1 hb
      have hb2 : ordN t b < 0 := of_decide_eq_true hb1.2
      rcases List.mem_append.1 ha with ha | ha
      · have ha1 := List.mem_filter.1 ha
        exact ordN_to.tr a t b (h.good a ha1.1) gt (h.good b hb1.1) (of_decide_eq_true ha1.2) hb2
      · simp only [List.mem_singleton] at ha
        subst ha
        exact hb2
/-- The reference's set of a list. -/
def rsetN (l : List S42) : List S42 := l.foldl rwithN []
theorem rsetN_facts (l : List S42) (ht : ∀ x ∈ l, TinyN x) (hm : ∀ x ∈ l, mayN x = true) : ∀ (acc : List S42), IsSet acc → IsSet (l.foldl rwithN acc) ∧ ∀ x, x ∈ l.foldl rwithN acc ↔ x ∈ acc ∨ x ∈ l := by
  induction l with
  | nil => intro acc h; exact ⟨h, fun x => by simp⟩
  | cons y r ih =>
    intro acc h
    have my := hm y List.mem_cons_self
    have gy := mayN_good (ht y List.mem_cons_self) my
    rw [List.foldl_cons]
    have h2 := ih (fun x hx => ht x (List.mem_cons_of_mem _ hx)) (fun x hx => hm x (List.mem_cons_of_mem _ hx)) _ (rwithN_set h gy my)
    refine ⟨h2.1, fun x => (h2.2 x).trans ?_⟩
    rw [mem_rwithN h.good gy, List.mem_cons, or_assoc]
theorem setN_ref {l : List S42} (ht : ∀ x ∈ l, TinyN x) (hm : ∀ x ∈ l, mayN x = true) : setN l = rsetN l := by
  have h2 := rsetN_facts l ht hm [] IsSet.nil
  exact (setN_set ht hm).ext h2.1 (fun x => (mem_setN l x).trans (by rw [show rsetN l = l.foldl rwithN [] from rfl, h2.2 x]; simp))
theorem rminus_l0 (l m : List S42) (hl : l.length ≤ 4294967296) (hm : m.length ≤ 4294967296) : ∀ (n i k : Nat), l.length ≤ i + n → i ≤ l.length → n + m.length + 2 ≤ k →
    graftwoodref05_Minus.l0 k l m ((l.take i).filter (fun x => !decide (x ∈ m))) (i : Int) = some (l.filter (fun x => !decide (x ∈ m))) := by
  intro n
  induction n with
  | zero =>
    intro i k h1 h2 hk
    obtain ⟨j, rfl⟩ : ∃ j, k = j + 1 := ⟨k - 1, by omega⟩
    simp only [graftwoodref05_Minus.l0]
    rw [if_neg (by omega), List.take_of_length_le (by omega)]
  | succ n ih =>
    intro i k h1 h2 hk
    obtain ⟨j, rfl⟩ : ∃ j, k = j + 1 := ⟨k - 1, by omega⟩
    by_cases hi : i < l.length
    · have hwr : wrap64 ((i : Int) + 1) = ((i + 1 : Nat) : Int) := by unfold wrap64; omega
      have hlen : ((l.take i).filter (fun x => !decide (x ∈ m))).length ≤ i := Nat.le_trans (List.length_filter_le _ _) (by rw [List.length_take]; omega)
      simp only [graftwoodref05_Minus.l0]
      rw [if_pos (by omega), if_pos (by omega), rd_nat hi, has_val m l[i] hm j (by omega)]
      simp only [Option.bind_some]
      have h9 := ih (i + 1) j (by omega) (by omega) (by omega)
      rw [List.take_succ_eq_append_getElem hi, List.filter_append] at h9
      rw [hwr]
      by_cases e : l[i] ∈ m
      · rw [decide_eq_true e, if_pos rfl]
        rw [List.filter_cons_of_neg (by simp [e]), List.filter_nil, List.append_nil] at h9
        exact h9
      · rw [decide_eq_false e, if_neg (by decide), if_pos (by omega)]
        rw [List.filter_cons_of_pos (by simp [e]), List.filter_nil] at h9
        exact h9
    · exact ih i (j + 1) (by omega) h2 (by omega)
theorem rminus_val (l m : List S42) (hl : l.length ≤ 4294967296) (hm : m.length ≤ 4294967296) (k : Nat) (hk : l.length + m.length + 2 ≤ k) : graftwoodref05_Minus.f k l m = some (l.filter (fun x => !decide (x ∈ m))) :=
  rminus_l0 l m hl hm l.length 0 k (by omega) (Nat.zero_le _) hk
end Go.Proofs.YtffcbfclpfchnaaGreatDoor.Q
end

section
namespace Go.Proofs.YtffcbfclpfchnaaGreatDoor.Q
open Go.Proofs.YtffcbfclpfchnaaGreatDoor.QB.D
open Go Go.RowKit Go.Maps Go.Lib Go.Proofs.YtffcbfclpfchnaaGreatDoorW.PrintWords Go.Proofs.YtffcbfclpfchnaaGreatDoorW.PrintLast Go.Proofs.YtffcbfclpfchnaaGreatDoorW.PrintMore Gw
set_option linter.unusedVariables false
set_option linter.unusedSimpArgs false
set_option maxRecDepth 100000
theorem laid_all : laidOutB Tryz.prog = true := by kernel_rfl
theorem keyt_node : Tryz.prog.keyTypeAt 3 42 = true := by kernel_rfl
theorem keyr_node : 42 < Tryz.prog.types.size := Nat.le_of_ble_eq_true (by kernel_rfl)
theorem wide_node : (match Tryz.prog.underlying 42 with | some (.array _ _) | some (.struct _) => true | _ => false) = true := by kernel_rfl
theorem law_node : Keyed Tryz.prog 42 := Keyed.of_law (deep_law_laid laid_all (m := 3) (by omega) keyr_node keyt_node wide_node)
def nkey (x : S42) : Lit := .string (keyBytes [.string x.f0.data.toList, .string x.f1.data.toList])
theorem keyOf_node (x : S42) (hs : x.f0.size ≤ maxLen) (ht : x.f1.size ≤ maxLen) : keyOf Tryz.prog 42 (.agg #[.string x.f0, .string x.f1]) = some (nkey x) := by
  unfold keyOf
  rw [Tryz.underlying42]
  have h1 : Tryz.prog.keyType 42 = true := by kernel_rfl
  have h2 : Tryz.prog.cellsOf 42 = 2 := by kernel_rfl
  have h3 : Tryz.prog.cellsOf 9 = 1 := by kernel_rfl
  obtain ⟨m, h4⟩ : ∃ m, Tryz.prog.types.size = m + 1 := ⟨Tryz.prog.types.size - 1, by have := keyr_node; omega⟩
  have u9 := Tryz.underlying9
  rw [h4]
  simp [h1, Value.formed, Tryz.underlying42, h2, Program.keyLits, h3, u9, Value.cells, hs, ht, nkey]
abbrev NS (x : S42) : Prop := x.f0.size ≤ maxLen ∧ x.f1.size ≤ maxLen
theorem nkey_inj {x y : S42} (hx : NS x) (hy : NS y) : nkey x = nkey y ↔ x = y := by
  refine ⟨fun h => ?_, fun h => by rw [h]⟩
  have e1 := keyOf_node x hx.1 hx.2
  have e2 := keyOf_node y hy.1 hy.2
  rw [← h] at e2
  have e := keyOf_inj_deep (tiled_of_laidOut laid_all 3 _ (by
    simp only [isVar, Bool.and_eq_true, decide_eq_true_eq]
    refine ⟨keyr_node, ?_⟩
    simp [Tryz.underlying42, kindOk]) keyt_node) wide_node e1 e2
  simp only [Value.agg.injEq] at e
  cases x; cases y
  simpa using e
theorem nkey_lit (x : S42) : WideAt.IsKeyLit (nkey x) := by unfold nkey; simp [WideAt.IsKeyLit]
end Go.Proofs.YtffcbfclpfchnaaGreatDoor.Q
end
