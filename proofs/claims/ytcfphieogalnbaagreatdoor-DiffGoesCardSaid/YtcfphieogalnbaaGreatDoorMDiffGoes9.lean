/- Part 9 of this claim: several texts one behind the other: Fgraftwoodref05May, Fgraftwoodlaw13all, SplitP, RVal, RMay5, LAll13, HDGoes. What each shows stands in its theorems; conditions: sizes of texts and lists, as the functions' definitions say. -/
import Derived.Test.YtcfphieogalnbaaGreatDoorMDiffGoes0
import Derived.Test.YtcfphieogalnbaaGreatDoorMDiffGoes8
import Derived.Test.YtcfphieogalnbaaGreatDoorMDiffGoes2
import Derived.Test.YtcfphieogalnbaaGreatDoorMDiffGoes1
import Derived.Test.YtcfphieogalnbaaGreatDoorMDiffGoes3
import Derived.Test.YtcfphieogalnbaaGreatDoorMDiffGoes6
import Derived.Test.YtcfphieogalnbaaGreatDoorMDiffGoes7
section
namespace Go.Proofs.YtcfphieogalnbaaGreatDoor.Q
open Go.RowKit Go.Proofs.YtcfphieogalnbaaGreatDoorW.PrintWords Go.Proofs.YtcfphieogalnbaaGreatDoorW.PrintLast Go.Proofs.YtcfphieogalnbaaGreatDoorW.PrintMore
attribute [local go_sem] max2_int min2_int max_two min_two max_three min_three max_four min_four   -- for this text's walks alone
set_option linter.unusedVariables false
set_option linter.unusedSimpArgs false
/-! ### graftwoodref05_May: function 12 -/
def graftwoodref05_May.f (k : Nat) (a0_0 : ByteArray) (a0_1 : ByteArray) : Option (Bool) := (graftwoodref04_May.f k a0_0).bind fun t197 => (if t197 = true then ((graftwoodref03_May.f a0_1).bind fun t198 => (some t198)) else (some false))
set_option maxHeartbeats 8000000 in
set_option maxRecDepth 100000 in
theorem graftwoodref05_May.calls (k : Nat) (a0_0 : ByteArray) (a0_1 : ByteArray) (r : Bool) (w : World) (h : graftwoodref05_May.f k a0_0 a0_1 = some r) :
    Calls Tryz.prog 12 #[.agg #[.string a0_0, .string a0_1]] w fun e w' => e = .returned (.bool r) ∧ Below w.heap.size w w' := by
  have hu24 := Tryz.underlying24
  have HB := Aside0.mk (Below.refl w.heap.size w)
  have H : ((graftwoodref04_May.f k a0_0).bind fun t197 => (if t197 = true then ((graftwoodref03_May.f a0_1).bind fun t198 => (some t198)) else (some false))) = some r := h
  clear h
  replace H := Option.bind_eq_some_iff.mp H
  obtain ⟨t197, A20, H⟩ := H
  replace H : (if t197 = true then ((graftwoodref03_May.f a0_1).bind fun t198 => (some t198)) else (some false)) = some r := H
  have A2 := Aside0.mk A20
  clear A20
  by_cases c3 : t197 = true
  · subst c3
    have H1 : ((graftwoodref03_May.f a0_1).bind fun t198 => (some t198)) = some r := by rw [if_pos rfl] at H; exact H
    clear H
    have H := H1
    clear H1
    replace H := Option.bind_eq_some_iff.mp H
    obtain ⟨t198, A40, H⟩ := H
    replace H : (some t198) = some r := H
    have A4 := Aside0.mk A40
    clear A40
    obtain rfl := Option.some.inj H
    go_enter Tryz.func12, Tryz.ntmps12
    go_wp2_with (first | ((with_reducible refine gate_dst (N := 1) rfl ?_); refine box_event ?hg (N := 1) ?hd (cs := #[.string a0_0, .string a0_1]) (t := 24) ?hr ?_; (case hd => rfl); (case hg => rfl); (case hr => first | (go_simp; done) | (go_simp; rfl)); intro gb196 hg w5 hbox hb; have n0_ := Aside0.mk (below_step (by repeat (first | (with_reducible first | exact HB.out | apply below_alloc | apply pw_below_drewN | apply below_drew1) | exact HB.out)) hb); have n1_ := Aside0.mk (hbox); have n2_ := Aside0.mk ((by rw [hg]; exact (below_size (by repeat (first | (with_reducible first | exact HB.out | apply below_alloc | apply pw_below_drewN | apply below_drew1) | exact HB.out))) : w.heap.size ≤ gb196)); have n3_ := Aside0.mk ((by rw [hg]; exact (below_size (by repeat (first | (with_reducible first | exact HB.out | apply below_alloc | apply pw_below_drewN | apply below_drew1) | exact HB.out))) : w.heap.size ≤ gb196)); clear HB; have HB := n0_; have BK196 := n1_; have GW196 := n2_; have GE196 := n3_; clear n0_ n1_ n2_ n3_; clear hb hbox hg; have hcz6_0 : w5.cell? ⟨gb196, 0, none⟩ = some (.string a0_0) := (blk_cell BK196.out 0).trans rfl; have hcz6_1 : w5.cell? ⟨gb196, 1, none⟩ = some (.string a0_1) := (blk_cell BK196.out 1).trans rfl; have hfz6_0 := blk_frozen BK196.out 0; have hfz6_1 := blk_frozen BK196.out 1) | ((with_reducible refine gate_callee (f := 25) rfl ?_); refine goesL_ (some 5) rfl rfl Tryz.func25 (by kernel_rfl) rfl #[.string a0_0] rfl (by (try simp only [List.map_toArray, List.map_cons, List.map_nil]); first | done | rfl | (simp only [List.length_drop, List.length_take]; rfl)) ?_; (with_reducible refine (graftwoodref04_May.calls k a0_0 true _ A2.out).mono ?_); rintro e w7 ⟨rfl, hb⟩; refine ⟨_, rfl, ?_⟩; have n0_ := Aside0.mk (blk_below (g := gb196) (o := .cells #[.string a0_0, .string a0_1] 24 (0, 0)) (by (with_reducible repeat (first | refine blk_drewN ?_ _ | refine blk_drew ?_ | refine blk_alloc ?_ _)); exact BK196.out) hb); have n1_ := Aside0.mk (below_step (by repeat (first | (with_reducible first | exact HB.out | apply below_alloc | apply pw_below_drewN | apply below_drew1 | refine below_set ?_ GE196.out) | exact HB.out)) hb); clear BK196; clear HB; have BK196 := n0_; have HB := n1_; clear n0_ n1_; (try clear hb); (try clear hb2); (try clear hk); (try clear hi); have hcz8_0 : w7.cell? ⟨gb196, 0, none⟩ = some (.string a0_0) := (blk_cell BK196.out 0).trans rfl; have hcz8_1 : w7.cell? ⟨gb196, 1, none⟩ = some (.string a0_1) := (blk_cell BK196.out 1).trans rfl; have hfz8_0 := blk_frozen BK196.out 0; have hfz8_1 := blk_frozen BK196.out 1) | (go_at_call 26; (with_reducible refine (graftwoodref03_May.calls a0_1 t198 _ A4.out).mono ?_); rintro e w9 ⟨rfl, hb⟩; have n0_ := Aside0.mk (blk_below (g := gb196) (o := .cells #[.string a0_0, .string a0_1] 24 (0, 0)) (by (with_reducible repeat (first | refine blk_drewN ?_ _ | refine blk_drew ?_ | refine blk_alloc ?_ _)); exact BK196.out) hb); have n1_ := Aside0.mk (below_step (by repeat (first | (with_reducible first | exact HB.out | apply below_alloc | apply pw_below_drewN | apply below_drew1 | refine below_set ?_ GE196.out) | exact HB.out)) hb); clear BK196; clear HB; have BK196 := n0_; have HB := n1_; clear n0_ n1_; (try clear hb); (try clear hb2); (try clear hk); (try clear hi)))
    go_ret
    exact ⟨by first | rfl | (simp [errW_none, errW_some] <;> rfl) | (simp [*, errW_none, errW_some] <;> rfl), by repeat (first | (with_reducible first | exact HB.out | apply below_alloc | apply pw_below_drewN | apply below_drew1 | refine below_set ?_ GE196.out) | exact HB.out)⟩
  · replace c3 := Bool.eq_false_iff.mpr c3
    subst c3
    have H1 : (some false) = some r := by rw [if_neg (show ¬ (false = true) by decide)] at H; exact H
    clear H
    have H := H1
    clear H1
    obtain rfl := Option.some.inj H
    go_enter Tryz.func12, Tryz.ntmps12
    go_wp2_with (first | ((with_reducible refine gate_dst (N := 1) rfl ?_); refine box_event ?hg (N := 1) ?hd (cs := #[.string a0_0, .string a0_1]) (t := 24) ?hr ?_; (case hd => rfl); (case hg => rfl); (case hr => first | (go_simp; done) | (go_simp; rfl)); intro gb196 hg w10 hbox hb; have n0_ := Aside0.mk (below_step (by repeat (first | (with_reducible first | exact HB.out | apply below_alloc | apply pw_below_drewN | apply below_drew1) | exact HB.out)) hb); have n1_ := Aside0.mk (hbox); have n2_ := Aside0.mk ((by rw [hg]; exact (below_size (by repeat (first | (with_reducible first | exact HB.out | apply below_alloc | apply pw_below_drewN | apply below_drew1) | exact HB.out))) : w.heap.size ≤ gb196)); have n3_ := Aside0.mk ((by rw [hg]; exact (below_size (by repeat (first | (with_reducible first | exact HB.out | apply below_alloc | apply pw_below_drewN | apply below_drew1) | exact HB.out))) : w.heap.size ≤ gb196)); clear HB; have HB := n0_; have BK196 := n1_; have GW196 := n2_; have GE196 := n3_; clear n0_ n1_ n2_ n3_; clear hb hbox hg; have hcz11_0 : w10.cell? ⟨gb196, 0, none⟩ = some (.string a0_0) := (blk_cell BK196.out 0).trans rfl; have hcz11_1 : w10.cell? ⟨gb196, 1, none⟩ = some (.string a0_1) := (blk_cell BK196.out 1).trans rfl; have hfz11_0 := blk_frozen BK196.out 0; have hfz11_1 := blk_frozen BK196.out 1) | ((with_reducible refine gate_callee (f := 25) rfl ?_); refine goesL_ (some 5) rfl rfl Tryz.func25 (by kernel_rfl) rfl #[.string a0_0] rfl (by (try simp only [List.map_toArray, List.map_cons, List.map_nil]); first | done | rfl | (simp only [List.length_drop, List.length_take]; rfl)) ?_; (with_reducible refine (graftwoodref04_May.calls k a0_0 false _ A2.out).mono ?_); rintro e w12 ⟨rfl, hb⟩; refine ⟨_, rfl, ?_⟩; have n0_ := Aside0.mk (blk_below (g := gb196) (o := .cells #[.string a0_0, .string a0_1] 24 (0, 0)) (by (with_reducible repeat (first | refine blk_drewN ?_ _ | refine blk_drew ?_ | refine blk_alloc ?_ _)); exact BK196.out) hb); have n1_ := Aside0.mk (below_step (by repeat (first | (with_reducible first | exact HB.out | apply below_alloc | apply pw_below_drewN | apply below_drew1 | refine below_set ?_ GE196.out) | exact HB.out)) hb); clear BK196; clear HB; have BK196 := n0_; have HB := n1_; clear n0_ n1_; (try clear hb); (try clear hb2); (try clear hk); (try clear hi)))
    go_ret
    exact ⟨by first | rfl | (simp [errW_none, errW_some] <;> rfl) | (simp [*, errW_none, errW_some] <;> rfl), by repeat (first | (with_reducible first | exact HB.out | apply below_alloc | apply pw_below_drewN | apply below_drew1 | refine below_set ?_ GE196.out) | exact HB.out)⟩
/-! ### graftwoodlaw13_all: function 10 -/
def graftwoodlaw13_all.l0 : Nat → List (S24) → Int → Option (Bool)
  | 0, _, _ => none
  | k + 1, x0, x3 => if x3 < (x0.length : Int) then (if 0 ≤ x3 then ((graftwoodref05_May.f k ((rd_T24 x0 x3).f0) ((rd_T24 x0 x3).f1)).bind fun t200 => (if t200 = true then (graftwoodlaw13_all.l0 k x0 (wrap64 (x3 + 1))) else (some false))) else (none)) else (some true)
def graftwoodlaw13_all.f (k : Nat) (l0 : List (S24)) : Option (Bool) := graftwoodlaw13_all.l0 k l0 0
set_option maxHeartbeats 8000000 in
set_option maxRecDepth 100000 in
theorem graftwoodlaw13_all.calls (k : Nat) (A0 : Option Addr) (c0 : Nat) (l0 : List (S24)) (r : Bool) (w : World) (hr0 : Kd.C k24 w A0 l0.length l0) (hc0 : l0.length ≤ c0) (h : graftwoodlaw13_all.f k l0 = some r) :
    Calls Tryz.prog 10 #[.slice A0 l0.length c0] w fun e w' => e = .returned (.bool r) ∧ Below w.heap.size w w' := by
  have hu24 := Tryz.underlying24
  have HR0 := Aside0.mk hr0
  have HC0 := Aside0.mk hc0
  clear hr0 hc0
  have HB := Aside0.mk (Below.refl w.heap.size w)
  have H : (graftwoodlaw13_all.l0 k l0 0) = some r := h
  clear h
  have H' := Aside0.mk H
  clear H
  go_enter Tryz.func10, Tryz.ntmps10
  go_wp2
  go_loopg [3] k (fun kq v3 w' => ∃ (x3_1 : Int), v3 = .int .i64 x3_1 ∧ Aside0 (graftwoodlaw13_all.l0 kq l0 x3_1 = some r) ∧ Aside0 (kq ≤ k) ∧ Aside0 (Below w.heap.size w w'))
  case atStart => exact ⟨(0), (by first | rfl | (simp; done) | (simp [*]; done)), H', ⟨Nat.le_refl _⟩, ⟨by repeat (first | (with_reducible first | exact HB.out | apply below_alloc | apply pw_below_drewN | apply below_drew1) | exact HB.out)⟩⟩
  case round =>
    clear H'
    try clear c1
    obtain ⟨x3_1, rfl, HA, HK1, HB⟩ := hrel
    cases gk with
    | zero => exact absurd HA.out (by simp [graftwoodlaw13_all.l0])
    | succ k1 =>
      have H := HA.out
      clear HA
      simp only [graftwoodlaw13_all.l0] at H
      by_cases c2 : x3_1 < (l0.length : Int)
      · rw [if_pos c2] at H
        have c2b0 : decide (x3_1 < (l0.length : Int)) = true := decide_eq_true c2
        clear c2
        by_cases c3 : 0 ≤ x3_1
        · rw [if_pos c3] at H
          have c3b0 : decide (0 ≤ x3_1) = true := decide_eq_true c3
          clear c3
          replace H := Option.bind_eq_some_iff.mp H
          obtain ⟨t200, A40, H⟩ := H
          replace H : (if t200 = true then (graftwoodlaw13_all.l0 k1 l0 (wrap64 (x3_1 + 1))) else (some false)) = some r := H
          have A4 := Aside0.mk A40
          clear A40
          by_cases c5 : t200 = true
          · subst c5
            have H1 : (graftwoodlaw13_all.l0 k1 l0 (wrap64 (x3_1 + 1))) = some r := by rw [if_pos rfl] at H; exact H
            clear H
            have H := H1
            clear H1
            have H' := Aside0.mk H
            clear H
            have p199 : 0 ≤ (x3_1 : Int) := of_decide_eq_true (by first | (with_reducible assumption) | assumption)
            have q199 : x3_1 < (l0.length : Int) := of_decide_eq_true (by first | (with_reducible assumption) | assumption)
            obtain ⟨ad199, e199, hx199_0, hx199_1⟩ := at_T24 HR0.out x3_1 p199 q199
            cases e199
            replace hx199_0 := (HB.out.cell (World.block_lt_of_cell? w _ hx199_0)).trans hx199_0
            replace hx199_1 := (HB.out.cell (World.block_lt_of_cell? w _ hx199_1)).trans hx199_1
            replace p199 := eq_true p199
            replace q199 := eq_true q199
            go_wp2_with (first | ((with_reducible refine gate_callee (f := 12) rfl ?_); refine goesL_ (some 14) rfl rfl Tryz.func12 (by kernel_rfl) rfl #[.agg #[.string ((rd_T24 l0 x3_1).f0), .string ((rd_T24 l0 x3_1).f1)]] rfl (by (try simp only [List.map_toArray, List.map_cons, List.map_nil]); first | done | rfl | (simp only [List.length_drop, List.length_take]; rfl)) ?_; (with_reducible refine (graftwoodref05_May.calls k1 ((rd_T24 l0 x3_1).f0) ((rd_T24 l0 x3_1).f1) true _ A4.out).mono ?_); rintro e w6 ⟨rfl, hb⟩; refine ⟨_, rfl, ?_⟩; have n0_ := Aside0.mk (below_step (by repeat (first | (with_reducible first | exact HB.out | apply below_alloc | apply pw_below_drewN | apply below_drew1) | exact HB.out)) hb); clear HB; have HB := n0_; clear n0_; (try clear hb); (try clear hb2); (try clear hk); (try clear hi)))
            go_roundg k1
            case measure => have := HK1.out; omega
            case rel => exact ⟨(wrap64 (x3_1 + 1)), (by first | rfl | (simp; done) | (simp [*]; done)), H', ⟨by have := HK1.out; omega⟩, ⟨by repeat (first | (with_reducible first | exact HB.out | apply below_alloc | apply pw_below_drewN | apply below_drew1) | exact HB.out)⟩⟩
          · replace c5 := Bool.eq_false_iff.mpr c5
            subst c5
            have H1 : (some false) = some r := by rw [if_neg (show ¬ (false = true) by decide)] at H; exact H
            clear H
            have H := H1
            clear H1
            obtain rfl := Option.some.inj H
            have p199 : 0 ≤ (x3_1 : Int) := of_decide_eq_true (by first | (with_reducible assumption) | assumption)
            have q199 : x3_1 < (l0.length : Int) := of_decide_eq_true (by first | (with_reducible assumption) | assumption)
            obtain ⟨ad199, e199, hx199_0, hx199_1⟩ := at_T24 HR0.out x3_1 p199 q199
            cases e199
            replace hx199_0 := (HB.out.cell (World.block_lt_of_cell? w _ hx199_0)).trans hx199_0
            replace hx199_1 := (HB.out.cell (World.block_lt_of_cell? w _ hx199_1)).trans hx199_1
            replace p199 := eq_true p199
            replace q199 := eq_true q199
            go_wp2_with (first | ((with_reducible refine gate_callee (f := 12) rfl ?_); refine goesL_ (some 14) rfl rfl Tryz.func12 (by kernel_rfl) rfl #[.agg #[.string ((rd_T24 l0 x3_1).f0), .string ((rd_T24 l0 x3_1).f1)]] rfl (by (try simp only [List.map_toArray, List.map_cons, List.map_nil]); first | done | rfl | (simp only [List.length_drop, List.length_take]; rfl)) ?_; (with_reducible refine (graftwoodref05_May.calls k1 ((rd_T24 l0 x3_1).f0) ((rd_T24 l0 x3_1).f1) false _ A4.out).mono ?_); rintro e w7 ⟨rfl, hb⟩; refine ⟨_, rfl, ?_⟩; have n0_ := Aside0.mk (below_step (by repeat (first | (with_reducible first | exact HB.out | apply below_alloc | apply pw_below_drewN | apply below_drew1) | exact HB.out)) hb); clear HB; have HB := n0_; clear n0_; (try clear hb); (try clear hb2); (try clear hk); (try clear hi)))
            go_ret
            exact ⟨by first | rfl | (simp [errW_none, errW_some] <;> rfl) | (simp [*, errW_none, errW_some] <;> rfl), by repeat (first | (with_reducible first | exact HB.out | apply below_alloc | apply pw_below_drewN | apply below_drew1) | exact HB.out)⟩
        · rw [if_neg c3] at H
          exact absurd H (by simp)
      · rw [if_neg c2] at H
        have c2b0 : decide (x3_1 < (l0.length : Int)) = false := decide_eq_false c2
        clear c2
        obtain rfl := Option.some.inj H
        go_wp2
        go_ret
        exact ⟨by first | rfl | (simp [errW_none, errW_some] <;> rfl) | (simp [*, errW_none, errW_some] <;> rfl), by repeat (first | (with_reducible first | exact HB.out | apply below_alloc | apply pw_below_drewN | apply below_drew1) | exact HB.out)⟩
end Go.Proofs.YtcfphieogalnbaaGreatDoor.Q
end

section
namespace Go.Proofs.YtcfphieogalnbaaGreatDoor.Q
open Go.RowKit Gw
set_option linter.unusedVariables false
theorem cutDash_split : ∀ r : List Nat, r = (cutDash r).1 ++ (match (cutDash r).2 with | none => [] | some p => 45 :: p)
  | [] => rfl
  | c :: r => by
    have ih := cutDash_split r
    by_cases h : c = 45
    · subst h; rfl
    · simp only [cutDash, if_neg h, List.cons_append]
      rw [← ih]
theorem cutFrom_v (r : List Nat) : cutFrom (118 :: r) 0 = (cutDash r).1.length + 1 := by simp [cutFrom, cutDash]
theorem take_v (r : List Nat) : ((118 :: r).take (cutFrom (118 :: r) 0)).drop 1 = (cutDash r).1 := by
  rw [cutFrom_v, List.take_succ_cons, List.drop_succ_cons, List.drop_zero]
  have h := cutDash_split r
  generalize (cutDash r).1 = x at *
  generalize (cutDash r).2 = y at *
  rw [h, List.take_left']
  rfl
theorem drop_v (r p : List Nat) (hp : (cutDash r).2 = some p) : (118 :: r).drop (cutFrom (118 :: r) 0 + 1) = p := by
  rw [cutFrom_v, List.drop_succ_cons]
  have h := cutDash_split r
  rw [hp] at h
  generalize (cutDash r).1 = x at *
  rw [h]
  simp
theorem cut_size (r : List Nat) : cutFrom (118 :: r) 0 = (118 :: r).length ↔ (cutDash r).2 = none := by
  rw [cutFrom_v, List.length_cons]
  have h := congrArg List.length (cutDash_split r)
  rw [List.length_append] at h
  cases hp : (cutDash r).2 with
  | none => rw [hp] at h; simp at h; simp; omega
  | some p => rw [hp] at h; simp at h; simp; omega
theorem splitOf_len (s : ByteArray) (cut : Nat) (l : List ByteArray) (h : l.length ≠ 3) : splitOf s cut l = zeroV := by
  match l, h with
  | [], _ => rfl
  | [_], _ => rfl
  | [_, _], _ => rfl
  | [_, _, _], h => exact absurd rfl h
  | _ :: _ :: _ :: _ :: _, _ => rfl
theorem splitV_ok (s : ByteArray) : (splitV s).2.2.2.2 = isVersion (bs s) := by
  unfold splitV
  cases hb : bs s with
  | nil => rfl
  | cons c r =>
    rw [if_neg (by simp)]
    by_cases h : c = 118
    · subst h
      rw [if_pos (by simp)]
      have hsz : s.size = (118 :: r).length := by rw [← bs_length, hb]
      unfold splitS
      rw [hb, take_v]
      simp only [isVersion, coreOk]
      by_cases h3 : (parts 46 (cutDash r).1).length = 3
      · obtain ⟨a, b, c, hp⟩ : ∃ a b c, parts 46 (cutDash r).1 = [a, b, c] := by
          match parts 46 (cutDash r).1, h3 with
          | [a, b, c], _ => exact ⟨a, b, c, rfl⟩
        have ho : ∀ p ∈ parts 46 (cutDash r).1, ∀ x ∈ p, x < 256 := by
          refine parts_oct (fun x hx => bs_oct s x ?_)
          rw [hb]
          refine List.mem_cons_of_mem _ ?_
          rw [cutDash_split r]
          exact List.mem_append_left _ hx
        rw [hp] at ho ⊢
        simp only [List.map_cons, List.map_nil, splitOf, bs_ofB (ho a (by simp)), bs_ofB (ho b (by simp)), bs_ofB (ho c (by simp))]
        simp only [List.length_cons, List.length_nil, List.all_cons, List.all_nil, Bool.and_true]
        by_cases hn : (isNum a && isNum b && isNum c) = true
        · rw [if_pos hn, hsz]
          rw [show (isNum a && (isNum b && isNum c)) = true from by rw [← Bool.and_assoc]; exact hn]
          by_cases hc : cutFrom (118 :: r) 0 = (118 :: r).length
          · rw [if_pos hc, (cut_size r).1 hc]; rfl
          · rw [if_neg hc]
            cases hp2 : (cutDash r).2 with
            | none => exact absurd ((cut_size r).2 hp2) hc
            | some p =>
              rw [hb, drop_v r p hp2]
              simp only [preOk]
              by_cases hw : (parts 46 p).all isWord = true
              · rw [if_pos hw, hw]; rfl
              · rw [if_neg hw, Bool.eq_false_iff.2 hw]; rfl
        · rw [if_neg hn, show (isNum a && (isNum b && isNum c)) = false from by rw [← Bool.and_assoc]; exact Bool.eq_false_iff.2 hn]; rfl
      · rw [splitOf_len _ _ _ (by rw [List.length_map]; exact h3), beq_eq_false_iff_ne.2 h3]; rfl
    · rw [if_neg (by simp; exact h)]
      unfold isVersion
      split
      · rename_i heq; exact absurd (List.cons.inj heq).1 h
      · rfl
end Go.Proofs.YtcfphieogalnbaaGreatDoor.Q
end

section
namespace Go.Proofs.YtcfphieogalnbaaGreatDoor.Q
open Go Go.RowKit Go.Lib Go.Proofs.YtcfphieogalnbaaGreatDoorW.PrintWords Go.Proofs.YtcfphieogalnbaaGreatDoorW.PrintLast Go.Proofs.YtcfphieogalnbaaGreatDoorW.PrintMore Gw
set_option linter.unusedVariables false
set_option linter.unusedSimpArgs false
theorem split_some (s : ByteArray) (p q r : List Nat) (l : List (List Nat)) (h : vparts (bs s) = some (p, q, r, l)) : splitV s = (ofB p, ofB q, ofB r, l.map ofB, true) := by
  have hv : isVersion (bs s) = true := by rw [← vparts_some, h]; rfl
  unfold splitV
  cases hb : bs s with
  | nil => rw [hb] at h; cases h
  | cons c t =>
    rw [if_neg (by simp)]
    by_cases hc : c = 118
    · subst hc
      rw [if_pos (by simp)]
      have hsz : s.size = (118 :: t).length := by rw [← bs_length, hb]
      unfold splitS
      rw [hb, take_v]
      rw [hb] at h
      have h' : vcore (cutDash t).1 (cutDash t).2 = some (p, q, r, l) := h
      unfold vcore at h'
      split at h'
      · rename_i a b c hp
        split at h'
        · rename_i hn
          have ho : ∀ p ∈ parts 46 (cutDash t).1, ∀ x ∈ p, x < 256 := by
            refine parts_oct (fun x hx => bs_oct s x ?_)
            rw [hb]
            refine List.mem_cons_of_mem _ ?_
            rw [cutDash_split t]
            exact List.mem_append_left _ hx
          rw [hp] at ho ⊢
          simp only [List.map_cons, List.map_nil, splitOf, bs_ofB (ho a (by simp)), bs_ofB (ho b (by simp)), bs_ofB (ho c (by simp))]
          rw [if_pos hn, hsz]
          unfold vpre at h'
          split at h'
          · rename_i hc
            rw [if_pos ((cut_size t).2 hc)]
            injection h' with h'
            simp only [Prod.mk.injEq] at h'
            obtain ⟨rfl, rfl, rfl, rfl⟩ := h'
            rfl
          · rename_i pp hc
            rw [if_neg (fun e => by rw [(cut_size t).1 e] at hc; cases hc), hb, drop_v t pp hc]
            split at h'
            · rename_i hw
              injection h' with h'
              simp only [Prod.mk.injEq] at h'
              obtain ⟨rfl, rfl, rfl, rfl⟩ := h'
              rw [if_pos hw]
            · cases h'
        · cases h'
      · cases h'
    · rw [hb] at hv
      unfold isVersion at hv
      split at hv <;> simp_all
theorem rcmp1_l0 (a b : ByteArray) (ha : Small a) (hb : Small b) : ∀ (n i k : Nat), a.size ≤ i + n → i ≤ a.size → i ≤ b.size → 2 * n + 2 ≤ k →
    graftwoodref01_Cmp.l0 k a b (i : Int) = some (lexC ((bs a).drop i) ((bs b).drop i)) := by
  intro n
  induction n with
  | zero =>
    intro i k h1 h2 h3 hk
    obtain ⟨j, rfl⟩ : ∃ j, k = j + 2 := ⟨k - 2, by omega⟩
    have e : i = a.size := by omega
    subst e
    rw [List.drop_eq_nil_of_le (by rw [bs_length]; exact Nat.le_refl _)]
    simp only [graftwoodref01_Cmp.l0, graftwoodref01_Cmp.j1]
    rw [if_neg (by omega)]
    simp only [Bool.false_eq_true, if_false]
    by_cases h : a.size < b.size
    · rw [if_pos (by omega), List.drop_eq_getElem_cons (by rw [bs_length]; exact h)]
      rfl
    · rw [if_neg (by omega), if_neg (by omega), List.drop_eq_nil_of_le (by rw [bs_length]; omega)]
      rfl
  | succ n ih =>
    intro i k h1 h2 h3 hk
    obtain ⟨j, rfl⟩ : ∃ j, k = j + 2 := ⟨k - 2, by omega⟩
    by_cases h : i < a.size
    · by_cases h' : i < b.size
      · have d1 : (bs a).drop i = (bs a)[i]'(by rw [bs_length]; exact h) :: (bs a).drop (i + 1) := List.drop_eq_getElem_cons _
        have d2 : (bs b).drop i = (bs b)[i]'(by rw [bs_length]; exact h') :: (bs b).drop (i + 1) := List.drop_eq_getElem_cons _
        have t1 := (bt_drop d1).2.1
        have t2 := (bt_drop d2).2.1
        rw [d1, d2]
        simp only [graftwoodref01_Cmp.l0, graftwoodref01_Cmp.j1]
        rw [if_pos (by omega), decide_eq_true (show (i : Int) < (b.size : Int) by omega), if_pos rfl, if_pos (by omega), if_pos (by omega), if_pos (by omega), t1, t2]
        generalize (bs a)[i]'(by rw [bs_length]; exact h) = x
        generalize (bs b)[i]'(by rw [bs_length]; exact h') = y
        simp only [lexC]
        by_cases c1 : x < y
        · rw [if_pos (by omega), if_pos c1]
        · rw [if_neg (by omega), if_neg c1]
          by_cases c2 : y < x
          · rw [if_pos (by omega), if_pos c2]
          · rw [if_neg (by omega), if_neg c2, show wrap64 ((i : Int) + 1) = ((i + 1 : Nat) : Int) by unfold wrap64; unfold Small at ha; omega]
            exact ih (i + 1) j (by omega) (by omega) (by omega) (by omega)
      · simp only [graftwoodref01_Cmp.l0, graftwoodref01_Cmp.j1]
        rw [if_pos (by omega), decide_eq_false (show ¬ (i : Int) < (b.size : Int) by omega), List.drop_eq_getElem_cons (show i < (bs a).length by rw [bs_length]; exact h), List.drop_eq_nil_of_le (show (bs b).length ≤ i by rw [bs_length]; omega)]
        simp only [Bool.false_eq_true, if_false]
        rw [if_neg (by omega), if_pos (by omega)]
        rfl
    · exact ih i (j + 2) (by omega) h2 h3 (by omega)
theorem rcmp1_val (a b : ByteArray) (ha : Small a) (hb : Small b) (k : Nat) (hk : 2 * a.size + 2 ≤ k) : graftwoodref01_Cmp.f k a b = some (lexC (bs a) (bs b)) := by
  have h := rcmp1_l0 a b ha hb a.size 0 k (by omega) (Nat.zero_le _) (Nat.zero_le _) hk
  exact h
/-- The digit of a place from the lowest one on. -/
def atI (l : List Nat) (i : Nat) : Int := if i ≥ l.length then 0 else ((l.getD (l.length - 1 - i) 48 : Nat) : Int) - 48
theorem at_val (s : ByteArray) (hs : Small s) (hd : (bs s).all dig = true) (i : Nat) (hi : i ≤ 4398046511104) : graftwoodref02_at.f s (i : Int) = some (atI (bs s) i) := by
  unfold graftwoodref02_at.f atI
  rw [bs_length]
  by_cases h : i ≥ s.size
  · rw [if_pos (by omega), if_pos h]
  · have hw : wrap64 (wrap64 ((s.size : Int) - 1) - (i : Int)) = ((s.size - 1 - i : Nat) : Int) := by unfold wrap64; unfold Small at hs; omega
    have hl : s.size - 1 - i < (bs s).length := by rw [bs_length]; omega
    have hb : bt s ((s.size - 1 - i : Nat) : Int) = (((bs s)[s.size - 1 - i]'hl : Nat) : Int) := bt_at_get s _ (by omega)
    have hmem : (bs s)[s.size - 1 - i]'hl ∈ bs s := List.getElem_mem _
    have hdg := List.all_eq_true.1 hd _ hmem
    rw [if_neg (by omega), if_neg h, hw, if_pos (by omega), if_pos (by omega), hb, digit_tot _ (bs_oct s _ hmem), if_pos hdg]
    simp [List.getD_eq_getElem?_getD, List.getElem?_eq_getElem hl]
theorem rnum_l0 (a b : ByteArray) (ha : Small a) (hb : Small b) (da : (bs a).all dig = true) (db : (bs b).all dig = true) (hl : a.size = b.size) : ∀ (n k : Nat), n ≤ a.size → n + 1 ≤ k →
    graftwoodref02_Cmp.l0 k a b ((n : Int) - 1) = some (lexC ((bs a).drop (a.size - n)) ((bs b).drop (a.size - n))) := by
  intro n
  induction n with
  | zero =>
    intro k h1 hk
    obtain ⟨j, rfl⟩ : ∃ j, k = j + 1 := ⟨k - 1, by omega⟩
    rw [List.drop_eq_nil_of_le (by rw [bs_length]; omega), List.drop_eq_nil_of_le (by rw [bs_length]; omega)]
    simp [graftwoodref02_Cmp.l0, lexC]
  | succ n ih =>
    intro k h1 hk
    obtain ⟨j, rfl⟩ : ∃ j, k = j + 1 := ⟨k - 1, by omega⟩
    have e : ((n + 1 : Nat) : Int) - 1 = (n : Int) := by omega
    have la : a.size - (n + 1) < (bs a).length := by rw [bs_length]; omega
    have lb : a.size - (n + 1) < (bs b).length := by rw [bs_length]; omega
    have va := at_val a ha da n (by unfold Small at ha; omega)
    have vb := at_val b hb db n (by unfold Small at ha; omega)
    have xa : atI (bs a) n = (((bs a)[a.size - (n + 1)]'la : Nat) : Int) - 48 := by
      unfold atI
      rw [bs_length, if_neg (by omega), show a.size - 1 - n = a.size - (n + 1) by omega]
      simp [List.getD_eq_getElem?_getD, List.getElem?_eq_getElem la]
    have xb : atI (bs b) n = (((bs b)[a.size - (n + 1)]'lb : Nat) : Int) - 48 := by
      unfold atI
      rw [bs_length, if_neg (by omega), show b.size - 1 - n = a.size - (n + 1) by omega]
      simp [List.getD_eq_getElem?_getD, List.getElem?_eq_getElem lb]
    rw [e, List.drop_eq_getElem_cons la, List.drop_eq_getElem_cons lb, show a.size - (n + 1) + 1 = a.size - n by omega]
    simp only [graftwoodref02_Cmp.l0]
    rw [if_pos (by omega), va, vb]
    simp only [Option.bind_some]
    rw [xa, xb]
    have ih' := ih j (by omega) (by omega)
    rw [show wrap64 ((n : Int) - 1) = (n : Int) - 1 by unfold wrap64; unfold Small at ha; omega, ih']
    generalize (bs a)[a.size - (n + 1)]'la = x
    generalize (bs b)[a.size - (n + 1)]'lb = y
    simp only [lexC]
    by_cases c1 : x < y
    · rw [if_pos (by omega), if_pos c1]
    · rw [if_neg (by omega), if_neg c1]
      by_cases c2 : y < x
      · rw [if_pos (by omega), if_pos c2]
      · rw [if_neg (by omega), if_neg c2]
theorem lead_digit {s : List Nat} (h : isNum s = true) (hl : 2 ≤ s.length) : 49 ≤ s.getD 0 48 := by
  match s, hl with
  | c :: d :: r, _ =>
    unfold isNum at h
    simp only [List.all_cons, List.isEmpty_cons, Bool.false_or, Bool.and_eq_true, bne_iff_ne] at h
    have := h.1.1
    simp only [dig, Bool.and_eq_true, decide_eq_true_eq] at this
    have h2 := h.2
    simp
    omega
theorem num_dig {s : List Nat} (h : isNum s = true) : s.all dig = true := by
  unfold isNum at h
  rw [Bool.and_eq_true] at h
  exact h.1
theorem num_ne {s : List Nat} (h : isNum s = true) : 1 ≤ s.length := by
  cases s with
  | nil => simp [isNum] at h
  | cons => simp
theorem rnum_val (a b : ByteArray) (ha : Small a) (hb : Small b) (na : isNum (bs a) = true) (nb : isNum (bs b) = true) (k : Nat) (hk : a.size + b.size + 2 ≤ k) : graftwoodref02_Cmp.f k a b = some (numC (bs a) (bs b)) := by
  have la := num_ne na
  have lb := num_ne nb
  rw [bs_length] at la lb
  unfold graftwoodref02_Cmp.f numC
  rw [bs_length, bs_length]
  have hsa : a.size ≤ 4398046511104 := ha
  have hsb : b.size ≤ 4398046511104 := hb
  rcases Nat.lt_trichotomy a.size b.size with h | h | h
  · have e : wrap64 (mx (a.size : Int) (b.size : Int) - 1) = ((b.size - 1 : Nat) : Int) := by unfold wrap64 mx; (repeat' split) <;> omega
    rw [e]
    obtain ⟨j, rfl⟩ : ∃ j, k = j + 1 := ⟨k - 1, by omega⟩
    simp only [graftwoodref02_Cmp.l0]
    rw [if_pos (by omega), at_val a ha (num_dig na) _ (by omega), at_val b hb (num_dig nb) _ (by omega)]
    simp only [Option.bind_some]
    have x1 : atI (bs a) (b.size - 1) = 0 := by unfold atI; rw [bs_length, if_pos (by omega)]
    have x2 : 1 ≤ atI (bs b) (b.size - 1) := by
      have := lead_digit nb (by rw [bs_length]; omega)
      unfold atI
      rw [bs_length, if_neg (by omega), show b.size - 1 - (b.size - 1) = 0 by omega]
      omega
    rw [x1, if_pos (by omega)]
    simp [cmpN, h, orI]
  · have e : wrap64 (mx (a.size : Int) (b.size : Int) - 1) = (a.size : Int) - 1 := by unfold wrap64 mx; (repeat' split) <;> omega
    rw [e, rnum_l0 a b ha hb (num_dig na) (num_dig nb) h a.size k (Nat.le_refl _) (by omega), Nat.sub_self]
    simp [cmpN, h, orI]
  · have e : wrap64 (mx (a.size : Int) (b.size : Int) - 1) = ((a.size - 1 : Nat) : Int) := by unfold wrap64 mx; (repeat' split) <;> omega
    rw [e]
    obtain ⟨j, rfl⟩ : ∃ j, k = j + 1 := ⟨k - 1, by omega⟩
    simp only [graftwoodref02_Cmp.l0]
    rw [if_pos (by omega), at_val a ha (num_dig na) _ (by omega), at_val b hb (num_dig nb) _ (by omega)]
    simp only [Option.bind_some]
    have x1 : atI (bs b) (a.size - 1) = 0 := by unfold atI; rw [bs_length, if_pos (by omega)]
    have x2 : 1 ≤ atI (bs a) (a.size - 1) := by
      have := lead_digit na (by rw [bs_length]; omega)
      unfold atI
      rw [bs_length, if_neg (by omega), show a.size - 1 - (a.size - 1) = 0 by omega]
      omega
    rw [x1, if_neg (by omega), if_pos (by omega)]
    have h3 : ¬ a.size < b.size := by omega
    simp [cmpN, h, h3, orI]
theorem rwords_val (a b : ByteArray) (ha : Small a) (hb : Small b) (k : Nat) (hk : 2 * a.size + b.size + 4 ≤ k) : graftwoodref03_words.f k a b = some (wordC (bs a) (bs b)) := by
  obtain ⟨j, rfl⟩ : ∃ j, k = j + 1 := ⟨k - 1, by omega⟩
  unfold graftwoodref03_words.f
  rw [ref2May_tot a ha _ (by omega), ref2May_tot b hb _ (by omega)]
  cases na : isNum (bs a) <;> cases nb : isNum (bs b)
  · simp [graftwoodref03_words.j0, wordC, na, nb, rcmp1_val a b ha hb j (by omega)]
  · simp [graftwoodref03_words.j0, wordC, na, nb]
  · simp [graftwoodref03_words.j0, wordC, na, nb]
  · simp [graftwoodref03_words.j0, wordC, na, nb, rnum_val a b ha hb na nb j (by omega)]
end Go.Proofs.YtcfphieogalnbaaGreatDoor.Q
end

section
namespace Go.Proofs.YtcfphieogalnbaaGreatDoor.Q
open Go.Proofs.YtcfphieogalnbaaGreatDoor.QB.D
open Go Go.RowKit Go.Lib Go.Proofs.YtcfphieogalnbaaGreatDoorW.PrintWords Go.Proofs.YtcfphieogalnbaaGreatDoorW.PrintLast Go.Proofs.YtcfphieogalnbaaGreatDoorW.PrintMore Gw
set_option linter.unusedVariables false
set_option linter.unusedSimpArgs false
theorem ref5May_val (k : Nat) (x : S24) (hx : Brief x) (hk : 900 ≤ k) : graftwoodref05_May.f k x.f0 x.f1 = some (mayN x) := by
  have h0 : Small x.f0 := by have := hx.1; unfold Small; omega
  have h1 : Small x.f1 := by have := hx.2; unfold Small; omega
  unfold graftwoodref05_May.f
  rw [ref4May_tot _ h0 k (by have := hx.1; omega)]
  unfold graftwoodref03_May.f graftwoodref03_Split.f
  rw [if_pos h1]
  simp only [Option.bind_some]
  rw [splitV_ok]
  show _ = some (isPath (bs x.f0) && isVersion (bs x.f1))
  cases isPath (bs x.f0) <;> rfl
theorem all13_l0 (l : List S24) (hl : l.length ≤ 65536) (hb : ∀ x ∈ l, Brief x) : ∀ (r i k : Nat), i + r = l.length → r + 1000 ≤ k → graftwoodlaw13_all.l0 k l (i : Int) = some ((l.drop i).all mayN) := by
  intro r
  induction r with
  | zero =>
    intro i k hi hk
    obtain ⟨j, rfl⟩ : ∃ j, k = j + 1 := ⟨k - 1, by omega⟩
    simp only [graftwoodlaw13_all.l0]
    rw [if_neg (by omega), List.drop_eq_nil_of_le (by omega)]
    rfl
  | succ r ih =>
    intro i k hi hk
    obtain ⟨j, rfl⟩ : ∃ j, k = j + 1 := ⟨k - 1, by omega⟩
    have hil : i < l.length := by omega
    have hrd : rd_T24 l (i : Int) = l[i] := by simp [rd_T24, List.getD_eq_getElem?_getD, List.getElem?_eq_getElem hil]
    have hwr : wrap64 ((i : Int) + 1) = ((i + 1 : Nat) : Int) := by unfold wrap64; omega
    simp only [graftwoodlaw13_all.l0]
    rw [if_pos (by omega), if_pos (by omega), hrd, ref5May_val j l[i] (hb _ (List.getElem_mem hil)) (by omega), List.drop_eq_getElem_cons hil, List.all_cons]
    simp only [Option.bind_some]
    cases mayN l[i]
    · rfl
    · rw [if_pos rfl, hwr, ih (i + 1) j (by omega) (by omega), Bool.true_and]
theorem all13_val (l : List S24) (hl : l.length ≤ 65536) (hb : ∀ x ∈ l, Brief x) (k : Nat) (hk : l.length + 1000 ≤ k) : graftwoodlaw13_all.f k l = some (l.all mayN) := by
  have h := all13_l0 l hl hb l.length 0 k (by omega) (by omega)
  rwa [List.drop_zero] at h
theorem all13_c {A1 : Option Addr} {c1 : Nat} {G : List S24} {w : World} {b : Bool} (h1 : SeeA k24 w A1 c1 G) (hG : Okl G) (hb : G.all mayN = b) :
    Calls Tryz.prog 10 #[.slice A1 G.length c1] w fun x w' => x = .returned (.bool b) ∧ Aside0 (Below w.heap.size w w') :=
  hb ▸ cB (graftwoodlaw13_all.calls 1100 A1 c1 G _ w h1.out.2 h1.out.1 (all13_val G (by have := hG.1; omega) hG.2 1100 (by have := hG.1; omega)))
set_option maxHeartbeats 16000000 in
set_option maxRecDepth 100000 in
theorem goes_calls (A0 : Option Addr) (c0 : Nat) (l0 : List S24) (A1 : Option Addr) (c1 : Nat) (l1 : List S24) (A2 : Option Addr) (c2 : Nat) (l2 : List S24) (w : World) (h0 : SeeA k24 w A0 c0 l0) (h1 : SeeA k24 w A1 c1 l1) (h2 : SeeA k24 w A2 c2 l2) :
    Calls Tryz.prog 6 #[.slice A0 l0.length c0, .slice A1 l1.length c1, .slice A2 l2.length c2] w fun e w' => e = .returned (.bool true) ∧ Below w.heap.size w w' := by
  have o0 : Okl (fewN l0) := ⟨fewN_len l0, fewN_brief l0⟩
  have o1 : Okl (fewN l1) := ⟨fewN_len l1, fewN_brief l1⟩
  have o2 : Okl (fewN l2) := ⟨fewN_len l2, fewN_brief l2⟩
  have C1 := few_c A0 c0 l0 w h0
  have C2 := fun W h => few_c A1 c1 l1 W h
  have C3 := fun W h => few_c A2 c2 l2 W h
  obtain ⟨F, hF⟩ : ∃ F, F = fewN l0 := ⟨_, rfl⟩
  obtain ⟨G, hG⟩ : ∃ F, F = fewN l1 := ⟨_, rfl⟩
  obtain ⟨M, hM⟩ : ∃ F, F = fewN l2 := ⟨_, rfl⟩
  rw [← hF] at C1 o0
  rw [← hG] at C2 o1
  rw [← hM] at C3 o2
  clear hF hG hM
  have O0 := Aside0.mk o0
  have O1 := Aside0.mk o1
  have O2 := Aside0.mk o2
  clear o0 o1 o2
  replace C2 := Aside0.mk C2
  replace C3 := Aside0.mk C3
  go_enter Tryz.func6, Tryz.ntmps6
  go_wp2_with fail
  refine C1.mono ?_
  rintro e w1 ⟨A3, c3, rfl, K0, B1⟩
  go_wp2_with fail
  refine (C2.out w1 (h1.to B1)).mono ?_
  rintro e w2 ⟨A4, c4, rfl, K1, B2⟩
  go_wp2_with fail
  refine (C3.out w2 (h2.to (bgo B1 B2))).mono ?_
  rintro e w3 ⟨A5, c5, rfl, K2, B3⟩
  replace K0 := K0.to (bgo B2 B3)
  replace K1 := K1.to B3
  have HB := bgo (bgo B1 B2) B3
  clear h0 h1 h2 B1 B2 B3 C1 C2 C3
  obtain ⟨i1, hi1⟩ : ∃ i, i = dI [] F := ⟨_, rfl⟩
  obtain ⟨i2, hi2⟩ : ∃ i, i = dI [] G := ⟨_, rfl⟩
  obtain ⟨i3, hi3⟩ : ∃ i, i = dI F G := ⟨_, rfl⟩
  obtain ⟨i4, hi4⟩ : ∃ i, i = dI F M := ⟨_, rfl⟩
  obtain ⟨i5, hi5⟩ : ∃ i, i = dI M G := ⟨_, rfl⟩
  obtain ⟨x1, hx1⟩ : ∃ i, i = dE [] F := ⟨_, rfl⟩
  obtain ⟨x2, hx2⟩ : ∃ i, i = dE [] G := ⟨_, rfl⟩
  obtain ⟨x3, hx3⟩ : ∃ i, i = dE F G := ⟨_, rfl⟩
  obtain ⟨x4, hx4⟩ : ∃ i, i = dE F M := ⟨_, rfl⟩
  obtain ⟨x5, hx5⟩ : ∃ i, i = dE M G := ⟨_, rfl⟩
  have HI := Aside0.mk (And.intro hi1 (And.intro hi2 (And.intro hi3 (And.intro hi4 hi5))))
  have HX := Aside0.mk (And.intro hx1 (And.intro hx2 (And.intro hx3 (And.intro hx4 hx5))))
  have C4 := count_c K0 O0.out
  rw [← hi1, ← hx1] at C4
  clear hi1 hi2 hi3 hi4 hi5 hx1 hx2 hx3 hx4 hx5
  go_wp2_with fail
  refine C4.mono ?_
  rintro e w4 ⟨A6, c6, rfl, D1, B4⟩
  clear C4
  have C5 := count_c (K1.to B4) O1.out
  rw [← HI.out.2.1, ← HX.out.2.1] at C5
  go_wp2_with fail
  refine C5.mono ?_
  rintro e w5 ⟨A7, c7, rfl, D2, B5⟩
  replace B4 := bgo B4 B5
  clear C5
  have C6 := diff_c (K0.to B4) (K1.to B4) O0.out O1.out
  rw [← HI.out.2.2.1, ← HX.out.2.2.1] at C6
  go_wp2_with fail
  refine C6.mono ?_
  rintro e w6 ⟨A8, c8, rfl, D3, B6⟩
  replace B4 := bgo B4 B6
  replace B5 := bgo B5 B6
  clear C6
  have C7 := diff_c (K0.to B4) (K2.to B4) O0.out O2.out
  rw [← HI.out.2.2.2.1, ← HX.out.2.2.2.1] at C7
  go_wp2_with fail
  refine C7.mono ?_
  rintro e w7 ⟨A9, c9, rfl, D4, B7⟩
  replace B4 := bgo B4 B7
  clear C7
  have C8 := diff_c (K2.to B4) (K1.to B4) O2.out O1.out
  rw [← HI.out.2.2.2.2, ← HX.out.2.2.2.2] at C8
  go_wp2_with fail
  refine C8.mono ?_
  rintro e w8 ⟨A10, c10, rfl, D5, B8⟩
  replace B4 := bgo B4 B8
  replace K0 := K0.to B4
  replace K1 := K1.to B4
  replace K2 := K2.to B4
  replace D4 := D4.to B8
  replace D3 := D3.to (bgo B7 B8)
  replace D1 := D1.to (bgo B5 (bgo B7 B8))
  replace D2 := D2.to (bgo B6 (bgo B7 B8))
  replace HB := bgo HB B4
  clear C8 B4 B5 B6 B7 B8
  cases fF : F.all mayN <;> cases fG : G.all mayN <;> cases fM : M.all mayN
  case true.true.true =>
    obtain ⟨hi1, hi2, hi3, hi4, hi5⟩ := HI.out
    obtain ⟨hx1, hx2, hx3, hx4, hx5⟩ := HX.out
    clear HI HX
    simp only [dI, fF, fG, fM, List.all_nil, and_self, if_true] at hi1 hi2 hi3 hi4 hi5
    simp only [dE, fF, fG, fM, List.all_nil, and_self, if_true] at hx1 hx2 hx3 hx4 hx5
    subst hi1 hi2 hi3 hi4 hi5
    have p1 := oke_diff okl_nil O0.out rfl fF
    have p2 := oke_diff okl_nil O1.out rfl fG
    have p3 := oke_diff O0.out O1.out fF fG
    have p4 := oke_diff O0.out O2.out fF fM
    have p5 := oke_diff O2.out O1.out fM fG
    have p6 := oke_diff O1.out O0.out fG fF
    rw [← hx1] at p1
    rw [← hx2] at p2
    rw [← hx3] at p3
    rw [← hx4] at p4
    rw [← hx5] at p5
    have e1 : ∀ x, byE x2 x = byE x1 x + byE x3 x := fun x => by rw [p1.2, p2.2, p3.2]; simp only [cntN]; omega
    have e2 : ∀ x, byE x3 x = byE x4 x + byE x5 x := fun x => by rw [p3.2, p4.2, p5.2]; omega
    have e3 : diffV G F = x3.map turnE := p6.1.can.ext p3.1.can.turn (fun x => by rw [byE_turn, p6.2, p3.2]; omega)
    have C9 := both_c D1 D3 p1.1 p3.1 p2.1 e1
    have C10 := fun W b => both_c (w := W) (D4.to b) (D5.to b) p4.1 p5.1 p3.1 e2
    have C11 := fun W b => turn_c (w := W) (D3.to b) p3.1
    have C12 := fun W b => diff_c (w := W) (K1.to b) (K0.to b) O1.out O0.out
    have e4 : dE G F = x3.map turnE := by unfold dE; rw [if_pos ⟨fG, fF⟩, e3]
    have e5 : dI G F = 0 := by unfold dI; rw [if_pos ⟨fG, fF⟩]
    rw [e4, e5] at C12
    obtain ⟨x6, hx6⟩ : ∃ x, x = x3.map turnE := ⟨_, rfl⟩
    have p7 := p3.1.turn
    rw [← hx6] at C11 C12 p7
    have P2 := Aside0.mk p2.1
    have P3 := Aside0.mk p3.1
    have P7 := Aside0.mk p7
    replace C10 := Aside0.mk C10
    replace C11 := Aside0.mk C11
    replace C12 := Aside0.mk C12
    clear K0 K1 K2 D1 D4 D5 fF fG fM O0 O1 O2 hx1 hx2 hx3 hx4 hx5 hx6 p1 p2 p3 p4 p5 p6 p7 e1 e2 e3 e4 e5
    go_wp2_with fail
    refine C9.mono ?_
    rintro e w9 ⟨A11, c11, rfl, X1, B9⟩
    go_wp2_with fail
    refine (C10.out _ B9).mono ?_
    rintro e w10 ⟨A12, c12, rfl, X2, B10⟩
    replace B9 := bgo B9 B10
    go_wp2_with fail
    refine (C11.out _ B9).mono ?_
    rintro e w11 ⟨A13, c13, rfl, X3, B11⟩
    replace B9 := bgo B9 B11
    go_wp2_with fail
    refine (C12.out _ B9).mono ?_
    rintro e w12 ⟨A14, c14, rfl, X4, B12⟩
    replace B9 := bgo B9 B12
    replace X1 := X1.to (bgo B10 (bgo B11 B12))
    replace X2 := X2.to (bgo B11 B12)
    replace X3 := X3.to B12
    replace D2 := D2.to B9
    replace D3 := D3.to B9
    replace HB := bgo HB B9
    clear C9 C10 C11 C12 B9 B10 B11 B12
    go_wp2_with fail
    refine (same13_c X1 D2 (by have := P2.out.len; omega)).mono ?_
    rintro e w13 ⟨rfl, B13⟩
    go_wp2_with fail
    refine (same13_c (X2.to B13) (D3.to B13) (by have := P3.out.len; omega)).mono ?_
    rintro e w14 ⟨rfl, B14⟩
    replace B13 := bgo B13 B14
    go_wp2_with fail
    refine (same13_c (X3.to B13) (X4.to B13) (by have := P7.out.len; omega)).mono ?_
    rintro e w15 ⟨rfl, B15⟩
    replace B13 := bgo B13 B15
    go_wp2_with fail
    refine (check_c (D3.to B13) P3.out).mono ?_
    rintro e w16 ⟨rfl, B16⟩
    replace B13 := bgo B13 B16
    go_wp2_with fail
    refine (aw13_c _).mono ?_
    rintro e w17 ⟨rfl, B17⟩
    replace HB := bgo HB (bgo B13 B17)
    go_wp2
    go_ret
    exact ⟨rfl, HB.out⟩
  all_goals
    obtain ⟨hi1, hi2, hi3, hi4, hi5⟩ := HI.out
    clear HI HX
    simp only [dI, fF, fG, fM, List.all_nil, and_true, true_and, and_self, and_false, false_and, if_true, if_false, Bool.false_eq_true] at hi1 hi2 hi3 hi4 hi5
    subst hi1 hi2 hi3 hi4 hi5
    have CA := all13_c K0 O0.out fF
    have CB := fun W b => all13_c (w := W) (K1.to b) O1.out fG
    have CC := fun W b => all13_c (w := W) (K2.to b) O2.out fM
    replace CB := Aside0.mk CB
    replace CC := Aside0.mk CC
    clear K0 K1 K2 D1 D2 D3 D4 D5 fF fG fM O0 O1 O2
    go_wp2_with fail
    refine CA.mono ?_
    rintro e w9 ⟨rfl, B9⟩
    clear CA
    go_wp2_with fail
    first
    | refine (aw13_c _).mono ?_
      rintro e w10 ⟨rfl, B10⟩
      replace HB := bgo HB (bgo B9 B10)
    | refine (CB.out _ B9).mono ?_
      rintro e w10 ⟨rfl, B10⟩
      replace B9 := bgo B9 B10
      go_wp2_with fail
      first
      | refine (aw13_c _).mono ?_
        rintro e w11 ⟨rfl, B11⟩
        replace HB := bgo HB (bgo B9 B11)
      | refine (CC.out _ B9).mono ?_
        rintro e w11 ⟨rfl, B11⟩
        replace B9 := bgo B9 B11
        go_wp2_with fail
        refine (aw13_c _).mono ?_
        rintro e w12 ⟨rfl, B12⟩
        replace HB := bgo HB (bgo B9 B12)
    go_wp2
    go_ret
    exact ⟨rfl, HB.out⟩
end Go.Proofs.YtcfphieogalnbaaGreatDoor.Q
end
