/- Part 9 of this claim: several texts one behind the other: FdiffCheck, NDef, LOne, LRd, LFew, NMayV, NOrd, PSet, NAhead. What each shows stands in its theorems; conditions: sizes of texts and lists, as the functions' definitions say. -/
import Derived.Test.YtohdmmafjpjmfaaGreatDoorMRoomRoots8
import Derived.Test.YtohdmmafjpjmfaaGreatDoorMRoomRoots2
import Derived.Test.YtohdmmafjpjmfaaGreatDoorMRoomRoots3
import Derived.RegionTactic
import Derived.BigRegion
import Derived.Deep.QuietTactic
import Derived.BigQuiet
import Derived.Deep.RegionHeld3
section
namespace Go.Proofs.YtohdmmafjpjmfaaGreatDoor.Q
open Go.Proofs.YtohdmmafjpjmfaaGreatDoor.QB.D
open Go.RowKit Go.Proofs.YtohdmmafjpjmfaaGreatDoorW.PrintWords Go.Proofs.YtohdmmafjpjmfaaGreatDoorW.PrintLast Go.Proofs.YtohdmmafjpjmfaaGreatDoorW.PrintMore
attribute [local go_sem] max2_int min2_int max_two min_two max_three min_three max_four min_four   -- for this text's walks alone
set_option linter.unusedVariables false
set_option linter.unusedSimpArgs false
def diff_Check.l0 : Nat → List (S48) → List (S48) → Int → Int → Option (Int)
  | 0, _, _, _, _ => none
  | k + 1, x0, x5, x6, x7 => if x7 < x6 then (if 0 ≤ x7 then (if x7 < (x5.length : Int) then ((node_May.f k ((rd_T48 x5 x7).f0.f0) ((rd_T48 x5 x7).f0.f1)).bind fun t217 => (if t217 = true then (if ((rd_T48 x5 x7).f1) = 0 then (some 1) else (if ((rd_T48 x5 x7).f1) > 1099511627776 then (some 1) else (if ((rd_T48 x5 x7).f1) < (-1099511627776) then (some 1) else (if x7 > 0 then (if 0 ≤ (wrap64 (x7 - 1)) then (if (wrap64 (x7 - 1)) < (x0.length : Int) then ((diff_order.f k ((rd_T48 x0 (wrap64 (x7 - 1))).f0.f0) ((rd_T48 x0 (wrap64 (x7 - 1))).f0.f1) ((rd_T48 x5 x7).f0.f0) ((rd_T48 x5 x7).f0.f1)).bind fun t219 => (if t219 ≥ 0 then (some 1) else (diff_Check.l0 k x0 x5 x6 (wrap64 (x7 + 1))))) else (none)) else (none)) else (diff_Check.l0 k x0 x5 x6 (wrap64 (x7 + 1))))))) else (some 1))) else (none)) else (none)) else (some 0)
def diff_Check.f (k : Nat) (l0 : List (S48)) : Option (Int) := diff_Check.l0 k l0 l0 (l0.length : Int) 0
def diff_Check.T4 : Bool × List (List Nat × List Nat) := (true, [([], []), ([0], [0]), ([1], [1]), ([2], [2]), ([3, 2], [3]), ([4], [4]), ([5, 4], [4, 5]), ([6, 4], [4, 6]), ([4, 7], [4, 7]), ([8, 4], [8]), ([9], [9]), ([10, 9], [9, 10]), ([11, 9], [9, 11]), ([9, 12], [9, 12]), ([13, 9], [13]), ([14], [14]), ([15, 14], [14, 15]), ([16, 14], [14, 16]), ([14, 17], [14, 17]), ([18, 14], [18]), ([19], [19]), ([20, 19], [19, 20]), ([21, 19, 19], [19, 21]), ([22], [22]), ([22], [22]), ([24, 22], [22, 24]), ([23, 25, 22], [22, 23, 25]), ([26, 22], [22, 26]), ([27, 22], [22, 27]), ([22], [22]), ([29, 22], [22, 29]), ([28, 30, 22, 22], [22, 28, 30]), ([31, 22], [22, 31]), ([22, 32, 19], [19, 22, 32]), ([19, 33], [19, 33])])
def diff_Check.B4 : List Nat := [0, 1, 3, 7, 15, 31, 63, 127, 255, 511, 1023, 2047, 4095, 8191, 16383, 32767, 65535, 131071, 262143, 524287, 1048575, 2097151, 4194303, 8388607, 8388607, 25165823, 67108863, 134217727, 268435455, 8388607, 545259519, 2147483647, 4294967295, 8589934591, 17179869183]
theorem diff_Check.tab4 : rtab .any (opsOf Tryz.f32 4) = diff_Check.T4 := by kernel_rfl
theorem diff_Check.bits4 : waitsOk diff_Check.T4.2 diff_Check.B4 = true := by kernel_rfl
set_option maxHeartbeats 8000000 in
set_option maxRecDepth 100000 in
theorem diff_Check.calls (k : Nat) (A0 : Option Addr) (c0 : Nat) (l0 : List (S48)) (r : Int) (w : World) (hr0 : Kd.C k48 w A0 l0.length l0) (hc0 : l0.length ≤ c0) (h : diff_Check.f k l0 = some r) :
    Calls Tryz.prog 32 #[.slice A0 l0.length c0] w fun e w' => e = .returned (.int .i64 r) ∧ Below w.heap.size w w' := by
  have hu48 := Tryz.underlying48
  have hu34 := Tryz.underlying34
  have HR0 := Aside0.mk hr0
  have HC0 := Aside0.mk hc0
  clear hr0 hc0
  have HB := Aside0.mk (Below.refl w.heap.size w)
  have H : (diff_Check.l0 k l0 l0 (l0.length : Int) 0) = some r := h
  clear h
  have H' := Aside0.mk H
  clear H
  go_enter Tryz.func32, Tryz.ntmps32
  go_wp2
  go_loopg [7] k (fun kq v7 w' => ∃ (x7_1 : Int), v7 = .int .i64 x7_1 ∧ Aside0 (diff_Check.l0 kq l0 l0 (l0.length : Int) x7_1 = some r) ∧ Aside0 (kq ≤ k) ∧ Aside0 (Below w.heap.size w w'))
  case atStart => exact ⟨(0), (by first | rfl | (simp; done) | (simp [*]; done)), H', ⟨Nat.le_refl _⟩, ⟨by repeat (first | (with_reducible first | exact HB.out | apply below_alloc | apply pw_below_drewN | apply below_drew1) | exact HB.out)⟩⟩
  case round =>
    clear H'
    obtain ⟨x7_1, rfl, HA, HK1, HB⟩ := hrel
    cases gk with
    | zero => exact absurd HA.out (by simp [diff_Check.l0])
    | succ k1 =>
      have H := HA.out
      clear HA
      simp only [diff_Check.l0] at H
      by_cases c2 : x7_1 < (l0.length : Int)
      · rw [if_pos c2] at H
        have c2b0 : decide (x7_1 < (l0.length : Int)) = true := decide_eq_true c2
        clear c2
        by_cases c3 : 0 ≤ x7_1
        · rw [if_pos c3] at H
          have c3b0 : decide (0 ≤ x7_1) = true := decide_eq_true c3
          clear c3
          by_cases c4 : x7_1 < (l0.length : Int)
          · rw [if_pos c4] at H
            have c4b0 : decide (x7_1 < (l0.length : Int)) = true := decide_eq_true c4
            clear c4
            replace H := Option.bind_eq_some_iff.mp H
            obtain ⟨t217, A50, H⟩ := H
            replace H : (if t217 = true then (if ((rd_T48 l0 x7_1).f1) = 0 then (some 1) else (if ((rd_T48 l0 x7_1).f1) > 1099511627776 then (some 1) else (if ((rd_T48 l0 x7_1).f1) < (-1099511627776) then (some 1) else (if x7_1 > 0 then (if 0 ≤ (wrap64 (x7_1 - 1)) then (if (wrap64 (x7_1 - 1)) < (l0.length : Int) then ((diff_order.f k1 ((rd_T48 l0 (wrap64 (x7_1 - 1))).f0.f0) ((rd_T48 l0 (wrap64 (x7_1 - 1))).f0.f1) ((rd_T48 l0 x7_1).f0.f0) ((rd_T48 l0 x7_1).f0.f1)).bind fun t219 => (if t219 ≥ 0 then (some 1) else (diff_Check.l0 k1 l0 l0 (l0.length : Int) (wrap64 (x7_1 + 1))))) else (none)) else (none)) else (diff_Check.l0 k1 l0 l0 (l0.length : Int) (wrap64 (x7_1 + 1))))))) else (some 1)) = some r := H
            have A5 := Aside0.mk A50
            clear A50
            by_cases c6 : t217 = true
            · subst c6
              have H1 : (if ((rd_T48 l0 x7_1).f1) = 0 then (some 1) else (if ((rd_T48 l0 x7_1).f1) > 1099511627776 then (some 1) else (if ((rd_T48 l0 x7_1).f1) < (-1099511627776) then (some 1) else (if x7_1 > 0 then (if 0 ≤ (wrap64 (x7_1 - 1)) then (if (wrap64 (x7_1 - 1)) < (l0.length : Int) then ((diff_order.f k1 ((rd_T48 l0 (wrap64 (x7_1 - 1))).f0.f0) ((rd_T48 l0 (wrap64 (x7_1 - 1))).f0.f1) ((rd_T48 l0 x7_1).f0.f0) ((rd_T48 l0 x7_1).f0.f1)).bind fun t219 => (if t219 ≥ 0 then (some 1) else (diff_Check.l0 k1 l0 l0 (l0.length : Int) (wrap64 (x7_1 + 1))))) else (none)) else (none)) else (diff_Check.l0 k1 l0 l0 (l0.length : Int) (wrap64 (x7_1 + 1))))))) = some r := by rw [if_pos rfl] at H; exact H
              clear H
              have H := H1
              clear H1
              by_cases c7 : ((rd_T48 l0 x7_1).f1) = 0
              · rw [if_pos c7] at H
                have c7b0 : (((rd_T48 l0 x7_1).f1) == 0) = true := beq_iff_eq.mpr c7
                have c7b1 : (((rd_T48 l0 x7_1).f1) != 0) = false := bne_eq_false_iff_eq.mpr c7
                clear c7
                obtain rfl := Option.some.inj H
                have p215 : 0 ≤ (x7_1 : Int) := of_decide_eq_true (by first | (with_reducible assumption) | assumption)
                have q215 : x7_1 < (l0.length : Int) := of_decide_eq_true (by first | (with_reducible assumption) | assumption)
                obtain ⟨ad215, e215, hx215_0, hx215_1, hx215_2⟩ := at_T48 HR0.out x7_1 p215 q215
                cases e215
                replace hx215_0 := (HB.out.cell (World.block_lt_of_cell? w _ hx215_0)).trans hx215_0
                replace hx215_1 := (HB.out.cell (World.block_lt_of_cell? w _ hx215_1)).trans hx215_1
                replace hx215_2 := (HB.out.cell (World.block_lt_of_cell? w _ hx215_2)).trans hx215_2
                replace p215 := eq_true p215
                replace q215 := eq_true q215
                try go_wp2_with (first | ((with_reducible refine gate_dst (N := 4) rfl ?_); refine box_event ?hg (N := 4) ?hd (cs := #[.string (⟨#[]⟩ : ByteArray), .string (⟨#[]⟩ : ByteArray), .int .i64 0]) (t := 48) ?hr ?_; (case hd => rfl); (case hg => rfl); (case hr => first | (go_simp; done) | (go_simp; rfl)); intro gb216 hg w8 hbox hb; have n0_ := Aside0.mk (below_step (by repeat (first | (with_reducible first | exact HB.out | apply below_alloc | apply pw_below_drewN | apply below_drew1) | exact HB.out)) hb); have n1_ := Aside0.mk (hbox); have n2_ := Aside0.mk ((by rw [hg]; exact (below_size (by repeat (first | (with_reducible first | exact HB.out | apply below_alloc | apply pw_below_drewN | apply below_drew1) | exact HB.out))) : w.heap.size ≤ gb216)); have n3_ := Aside0.mk ((by rw [hg]; exact (below_size (by repeat (first | (with_reducible first | exact HB.out | apply below_alloc | apply pw_below_drewN | apply below_drew1) | exact HB.out))) : w.heap.size ≤ gb216)); clear HB; have HB := n0_; have BK216 := n1_; have GW216 := n2_; have GE216 := n3_; clear n0_ n1_ n2_ n3_; clear hb hbox hg; have hcz9_0 : w8.cell? ⟨gb216, 0, none⟩ = some (.string (⟨#[]⟩ : ByteArray)) := (blk_cell BK216.out 0).trans rfl; have hcz9_1 : w8.cell? ⟨gb216, 1, none⟩ = some (.string (⟨#[]⟩ : ByteArray)) := (blk_cell BK216.out 1).trans rfl; have hcz9_2 : w8.cell? ⟨gb216, 2, none⟩ = some (.int .i64 0) := (blk_cell BK216.out 2).trans rfl; have hfz9_0 := blk_frozen BK216.out 0; have hfz9_1 := blk_frozen BK216.out 1; have hfz9_2 := blk_frozen BK216.out 2))
                have n0_ : Aside0 ((((w8.setCell ⟨gb216, 0, none⟩ (.string ((rd_T48 l0 x7_1).f0.f0))).setCell ⟨gb216, 1, none⟩ (.string ((rd_T48 l0 x7_1).f0.f1))).setCell ⟨gb216, 2, none⟩ (.int .i64 ((rd_T48 l0 x7_1).f1))).heap[gb216]? = some (.cells #[.string ((rd_T48 l0 x7_1).f0.f0), .string ((rd_T48 l0 x7_1).f0.f1), .int .i64 ((rd_T48 l0 x7_1).f1)] 48 (0, 0))) := ⟨by (with_reducible repeat (first | refine blk_drewN ?_ _ | refine blk_drew ?_ | refine blk_alloc ?_ _)); refine blk_put (cs := #[.string ((rd_T48 l0 x7_1).f0.f0), .string ((rd_T48 l0 x7_1).f0.f1), .int .i64 0]) ?_ 2 _ rfl; (with_reducible repeat (first | refine blk_drewN ?_ _ | refine blk_drew ?_ | refine blk_alloc ?_ _)); refine blk_put (cs := #[.string ((rd_T48 l0 x7_1).f0.f0), .string (⟨#[]⟩ : ByteArray), .int .i64 0]) ?_ 1 _ rfl; (with_reducible repeat (first | refine blk_drewN ?_ _ | refine blk_drew ?_ | refine blk_alloc ?_ _)); refine blk_put (cs := #[.string (⟨#[]⟩ : ByteArray), .string (⟨#[]⟩ : ByteArray), .int .i64 0]) ?_ 0 _ rfl; (with_reducible repeat (first | refine blk_drewN ?_ _ | refine blk_drew ?_ | refine blk_alloc ?_ _)); exact BK216.out⟩
                have n1_ : Aside0 (Below w.heap.size w (((w8.setCell ⟨gb216, 0, none⟩ (.string ((rd_T48 l0 x7_1).f0.f0))).setCell ⟨gb216, 1, none⟩ (.string ((rd_T48 l0 x7_1).f0.f1))).setCell ⟨gb216, 2, none⟩ (.int .i64 ((rd_T48 l0 x7_1).f1)))) := ⟨by repeat (first | (with_reducible first | exact HB.out | apply below_alloc | apply pw_below_drewN | apply below_drew1 | refine below_set ?_ GE216.out) | exact HB.out)⟩
                (try clear BK216)
                (try clear HB)
                generalize (((w8.setCell ⟨gb216, 0, none⟩ (.string ((rd_T48 l0 x7_1).f0.f0))).setCell ⟨gb216, 1, none⟩ (.string ((rd_T48 l0 x7_1).f0.f1))).setCell ⟨gb216, 2, none⟩ (.int .i64 ((rd_T48 l0 x7_1).f1))) = w10 at n0_ n1_ ⊢
                have BK216 := n0_
                have HB := n1_
                clear n0_ n1_
                have n0_ := Aside0.mk (blk_drew BK216.out)
                have n1_ := Aside0.mk (below_drew1 HB.out)
                clear BK216 HB
                have BK216 := n0_
                have HB := n1_
                clear n0_ n1_
                refine start_ (n := 35) (S := fun w' => w'.cell? ⟨gb216, 0, none⟩ = some (.string ((rd_T48 l0 x7_1).f0.f0)) ∧ w'.cell? ⟨gb216, 1, none⟩ = some (.string ((rd_T48 l0 x7_1).f0.f1)) ∧ w'.cell? ⟨gb216, 2, none⟩ = some (.int .i64 ((rd_T48 l0 x7_1).f1))) (ds := []) #[false, false, false, false, false, false, false, false, false, false, false, false, false, false, false, false, false, false, false, false, false, false, false, false, false, false, false, false, false, false, false, false, false, false, false] (by kernel_rfl) rfl rfl ⟨(blk_cell BK216.out 0).trans rfl, (blk_cell BK216.out 1).trans rfl, (blk_cell BK216.out 2).trans rfl⟩ (fun hHeld => ?_); refine with_tabW diff_Check.tab4 diff_Check.bits4 (fun HT_ HW_ => ?_)
                generalize w10.drew = w11 at BK216 HB hHeld ⊢
                refine pz_ 0 12 HT_.out ?_
                refine tz_ 1 13 HT_.out HW_.out hHeld ?_
                refine one_ (i := 2) (N := some 14) #[true, true, true, false, false, false, false, false, false, false, false, false, false, false, false, false, false, false, false, false, false, false, false, false, false, false, false, false, false, false, false, false, false, false, false] rfl rfl (one_of HT_.out (by kernel_rfl)) (by decide) (fun K hK => ?_)
                refine goes_ Tryz.func45 (by kernel_rfl) rfl #[.agg #[.string ((rd_T48 l0 x7_1).f0.f0), .string ((rd_T48 l0 x7_1).f0.f1)]] (by rfl) rfl rfl (by (try simp only [List.map_toArray, List.map_cons, List.map_nil]); first | done | rfl | (simp only [List.length_drop, List.length_take]; rfl)) ?_
                with_reducible refine (node_May.calls k1 ((rd_T48 l0 x7_1).f0.f0) ((rd_T48 l0 x7_1).f0.f1) true _ A5.out).mono ?_
                rintro e w12 ⟨rfl, hb⟩
                refine ⟨_, rfl, ?_⟩
                have n0_ := Aside0.mk (blk_below (g := gb216) (o := .cells #[.string ((rd_T48 l0 x7_1).f0.f0), .string ((rd_T48 l0 x7_1).f0.f1), .int .i64 ((rd_T48 l0 x7_1).f1)] 48 (0, 0)) (by (with_reducible repeat (first | refine blk_drewN ?_ _ | refine blk_drew ?_ | refine blk_alloc ?_ _)); exact BK216.out) hb)
                have n1_ := Aside0.mk (below_step (by repeat (first | (with_reducible first | exact HB.out | apply below_alloc | apply pw_below_drewN | apply below_drew1 | refine below_set ?_ GE216.out) | exact HB.out)) hb)
                clear BK216 HB
                have BK216 := n0_
                have HB := n1_
                clear n0_ n1_
                (try clear hb)
                (try clear hb2)
                (try clear hk)
                (try clear hi)
                refine hK.out _ _ ⟨(blk_cell BK216.out 0).trans rfl, (blk_cell BK216.out 1).trans rfl, (blk_cell BK216.out 2).trans rfl⟩ (fun hHeld => ?_)
                clear hK K
                refine nz_ 14 ?_
                refine pz_ 3 15 HT_.out ?_
                refine pz_ 4 16 HT_.out ?_
                refine pz_ 5 17 HT_.out ?_
                refine tz_ 6 18 HT_.out HW_.out hHeld ?_
                refine pz_ 7 19 HT_.out ?_
                refine pz_ 8 20 HT_.out ?_
                refine pz_ 9 21 HT_.out ?_
                refine pu_ 10 22 HT_.out ?_
                refine pu_ 11 23 HT_.out ?_
                refine pu_ 12 24 HT_.out ?_
                refine pz_ 13 25 HT_.out ?_
                refine pz_ 14 26 HT_.out ?_
                refine pu_ 15 27 HT_.out ?_
                refine pu_ 16 28 HT_.out ?_
                refine pu_ 17 29 HT_.out ?_
                refine pz_ 18 30 HT_.out ?_
                refine pz_ 19 31 HT_.out ?_
                refine pu_ 20 32 HT_.out ?_
                refine pu_ 21 33 HT_.out ?_
                refine pu_ 22 34 HT_.out ?_
                refine pu_ 23 35 HT_.out ?_
                refine pu_ 24 36 HT_.out ?_
                refine pu_ 25 37 HT_.out ?_
                refine pu_ 26 38 HT_.out ?_
                refine pu_ 27 39 HT_.out ?_
                refine pu_ 28 40 HT_.out ?_
                refine pu_ 29 41 HT_.out ?_
                refine pu_ 30 42 HT_.out ?_
                refine pu_ 31 43 HT_.out ?_
                refine pu_ 32 44 HT_.out ?_
                refine pu_ 33 45 HT_.out ?_
                refine pz_ 34 46 HT_.out ?_
                refine done_ (done_of HT_.out (by kernel_rfl)) ?_
                try go_wp2
                go_ret
                exact ⟨by first | rfl | (simp [errW_none, errW_some] <;> rfl) | (simp [*, errW_none, errW_some] <;> rfl), by repeat (first | (with_reducible first | exact HB.out | apply below_alloc | apply pw_below_drewN | apply below_drew1 | refine below_set ?_ GE216.out) | exact HB.out)⟩
              · rw [if_neg c7] at H
                have c7b0 : (((rd_T48 l0 x7_1).f1) == 0) = false := beq_eq_false_iff_ne.mpr c7
                have c7b1 : (((rd_T48 l0 x7_1).f1) != 0) = true := bne_iff_ne.mpr c7
                by_cases c13 : ((rd_T48 l0 x7_1).f1) > 1099511627776
                · rw [if_pos c13] at H
                  have c13b0 : decide (1099511627776 < ((rd_T48 l0 x7_1).f1)) = true := decide_eq_true c13
                  clear c13
                  obtain rfl := Option.some.inj H
                  have p215 : 0 ≤ (x7_1 : Int) := of_decide_eq_true (by first | (with_reducible assumption) | assumption)
                  have q215 : x7_1 < (l0.length : Int) := of_decide_eq_true (by first | (with_reducible assumption) | assumption)
                  obtain ⟨ad215, e215, hx215_0, hx215_1, hx215_2⟩ := at_T48 HR0.out x7_1 p215 q215
                  cases e215
                  replace hx215_0 := (HB.out.cell (World.block_lt_of_cell? w _ hx215_0)).trans hx215_0
                  replace hx215_1 := (HB.out.cell (World.block_lt_of_cell? w _ hx215_1)).trans hx215_1
                  replace hx215_2 := (HB.out.cell (World.block_lt_of_cell? w _ hx215_2)).trans hx215_2
                  replace p215 := eq_true p215
                  replace q215 := eq_true q215
                  try go_wp2_with (first | ((with_reducible refine gate_dst (N := 4) rfl ?_); refine box_event ?hg (N := 4) ?hd (cs := #[.string (⟨#[]⟩ : ByteArray), .string (⟨#[]⟩ : ByteArray), .int .i64 0]) (t := 48) ?hr ?_; (case hd => rfl); (case hg => rfl); (case hr => first | (go_simp; done) | (go_simp; rfl)); intro gb216 hg w14 hbox hb; have n0_ := Aside0.mk (below_step (by repeat (first | (with_reducible first | exact HB.out | apply below_alloc | apply pw_below_drewN | apply below_drew1) | exact HB.out)) hb); have n1_ := Aside0.mk (hbox); have n2_ := Aside0.mk ((by rw [hg]; exact (below_size (by repeat (first | (with_reducible first | exact HB.out | apply below_alloc | apply pw_below_drewN | apply below_drew1) | exact HB.out))) : w.heap.size ≤ gb216)); have n3_ := Aside0.mk ((by rw [hg]; exact (below_size (by repeat (first | (with_reducible first | exact HB.out | apply below_alloc | apply pw_below_drewN | apply below_drew1) | exact HB.out))) : w.heap.size ≤ gb216)); clear HB; have HB := n0_; have BK216 := n1_; have GW216 := n2_; have GE216 := n3_; clear n0_ n1_ n2_ n3_; clear hb hbox hg; have hcz15_0 : w14.cell? ⟨gb216, 0, none⟩ = some (.string (⟨#[]⟩ : ByteArray)) := (blk_cell BK216.out 0).trans rfl; have hcz15_1 : w14.cell? ⟨gb216, 1, none⟩ = some (.string (⟨#[]⟩ : ByteArray)) := (blk_cell BK216.out 1).trans rfl; have hcz15_2 : w14.cell? ⟨gb216, 2, none⟩ = some (.int .i64 0) := (blk_cell BK216.out 2).trans rfl; have hfz15_0 := blk_frozen BK216.out 0; have hfz15_1 := blk_frozen BK216.out 1; have hfz15_2 := blk_frozen BK216.out 2))
                  have n0_ : Aside0 ((((w14.setCell ⟨gb216, 0, none⟩ (.string ((rd_T48 l0 x7_1).f0.f0))).setCell ⟨gb216, 1, none⟩ (.string ((rd_T48 l0 x7_1).f0.f1))).setCell ⟨gb216, 2, none⟩ (.int .i64 ((rd_T48 l0 x7_1).f1))).heap[gb216]? = some (.cells #[.string ((rd_T48 l0 x7_1).f0.f0), .string ((rd_T48 l0 x7_1).f0.f1), .int .i64 ((rd_T48 l0 x7_1).f1)] 48 (0, 0))) := ⟨by (with_reducible repeat (first | refine blk_drewN ?_ _ | refine blk_drew ?_ | refine blk_alloc ?_ _)); refine blk_put (cs := #[.string ((rd_T48 l0 x7_1).f0.f0), .string ((rd_T48 l0 x7_1).f0.f1), .int .i64 0]) ?_ 2 _ rfl; (with_reducible repeat (first | refine blk_drewN ?_ _ | refine blk_drew ?_ | refine blk_alloc ?_ _)); refine blk_put (cs := #[.string ((rd_T48 l0 x7_1).f0.f0), .string (⟨#[]⟩ : ByteArray), .int .i64 0]) ?_ 1 _ rfl; (with_reducible repeat (first | refine blk_drewN ?_ _ | refine blk_drew ?_ | refine blk_alloc ?_ _)); refine blk_put (cs := #[.string (⟨#[]⟩ : ByteArray), .string (⟨#[]⟩ : ByteArray), .int .i64 0]) ?_ 0 _ rfl; (with_reducible repeat (first | refine blk_drewN ?_ _ | refine blk_drew ?_ | refine blk_alloc ?_ _)); exact BK216.out⟩
                  have n1_ : Aside0 (Below w.heap.size w (((w14.setCell ⟨gb216, 0, none⟩ (.string ((rd_T48 l0 x7_1).f0.f0))).setCell ⟨gb216, 1, none⟩ (.string ((rd_T48 l0 x7_1).f0.f1))).setCell ⟨gb216, 2, none⟩ (.int .i64 ((rd_T48 l0 x7_1).f1)))) := ⟨by repeat (first | (with_reducible first | exact HB.out | apply below_alloc | apply pw_below_drewN | apply below_drew1 | refine below_set ?_ GE216.out) | exact HB.out)⟩
                  (try clear BK216)
                  (try clear HB)
                  generalize (((w14.setCell ⟨gb216, 0, none⟩ (.string ((rd_T48 l0 x7_1).f0.f0))).setCell ⟨gb216, 1, none⟩ (.string ((rd_T48 l0 x7_1).f0.f1))).setCell ⟨gb216, 2, none⟩ (.int .i64 ((rd_T48 l0 x7_1).f1))) = w16 at n0_ n1_ ⊢
                  have BK216 := n0_
                  have HB := n1_
                  clear n0_ n1_
                  have n0_ := Aside0.mk (blk_drew BK216.out)
                  have n1_ := Aside0.mk (below_drew1 HB.out)
                  clear BK216 HB
                  have BK216 := n0_
                  have HB := n1_
                  clear n0_ n1_
                  refine start_ (n := 35) (S := fun w' => w'.cell? ⟨gb216, 0, none⟩ = some (.string ((rd_T48 l0 x7_1).f0.f0)) ∧ w'.cell? ⟨gb216, 1, none⟩ = some (.string ((rd_T48 l0 x7_1).f0.f1)) ∧ w'.cell? ⟨gb216, 2, none⟩ = some (.int .i64 ((rd_T48 l0 x7_1).f1))) (ds := []) #[false, false, false, false, false, false, false, false, false, false, false, false, false, false, false, false, false, false, false, false, false, false, false, false, false, false, false, false, false, false, false, false, false, false, false] (by kernel_rfl) rfl rfl ⟨(blk_cell BK216.out 0).trans rfl, (blk_cell BK216.out 1).trans rfl, (blk_cell BK216.out 2).trans rfl⟩ (fun hHeld => ?_); refine with_tabW diff_Check.tab4 diff_Check.bits4 (fun HT_ HW_ => ?_)
                  generalize w16.drew = w17 at BK216 HB hHeld ⊢
                  refine pz_ 0 12 HT_.out ?_
                  refine tz_ 1 13 HT_.out HW_.out hHeld ?_
                  refine one_ (i := 2) (N := some 14) #[true, true, true, false, false, false, false, false, false, false, false, false, false, false, false, false, false, false, false, false, false, false, false, false, false, false, false, false, false, false, false, false, false, false, false] rfl rfl (one_of HT_.out (by kernel_rfl)) (by decide) (fun K hK => ?_)
                  refine goes_ Tryz.func45 (by kernel_rfl) rfl #[.agg #[.string ((rd_T48 l0 x7_1).f0.f0), .string ((rd_T48 l0 x7_1).f0.f1)]] (by rfl) rfl rfl (by (try simp only [List.map_toArray, List.map_cons, List.map_nil]); first | done | rfl | (simp only [List.length_drop, List.length_take]; rfl)) ?_
                  with_reducible refine (node_May.calls k1 ((rd_T48 l0 x7_1).f0.f0) ((rd_T48 l0 x7_1).f0.f1) true _ A5.out).mono ?_
                  rintro e w18 ⟨rfl, hb⟩
                  refine ⟨_, rfl, ?_⟩
                  have n0_ := Aside0.mk (blk_below (g := gb216) (o := .cells #[.string ((rd_T48 l0 x7_1).f0.f0), .string ((rd_T48 l0 x7_1).f0.f1), .int .i64 ((rd_T48 l0 x7_1).f1)] 48 (0, 0)) (by (with_reducible repeat (first | refine blk_drewN ?_ _ | refine blk_drew ?_ | refine blk_alloc ?_ _)); exact BK216.out) hb)
                  have n1_ := Aside0.mk (below_step (by repeat (first | (with_reducible first | exact HB.out | apply below_alloc | apply pw_below_drewN | apply below_drew1 | refine below_set ?_ GE216.out) | exact HB.out)) hb)
                  clear BK216 HB
                  have BK216 := n0_
                  have HB := n1_
                  clear n0_ n1_
                  (try clear hb)
                  (try clear hb2)
                  (try clear hk)
                  (try clear hi)
                  refine hK.out _ _ ⟨(blk_cell BK216.out 0).trans rfl, (blk_cell BK216.out 1).trans rfl, (blk_cell BK216.out 2).trans rfl⟩ (fun hHeld => ?_)
                  clear hK K
                  refine nz_ 14 ?_
                  refine pz_ 3 15 HT_.out ?_
                  refine pz_ 4 16 HT_.out ?_
                  refine pz_ 5 17 HT_.out ?_
                  refine tz_ 6 18 HT_.out HW_.out hHeld ?_
                  refine pz_ 7 19 HT_.out ?_
                  refine pz_ 8 20 HT_.out ?_
                  refine pz_ 9 21 HT_.out ?_
                  refine pz_ 10 22 HT_.out ?_
                  refine tz_ 11 23 HT_.out HW_.out hHeld ?_
                  refine pz_ 12 24 HT_.out ?_
                  refine pz_ 13 25 HT_.out ?_
                  refine pz_ 14 26 HT_.out ?_
                  refine pu_ 15 27 HT_.out ?_
                  refine pu_ 16 28 HT_.out ?_
                  refine pu_ 17 29 HT_.out ?_
                  refine pz_ 18 30 HT_.out ?_
                  refine pz_ 19 31 HT_.out ?_
                  refine pu_ 20 32 HT_.out ?_
                  refine pu_ 21 33 HT_.out ?_
                  refine pu_ 22 34 HT_.out ?_
                  refine pu_ 23 35 HT_.out ?_
                  refine pu_ 24 36 HT_.out ?_
                  refine pu_ 25 37 HT_.out ?_
                  refine pu_ 26 38 HT_.out ?_
                  refine pu_ 27 39 HT_.out ?_
                  refine pu_ 28 40 HT_.out ?_
                  refine pu_ 29 41 HT_.out ?_
                  refine pu_ 30 42 HT_.out ?_
                  refine pu_ 31 43 HT_.out ?_
                  refine pu_ 32 44 HT_.out ?_
                  refine pu_ 33 45 HT_.out ?_
                  refine pz_ 34 46 HT_.out ?_
                  refine done_ (done_of HT_.out (by kernel_rfl)) ?_
                  try go_wp2
                  go_ret
                  exact ⟨by first | rfl | (simp [errW_none, errW_some] <;> rfl) | (simp [*, errW_none, errW_some] <;> rfl), by repeat (first | (with_reducible first | exact HB.out | apply below_alloc | apply pw_below_drewN | apply below_drew1 | refine below_set ?_ GE216.out) | exact HB.out)⟩
                · rw [if_neg c13] at H
                  have c13b0 : decide (1099511627776 < ((rd_T48 l0 x7_1).f1)) = false := decide_eq_false c13
                  clear c13
                  by_cases c19 : ((rd_T48 l0 x7_1).f1) < (-1099511627776)
                  · rw [if_pos c19] at H
                    have c19b0 : decide (((rd_T48 l0 x7_1).f1) < (-1099511627776)) = true := decide_eq_true c19
                    clear c19
                    obtain rfl := Option.some.inj H
                    have p215 : 0 ≤ (x7_1 : Int) := of_decide_eq_true (by first | (with_reducible assumption) | assumption)
                    have q215 : x7_1 < (l0.length : Int) := of_decide_eq_true (by first | (with_reducible assumption) | assumption)
                    obtain ⟨ad215, e215, hx215_0, hx215_1, hx215_2⟩ := at_T48 HR0.out x7_1 p215 q215
                    cases e215
                    replace hx215_0 := (HB.out.cell (World.block_lt_of_cell? w _ hx215_0)).trans hx215_0
                    replace hx215_1 := (HB.out.cell (World.block_lt_of_cell? w _ hx215_1)).trans hx215_1
                    replace hx215_2 := (HB.out.cell (World.block_lt_of_cell? w _ hx215_2)).trans hx215_2
                    replace p215 := eq_true p215
                    replace q215 := eq_true q215
                    try go_wp2_with (first | ((with_reducible refine gate_dst (N := 4) rfl ?_); refine box_event ?hg (N := 4) ?hd (cs := #[.string (⟨#[]⟩ : ByteArray), .string (⟨#[]⟩ : ByteArray), .int .i64 0]) (t := 48) ?hr ?_; (case hd => rfl); (case hg => rfl); (case hr => first | (go_simp; done) | (go_simp; rfl)); intro gb216 hg w20 hbox hb; have n0_ := Aside0.mk (below_step (by repeat (first | (with_reducible first | exact HB.out | apply below_alloc | apply pw_below_drewN | apply below_drew1) | exact HB.out)) hb); have n1_ := Aside0.mk (hbox); have n2_ := Aside0.mk ((by rw [hg]; exact (below_size (by repeat (first | (with_reducible first | exact HB.out | apply below_alloc | apply pw_below_drewN | apply below_drew1) | exact HB.out))) : w.heap.size ≤ gb216)); have n3_ := Aside0.mk ((by rw [hg]; exact (below_size (by repeat (first | (with_reducible first | exact HB.out | apply below_alloc | apply pw_below_drewN | apply below_drew1) | exact HB.out))) : w.heap.size ≤ gb216)); clear HB; have HB := n0_; have BK216 := n1_; have GW216 := n2_; have GE216 := n3_; clear n0_ n1_ n2_ n3_; clear hb hbox hg; have hcz21_0 : w20.cell? ⟨gb216, 0, none⟩ = some (.string (⟨#[]⟩ : ByteArray)) := (blk_cell BK216.out 0).trans rfl; have hcz21_1 : w20.cell? ⟨gb216, 1, none⟩ = some (.string (⟨#[]⟩ : ByteArray)) := (blk_cell BK216.out 1).trans rfl; have hcz21_2 : w20.cell? ⟨gb216, 2, none⟩ = some (.int .i64 0) := (blk_cell BK216.out 2).trans rfl; have hfz21_0 := blk_frozen BK216.out 0; have hfz21_1 := blk_frozen BK216.out 1; have hfz21_2 := blk_frozen BK216.out 2))
                    have n0_ : Aside0 ((((w20.setCell ⟨gb216, 0, none⟩ (.string ((rd_T48 l0 x7_1).f0.f0))).setCell ⟨gb216, 1, none⟩ (.string ((rd_T48 l0 x7_1).f0.f1))).setCell ⟨gb216, 2, none⟩ (.int .i64 ((rd_T48 l0 x7_1).f1))).heap[gb216]? = some (.cells #[.string ((rd_T48 l0 x7_1).f0.f0), .string ((rd_T48 l0 x7_1).f0.f1), .int .i64 ((rd_T48 l0 x7_1).f1)] 48 (0, 0))) := ⟨by (with_reducible repeat (first | refine blk_drewN ?_ _ | refine blk_drew ?_ | refine blk_alloc ?_ _)); refine blk_put (cs := #[.string ((rd_T48 l0 x7_1).f0.f0), .string ((rd_T48 l0 x7_1).f0.f1), .int .i64 0]) ?_ 2 _ rfl; (with_reducible repeat (first | refine blk_drewN ?_ _ | refine blk_drew ?_ | refine blk_alloc ?_ _)); refine blk_put (cs := #[.string ((rd_T48 l0 x7_1).f0.f0), .string (⟨#[]⟩ : ByteArray), .int .i64 0]) ?_ 1 _ rfl; (with_reducible repeat (first | refine blk_drewN ?_ _ | refine blk_drew ?_ | refine blk_alloc ?_ _)); refine blk_put (cs := #[.string (⟨#[]⟩ : ByteArray), .string (⟨#[]⟩ : ByteArray), .int .i64 0]) ?_ 0 _ rfl; (with_reducible repeat (first | refine blk_drewN ?_ _ | refine blk_drew ?_ | refine blk_alloc ?_ _)); exact BK216.out⟩
                    have n1_ : Aside0 (Below w.heap.size w (((w20.setCell ⟨gb216, 0, none⟩ (.string ((rd_T48 l0 x7_1).f0.f0))).setCell ⟨gb216, 1, none⟩ (.string ((rd_T48 l0 x7_1).f0.f1))).setCell ⟨gb216, 2, none⟩ (.int .i64 ((rd_T48 l0 x7_1).f1)))) := ⟨by repeat (first | (with_reducible first | exact HB.out | apply below_alloc | apply pw_below_drewN | apply below_drew1 | refine below_set ?_ GE216.out) | exact HB.out)⟩
                    (try clear BK216)
                    (try clear HB)
                    generalize (((w20.setCell ⟨gb216, 0, none⟩ (.string ((rd_T48 l0 x7_1).f0.f0))).setCell ⟨gb216, 1, none⟩ (.string ((rd_T48 l0 x7_1).f0.f1))).setCell ⟨gb216, 2, none⟩ (.int .i64 ((rd_T48 l0 x7_1).f1))) = w22 at n0_ n1_ ⊢
                    have BK216 := n0_
                    have HB := n1_
                    clear n0_ n1_
                    have n0_ := Aside0.mk (blk_drew BK216.out)
                    have n1_ := Aside0.mk (below_drew1 HB.out)
                    clear BK216 HB
                    have BK216 := n0_
                    have HB := n1_
                    clear n0_ n1_
                    refine start_ (n := 35) (S := fun w' => w'.cell? ⟨gb216, 0, none⟩ = some (.string ((rd_T48 l0 x7_1).f0.f0)) ∧ w'.cell? ⟨gb216, 1, none⟩ = some (.string ((rd_T48 l0 x7_1).f0.f1)) ∧ w'.cell? ⟨gb216, 2, none⟩ = some (.int .i64 ((rd_T48 l0 x7_1).f1))) (ds := []) #[false, false, false, false, false, false, false, false, false, false, false, false, false, false, false, false, false, false, false, false, false, false, false, false, false, false, false, false, false, false, false, false, false, false, false] (by kernel_rfl) rfl rfl ⟨(blk_cell BK216.out 0).trans rfl, (blk_cell BK216.out 1).trans rfl, (blk_cell BK216.out 2).trans rfl⟩ (fun hHeld => ?_); refine with_tabW diff_Check.tab4 diff_Check.bits4 (fun HT_ HW_ => ?_)
                    generalize w22.drew = w23 at BK216 HB hHeld ⊢
                    refine pz_ 0 12 HT_.out ?_
                    refine tz_ 1 13 HT_.out HW_.out hHeld ?_
                    refine one_ (i := 2) (N := some 14) #[true, true, true, false, false, false, false, false, false, false, false, false, false, false, false, false, false, false, false, false, false, false, false, false, false, false, false, false, false, false, false, false, false, false, false] rfl rfl (one_of HT_.out (by kernel_rfl)) (by decide) (fun K hK => ?_)
                    refine goes_ Tryz.func45 (by kernel_rfl) rfl #[.agg #[.string ((rd_T48 l0 x7_1).f0.f0), .string ((rd_T48 l0 x7_1).f0.f1)]] (by rfl) rfl rfl (by (try simp only [List.map_toArray, List.map_cons, List.map_nil]); first | done | rfl | (simp only [List.length_drop, List.length_take]; rfl)) ?_
                    with_reducible refine (node_May.calls k1 ((rd_T48 l0 x7_1).f0.f0) ((rd_T48 l0 x7_1).f0.f1) true _ A5.out).mono ?_
                    rintro e w24 ⟨rfl, hb⟩
                    refine ⟨_, rfl, ?_⟩
                    have n0_ := Aside0.mk (blk_below (g := gb216) (o := .cells #[.string ((rd_T48 l0 x7_1).f0.f0), .string ((rd_T48 l0 x7_1).f0.f1), .int .i64 ((rd_T48 l0 x7_1).f1)] 48 (0, 0)) (by (with_reducible repeat (first | refine blk_drewN ?_ _ | refine blk_drew ?_ | refine blk_alloc ?_ _)); exact BK216.out) hb)
                    have n1_ := Aside0.mk (below_step (by repeat (first | (with_reducible first | exact HB.out | apply below_alloc | apply pw_below_drewN | apply below_drew1 | refine below_set ?_ GE216.out) | exact HB.out)) hb)
                    clear BK216 HB
                    have BK216 := n0_
                    have HB := n1_
                    clear n0_ n1_
                    (try clear hb)
                    (try clear hb2)
                    (try clear hk)
                    (try clear hi)
                    refine hK.out _ _ ⟨(blk_cell BK216.out 0).trans rfl, (blk_cell BK216.out 1).trans rfl, (blk_cell BK216.out 2).trans rfl⟩ (fun hHeld => ?_)
                    clear hK K
                    refine nz_ 14 ?_
                    refine pz_ 3 15 HT_.out ?_
                    refine pz_ 4 16 HT_.out ?_
                    refine pz_ 5 17 HT_.out ?_
                    refine tz_ 6 18 HT_.out HW_.out hHeld ?_
                    refine pz_ 7 19 HT_.out ?_
                    refine pz_ 8 20 HT_.out ?_
                    refine pz_ 9 21 HT_.out ?_
                    refine pz_ 10 22 HT_.out ?_
                    refine tz_ 11 23 HT_.out HW_.out hHeld ?_
                    refine pz_ 12 24 HT_.out ?_
                    refine pz_ 13 25 HT_.out ?_
                    refine pz_ 14 26 HT_.out ?_
                    refine pz_ 15 27 HT_.out ?_
                    refine tz_ 16 28 HT_.out HW_.out hHeld ?_
                    refine pz_ 17 29 HT_.out ?_
                    refine pz_ 18 30 HT_.out ?_
                    refine pz_ 19 31 HT_.out ?_
                    refine pu_ 20 32 HT_.out ?_
                    refine pu_ 21 33 HT_.out ?_
                    refine pu_ 22 34 HT_.out ?_
                    refine pu_ 23 35 HT_.out ?_
                    refine pu_ 24 36 HT_.out ?_
                    refine pu_ 25 37 HT_.out ?_
                    refine pu_ 26 38 HT_.out ?_
                    refine pu_ 27 39 HT_.out ?_
                    refine pu_ 28 40 HT_.out ?_
                    refine pu_ 29 41 HT_.out ?_
                    refine pu_ 30 42 HT_.out ?_
                    refine pu_ 31 43 HT_.out ?_
                    refine pu_ 32 44 HT_.out ?_
                    refine pu_ 33 45 HT_.out ?_
                    refine pz_ 34 46 HT_.out ?_
                    refine done_ (done_of HT_.out (by kernel_rfl)) ?_
                    try go_wp2
                    go_ret
                    exact ⟨by first | rfl | (simp [errW_none, errW_some] <;> rfl) | (simp [*, errW_none, errW_some] <;> rfl), by repeat (first | (with_reducible first | exact HB.out | apply below_alloc | apply pw_below_drewN | apply below_drew1 | refine below_set ?_ GE216.out) | exact HB.out)⟩
                  · rw [if_neg c19] at H
                    have c19b0 : decide (((rd_T48 l0 x7_1).f1) < (-1099511627776)) = false := decide_eq_false c19
                    clear c19
                    by_cases c25 : x7_1 > 0
                    · rw [if_pos c25] at H
                      have c25b0 : decide (0 < x7_1) = true := decide_eq_true c25
                      clear c25
                      obtain ⟨ji26, hji26⟩ : ∃ j_ : Int, (wrap64 (x7_1 - 1)) = j_ := ⟨_, rfl⟩
                      replace H : (if 0 ≤ (ji26) then (if (ji26) < (l0.length : Int) then ((diff_order.f k1 ((rd_T48 l0 (ji26)).f0.f0) ((rd_T48 l0 (ji26)).f0.f1) ((rd_T48 l0 x7_1).f0.f0) ((rd_T48 l0 x7_1).f0.f1)).bind fun t219 => (if t219 ≥ 0 then (some 1) else (diff_Check.l0 k1 l0 l0 (l0.length : Int) (wrap64 (x7_1 + 1))))) else (none)) else (none)) = some r := by first | (rw [hji26] at H; exact H) | (simp only [hji26] at H ⊢; exact H)
                      (try rw [hji26] at A5)
                      have hji26w : (IntKind.i64.wrap (x7_1 - 1)) = ji26 := (i64_w _).trans hji26
                      by_cases c27 : 0 ≤ (ji26)
                      · rw [if_pos c27] at H
                        have c27b0 : decide (0 ≤ (ji26)) = true := decide_eq_true c27
                        clear c27
                        by_cases c28 : (ji26) < (l0.length : Int)
                        · rw [if_pos c28] at H
                          have c28b0 : decide ((ji26) < (l0.length : Int)) = true := decide_eq_true c28
                          clear c28
                          replace H := Option.bind_eq_some_iff.mp H
                          obtain ⟨t219, A290, H⟩ := H
                          replace H : (if t219 ≥ 0 then (some 1) else (diff_Check.l0 k1 l0 l0 (l0.length : Int) (wrap64 (x7_1 + 1)))) = some r := H
                          have A29 := Aside0.mk A290
                          clear A290
                          by_cases c30 : t219 ≥ 0
                          · rw [if_pos c30] at H
                            have c30b0 : decide (0 ≤ t219) = true := decide_eq_true c30
                            clear c30
                            obtain rfl := Option.some.inj H
                            have p215 : 0 ≤ (x7_1 : Int) := of_decide_eq_true (by first | (with_reducible assumption) | assumption)
                            have q215 : x7_1 < (l0.length : Int) := of_decide_eq_true (by first | (with_reducible assumption) | assumption)
                            obtain ⟨ad215, e215, hx215_0, hx215_1, hx215_2⟩ := at_T48 HR0.out x7_1 p215 q215
                            cases e215
                            replace hx215_0 := (HB.out.cell (World.block_lt_of_cell? w _ hx215_0)).trans hx215_0
                            replace hx215_1 := (HB.out.cell (World.block_lt_of_cell? w _ hx215_1)).trans hx215_1
                            replace hx215_2 := (HB.out.cell (World.block_lt_of_cell? w _ hx215_2)).trans hx215_2
                            replace p215 := eq_true p215
                            replace q215 := eq_true q215
                            try go_wp2_with (first | ((with_reducible refine gate_dst (N := 4) rfl ?_); refine box_event ?hg (N := 4) ?hd (cs := #[.string (⟨#[]⟩ : ByteArray), .string (⟨#[]⟩ : ByteArray), .int .i64 0]) (t := 48) ?hr ?_; (case hd => rfl); (case hg => rfl); (case hr => first | (go_simp; done) | (go_simp; rfl)); intro gb216 hg w31 hbox hb; have n0_ := Aside0.mk (below_step (by repeat (first | (with_reducible first | exact HB.out | apply below_alloc | apply pw_below_drewN | apply below_drew1) | exact HB.out)) hb); have n1_ := Aside0.mk (hbox); have n2_ := Aside0.mk ((by rw [hg]; exact (below_size (by repeat (first | (with_reducible first | exact HB.out | apply below_alloc | apply pw_below_drewN | apply below_drew1) | exact HB.out))) : w.heap.size ≤ gb216)); have n3_ := Aside0.mk ((by rw [hg]; exact (below_size (by repeat (first | (with_reducible first | exact HB.out | apply below_alloc | apply pw_below_drewN | apply below_drew1) | exact HB.out))) : w.heap.size ≤ gb216)); clear HB; have HB := n0_; have BK216 := n1_; have GW216 := n2_; have GE216 := n3_; clear n0_ n1_ n2_ n3_; clear hb hbox hg; have hcz32_0 : w31.cell? ⟨gb216, 0, none⟩ = some (.string (⟨#[]⟩ : ByteArray)) := (blk_cell BK216.out 0).trans rfl; have hcz32_1 : w31.cell? ⟨gb216, 1, none⟩ = some (.string (⟨#[]⟩ : ByteArray)) := (blk_cell BK216.out 1).trans rfl; have hcz32_2 : w31.cell? ⟨gb216, 2, none⟩ = some (.int .i64 0) := (blk_cell BK216.out 2).trans rfl; have hfz32_0 := blk_frozen BK216.out 0; have hfz32_1 := blk_frozen BK216.out 1; have hfz32_2 := blk_frozen BK216.out 2))
                            have n0_ : Aside0 ((((w31.setCell ⟨gb216, 0, none⟩ (.string ((rd_T48 l0 x7_1).f0.f0))).setCell ⟨gb216, 1, none⟩ (.string ((rd_T48 l0 x7_1).f0.f1))).setCell ⟨gb216, 2, none⟩ (.int .i64 ((rd_T48 l0 x7_1).f1))).heap[gb216]? = some (.cells #[.string ((rd_T48 l0 x7_1).f0.f0), .string ((rd_T48 l0 x7_1).f0.f1), .int .i64 ((rd_T48 l0 x7_1).f1)] 48 (0, 0))) := ⟨by (with_reducible repeat (first | refine blk_drewN ?_ _ | refine blk_drew ?_ | refine blk_alloc ?_ _)); refine blk_put (cs := #[.string ((rd_T48 l0 x7_1).f0.f0), .string ((rd_T48 l0 x7_1).f0.f1), .int .i64 0]) ?_ 2 _ rfl; (with_reducible repeat (first | refine blk_drewN ?_ _ | refine blk_drew ?_ | refine blk_alloc ?_ _)); refine blk_put (cs := #[.string ((rd_T48 l0 x7_1).f0.f0), .string (⟨#[]⟩ : ByteArray), .int .i64 0]) ?_ 1 _ rfl; (with_reducible repeat (first | refine blk_drewN ?_ _ | refine blk_drew ?_ | refine blk_alloc ?_ _)); refine blk_put (cs := #[.string (⟨#[]⟩ : ByteArray), .string (⟨#[]⟩ : ByteArray), .int .i64 0]) ?_ 0 _ rfl; (with_reducible repeat (first | refine blk_drewN ?_ _ | refine blk_drew ?_ | refine blk_alloc ?_ _)); exact BK216.out⟩
                            have n1_ : Aside0 (Below w.heap.size w (((w31.setCell ⟨gb216, 0, none⟩ (.string ((rd_T48 l0 x7_1).f0.f0))).setCell ⟨gb216, 1, none⟩ (.string ((rd_T48 l0 x7_1).f0.f1))).setCell ⟨gb216, 2, none⟩ (.int .i64 ((rd_T48 l0 x7_1).f1)))) := ⟨by repeat (first | (with_reducible first | exact HB.out | apply below_alloc | apply pw_below_drewN | apply below_drew1 | refine below_set ?_ GE216.out) | exact HB.out)⟩
                            (try clear BK216)
                            (try clear HB)
                            generalize (((w31.setCell ⟨gb216, 0, none⟩ (.string ((rd_T48 l0 x7_1).f0.f0))).setCell ⟨gb216, 1, none⟩ (.string ((rd_T48 l0 x7_1).f0.f1))).setCell ⟨gb216, 2, none⟩ (.int .i64 ((rd_T48 l0 x7_1).f1))) = w33 at n0_ n1_ ⊢
                            have BK216 := n0_
                            have HB := n1_
                            clear n0_ n1_
                            have n0_ := Aside0.mk (blk_drew BK216.out)
                            have n1_ := Aside0.mk (below_drew1 HB.out)
                            clear BK216 HB
                            have BK216 := n0_
                            have HB := n1_
                            clear n0_ n1_
                            have p218 : 0 ≤ ((ji26) : Int) := of_decide_eq_true (by first | (with_reducible assumption) | assumption)
                            have q218 : (ji26) < (l0.length : Int) := of_decide_eq_true (by first | (with_reducible assumption) | assumption)
                            obtain ⟨ad218, e218, hx218_0, hx218_1, hx218_2⟩ := at_T48 HR0.out (ji26) p218 q218
                            have hw218_2 := hx218_2
                            have hw218_1 := hx218_1
                            have hw218_0 := hx218_0
                            obtain rfl : ad215 = ad218 := (by injection e218)
                            replace hx218_0 := (HB.out.cell (World.block_lt_of_cell? w _ hx218_0)).trans hx218_0
                            replace hx218_1 := (HB.out.cell (World.block_lt_of_cell? w _ hx218_1)).trans hx218_1
                            replace hx218_2 := (HB.out.cell (World.block_lt_of_cell? w _ hx218_2)).trans hx218_2
                            replace p218 := eq_true p218
                            replace q218 := eq_true q218
                            refine start_ (n := 35) (S := fun w' => w'.cell? ⟨gb216, 0, none⟩ = some (.string ((rd_T48 l0 x7_1).f0.f0)) ∧ w'.cell? ⟨gb216, 1, none⟩ = some (.string ((rd_T48 l0 x7_1).f0.f1)) ∧ w'.cell? ⟨gb216, 2, none⟩ = some (.int .i64 ((rd_T48 l0 x7_1).f1)) ∧ w'.cell? (ad215.add (((ji26)).toNat * 3)) = some (.string ((rd_T48 l0 (ji26)).f0.f0)) ∧ w'.cell? ⟨(ad215.add (((ji26)).toNat * 3)).block, (ad215.add (((ji26)).toNat * 3)).off + 1, none⟩ = some (.string ((rd_T48 l0 (ji26)).f0.f1)) ∧ w'.cell? ⟨(ad215.add (((ji26)).toNat * 3)).block, (ad215.add (((ji26)).toNat * 3)).off + 2, none⟩ = some (.int .i64 ((rd_T48 l0 (ji26)).f1))) (ds := []) #[false, false, false, false, false, false, false, false, false, false, false, false, false, false, false, false, false, false, false, false, false, false, false, false, false, false, false, false, false, false, false, false, false, false, false] (by kernel_rfl) rfl rfl ⟨(blk_cell BK216.out 0).trans rfl, (blk_cell BK216.out 1).trans rfl, (blk_cell BK216.out 2).trans rfl, ((HB.out.cell (World.block_lt_of_cell? w _ hw218_0)).trans hw218_0), ((HB.out.cell (World.block_lt_of_cell? w _ hw218_1)).trans hw218_1), ((HB.out.cell (World.block_lt_of_cell? w _ hw218_2)).trans hw218_2)⟩ (fun hHeld => ?_); refine with_tabW diff_Check.tab4 diff_Check.bits4 (fun HT_ HW_ => ?_)
                            generalize w33.drew = w34 at BK216 HB hx218_0 hx218_1 hx218_2 hHeld ⊢
                            refine pz_ 0 12 HT_.out ?_
                            refine tz_ 1 13 HT_.out HW_.out hHeld ?_
                            refine one_ (i := 2) (N := some 14) #[true, true, true, false, false, false, false, false, false, false, false, false, false, false, false, false, false, false, false, false, false, false, false, false, false, false, false, false, false, false, false, false, false, false, false] rfl rfl (one_of HT_.out (by kernel_rfl)) (by decide) (fun K hK => ?_)
                            refine goes_ Tryz.func45 (by kernel_rfl) rfl #[.agg #[.string ((rd_T48 l0 x7_1).f0.f0), .string ((rd_T48 l0 x7_1).f0.f1)]] (by rfl) rfl rfl (by (try simp only [List.map_toArray, List.map_cons, List.map_nil]); first | done | rfl | (simp only [List.length_drop, List.length_take]; rfl)) ?_
                            with_reducible refine (node_May.calls k1 ((rd_T48 l0 x7_1).f0.f0) ((rd_T48 l0 x7_1).f0.f1) true _ A5.out).mono ?_
                            rintro e w35 ⟨rfl, hb⟩
                            refine ⟨_, rfl, ?_⟩
                            have n0_ := Aside0.mk (blk_below (g := gb216) (o := .cells #[.string ((rd_T48 l0 x7_1).f0.f0), .string ((rd_T48 l0 x7_1).f0.f1), .int .i64 ((rd_T48 l0 x7_1).f1)] 48 (0, 0)) (by (with_reducible repeat (first | refine blk_drewN ?_ _ | refine blk_drew ?_ | refine blk_alloc ?_ _)); exact BK216.out) hb)
                            have n1_ := Aside0.mk (below_step (by repeat (first | (with_reducible first | exact HB.out | apply below_alloc | apply pw_below_drewN | apply below_drew1 | refine below_set ?_ GE216.out) | exact HB.out)) hb)
                            clear BK216 HB
                            have BK216 := n0_
                            have HB := n1_
                            clear n0_ n1_
                            (try clear hb)
                            (try clear hb2)
                            (try clear hk)
                            (try clear hi)
                            refine hK.out _ _ ⟨(blk_cell BK216.out 0).trans rfl, (blk_cell BK216.out 1).trans rfl, (blk_cell BK216.out 2).trans rfl, ((HB.out.cell (World.block_lt_of_cell? w _ hw218_0)).trans hw218_0), ((HB.out.cell (World.block_lt_of_cell? w _ hw218_1)).trans hw218_1), ((HB.out.cell (World.block_lt_of_cell? w _ hw218_2)).trans hw218_2)⟩ (fun hHeld => ?_)
                            clear hK K
                            refine nz_ 14 ?_
                            refine pz_ 3 15 HT_.out ?_
                            refine pz_ 4 16 HT_.out ?_
                            refine pz_ 5 17 HT_.out ?_
                            refine tz_ 6 18 HT_.out HW_.out hHeld ?_
                            refine pz_ 7 19 HT_.out ?_
                            refine pz_ 8 20 HT_.out ?_
                            refine pz_ 9 21 HT_.out ?_
                            refine pz_ 10 22 HT_.out ?_
                            refine tz_ 11 23 HT_.out HW_.out hHeld ?_
                            refine pz_ 12 24 HT_.out ?_
                            refine pz_ 13 25 HT_.out ?_
                            refine pz_ 14 26 HT_.out ?_
                            refine pz_ 15 27 HT_.out ?_
                            refine tz_ 16 28 HT_.out HW_.out hHeld ?_
                            refine pz_ 17 29 HT_.out ?_
                            refine pz_ 18 30 HT_.out ?_
                            refine pz_ 19 31 HT_.out ?_
                            refine pz_ 20 32 HT_.out ?_
                            refine pz_ 21 33 HT_.out ?_
                            refine pz_ 22 34 HT_.out ?_
                            refine pz_ 23 35 HT_.out ?_
                            refine pz_ 24 36 HT_.out ?_
                            refine pz_ 25 37 HT_.out ?_
                            refine pz_ 26 38 HT_.out ?_
                            refine pz_ 27 39 HT_.out ?_
                            refine pz_ 29 41 HT_.out ?_
                            refine tz_ 28 40 HT_.out HW_.out hHeld ?_
                            refine tz_ 30 42 HT_.out HW_.out hHeld ?_
                            refine one_ (i := 31) (N := some 43) #[true, true, true, true, true, true, true, true, true, true, true, true, true, true, true, true, true, true, true, true, true, true, true, true, true, true, true, true, true, true, true, true, false, false, false] rfl rfl (one_of HT_.out (by kernel_rfl)) (by decide) (fun K hK => ?_)
                            refine goes_ Tryz.func49 (by kernel_rfl) rfl #[.agg #[.string ((rd_T48 l0 (ji26)).f0.f0), .string ((rd_T48 l0 (ji26)).f0.f1)], .agg #[.string ((rd_T48 l0 x7_1).f0.f0), .string ((rd_T48 l0 x7_1).f0.f1)]] (by rfl) rfl rfl (by (try simp only [List.map_toArray, List.map_cons, List.map_nil]); first | done | (simp only [hji26]; rfl) | rfl | (simp only [List.length_drop, List.length_take]; rfl)) ?_
                            with_reducible refine (diff_order.calls k1 ((rd_T48 l0 (ji26)).f0.f0) ((rd_T48 l0 (ji26)).f0.f1) ((rd_T48 l0 x7_1).f0.f0) ((rd_T48 l0 x7_1).f0.f1) t219 _ A29.out).mono ?_
                            rintro e w36 ⟨rfl, hb⟩
                            refine ⟨_, rfl, ?_⟩
                            have n0_ := Aside0.mk (blk_below (g := gb216) (o := .cells #[.string ((rd_T48 l0 x7_1).f0.f0), .string ((rd_T48 l0 x7_1).f0.f1), .int .i64 ((rd_T48 l0 x7_1).f1)] 48 (0, 0)) (by (with_reducible repeat (first | refine blk_drewN ?_ _ | refine blk_drew ?_ | refine blk_alloc ?_ _)); exact BK216.out) hb)
                            have n1_ := Aside0.mk (below_step (by repeat (first | (with_reducible first | exact HB.out | apply below_alloc | apply pw_below_drewN | apply below_drew1 | refine below_set ?_ GE216.out) | exact HB.out)) hb)
                            clear BK216 HB
                            have BK216 := n0_
                            have HB := n1_
                            clear n0_ n1_
                            (try clear hb)
                            (try clear hb2)
                            (try clear hk)
                            (try clear hi)
                            refine hK.out _ _ ⟨(blk_cell BK216.out 0).trans rfl, (blk_cell BK216.out 1).trans rfl, (blk_cell BK216.out 2).trans rfl, ((HB.out.cell (World.block_lt_of_cell? w _ hw218_0)).trans hw218_0), ((HB.out.cell (World.block_lt_of_cell? w _ hw218_1)).trans hw218_1), ((HB.out.cell (World.block_lt_of_cell? w _ hw218_2)).trans hw218_2)⟩ (fun hHeld => ?_)
                            clear hK K
                            refine nz_ 43 ?_
                            refine pz_ 32 44 HT_.out ?_
                            refine pz_ 33 45 HT_.out ?_
                            refine pz_ 34 46 HT_.out ?_
                            refine done_ (done_of HT_.out (by kernel_rfl)) ?_
                            try go_wp2
                            go_ret
                            exact ⟨by first | rfl | (simp [errW_none, errW_some] <;> rfl) | (simp only [← hji26]; first | rfl | (simp [errW_none, errW_some] <;> rfl)) | (simp [*, errW_none, errW_some] <;> rfl), by repeat (first | (with_reducible first | exact HB.out | apply below_alloc | apply pw_below_drewN | apply below_drew1 | refine below_set ?_ GE216.out) | exact HB.out)⟩
                          · rw [if_neg c30] at H
                            have c30b0 : decide (0 ≤ t219) = false := decide_eq_false c30
                            clear c30
                            have H' := Aside0.mk H
                            clear H
                            have p215 : 0 ≤ (x7_1 : Int) := of_decide_eq_true (by first | (with_reducible assumption) | assumption)
                            have q215 : x7_1 < (l0.length : Int) := of_decide_eq_true (by first | (with_reducible assumption) | assumption)
                            obtain ⟨ad215, e215, hx215_0, hx215_1, hx215_2⟩ := at_T48 HR0.out x7_1 p215 q215
                            cases e215
                            replace hx215_0 := (HB.out.cell (World.block_lt_of_cell? w _ hx215_0)).trans hx215_0
                            replace hx215_1 := (HB.out.cell (World.block_lt_of_cell? w _ hx215_1)).trans hx215_1
                            replace hx215_2 := (HB.out.cell (World.block_lt_of_cell? w _ hx215_2)).trans hx215_2
                            replace p215 := eq_true p215
                            replace q215 := eq_true q215
                            try go_wp2_with (first | ((with_reducible refine gate_dst (N := 4) rfl ?_); refine box_event ?hg (N := 4) ?hd (cs := #[.string (⟨#[]⟩ : ByteArray), .string (⟨#[]⟩ : ByteArray), .int .i64 0]) (t := 48) ?hr ?_; (case hd => rfl); (case hg => rfl); (case hr => first | (go_simp; done) | (go_simp; rfl)); intro gb216 hg w37 hbox hb; have n0_ := Aside0.mk (below_step (by repeat (first | (with_reducible first | exact HB.out | apply below_alloc | apply pw_below_drewN | apply below_drew1) | exact HB.out)) hb); have n1_ := Aside0.mk (hbox); have n2_ := Aside0.mk ((by rw [hg]; exact (below_size (by repeat (first | (with_reducible first | exact HB.out | apply below_alloc | apply pw_below_drewN | apply below_drew1) | exact HB.out))) : w.heap.size ≤ gb216)); have n3_ := Aside0.mk ((by rw [hg]; exact (below_size (by repeat (first | (with_reducible first | exact HB.out | apply below_alloc | apply pw_below_drewN | apply below_drew1) | exact HB.out))) : w.heap.size ≤ gb216)); clear HB; have HB := n0_; have BK216 := n1_; have GW216 := n2_; have GE216 := n3_; clear n0_ n1_ n2_ n3_; clear hb hbox hg; have hcz38_0 : w37.cell? ⟨gb216, 0, none⟩ = some (.string (⟨#[]⟩ : ByteArray)) := (blk_cell BK216.out 0).trans rfl; have hcz38_1 : w37.cell? ⟨gb216, 1, none⟩ = some (.string (⟨#[]⟩ : ByteArray)) := (blk_cell BK216.out 1).trans rfl; have hcz38_2 : w37.cell? ⟨gb216, 2, none⟩ = some (.int .i64 0) := (blk_cell BK216.out 2).trans rfl; have hfz38_0 := blk_frozen BK216.out 0; have hfz38_1 := blk_frozen BK216.out 1; have hfz38_2 := blk_frozen BK216.out 2))
                            have n0_ : Aside0 ((((w37.setCell ⟨gb216, 0, none⟩ (.string ((rd_T48 l0 x7_1).f0.f0))).setCell ⟨gb216, 1, none⟩ (.string ((rd_T48 l0 x7_1).f0.f1))).setCell ⟨gb216, 2, none⟩ (.int .i64 ((rd_T48 l0 x7_1).f1))).heap[gb216]? = some (.cells #[.string ((rd_T48 l0 x7_1).f0.f0), .string ((rd_T48 l0 x7_1).f0.f1), .int .i64 ((rd_T48 l0 x7_1).f1)] 48 (0, 0))) := ⟨by (with_reducible repeat (first | refine blk_drewN ?_ _ | refine blk_drew ?_ | refine blk_alloc ?_ _)); refine blk_put (cs := #[.string ((rd_T48 l0 x7_1).f0.f0), .string ((rd_T48 l0 x7_1).f0.f1), .int .i64 0]) ?_ 2 _ rfl; (with_reducible repeat (first | refine blk_drewN ?_ _ | refine blk_drew ?_ | refine blk_alloc ?_ _)); refine blk_put (cs := #[.string ((rd_T48 l0 x7_1).f0.f0), .string (⟨#[]⟩ : ByteArray), .int .i64 0]) ?_ 1 _ rfl; (with_reducible repeat (first | refine blk_drewN ?_ _ | refine blk_drew ?_ | refine blk_alloc ?_ _)); refine blk_put (cs := #[.string (⟨#[]⟩ : ByteArray), .string (⟨#[]⟩ : ByteArray), .int .i64 0]) ?_ 0 _ rfl; (with_reducible repeat (first | refine blk_drewN ?_ _ | refine blk_drew ?_ | refine blk_alloc ?_ _)); exact BK216.out⟩
                            have n1_ : Aside0 (Below w.heap.size w (((w37.setCell ⟨gb216, 0, none⟩ (.string ((rd_T48 l0 x7_1).f0.f0))).setCell ⟨gb216, 1, none⟩ (.string ((rd_T48 l0 x7_1).f0.f1))).setCell ⟨gb216, 2, none⟩ (.int .i64 ((rd_T48 l0 x7_1).f1)))) := ⟨by repeat (first | (with_reducible first | exact HB.out | apply below_alloc | apply pw_below_drewN | apply below_drew1 | refine below_set ?_ GE216.out) | exact HB.out)⟩
                            (try clear BK216)
                            (try clear HB)
                            generalize (((w37.setCell ⟨gb216, 0, none⟩ (.string ((rd_T48 l0 x7_1).f0.f0))).setCell ⟨gb216, 1, none⟩ (.string ((rd_T48 l0 x7_1).f0.f1))).setCell ⟨gb216, 2, none⟩ (.int .i64 ((rd_T48 l0 x7_1).f1))) = w39 at n0_ n1_ ⊢
                            have BK216 := n0_
                            have HB := n1_
                            clear n0_ n1_
                            have n0_ := Aside0.mk (blk_drew BK216.out)
                            have n1_ := Aside0.mk (below_drew1 HB.out)
                            clear BK216 HB
                            have BK216 := n0_
                            have HB := n1_
                            clear n0_ n1_
                            have p218 : 0 ≤ ((ji26) : Int) := of_decide_eq_true (by first | (with_reducible assumption) | assumption)
                            have q218 : (ji26) < (l0.length : Int) := of_decide_eq_true (by first | (with_reducible assumption) | assumption)
                            obtain ⟨ad218, e218, hx218_0, hx218_1, hx218_2⟩ := at_T48 HR0.out (ji26) p218 q218
                            have hw218_2 := hx218_2
                            have hw218_1 := hx218_1
                            have hw218_0 := hx218_0
                            obtain rfl : ad215 = ad218 := (by injection e218)
                            replace hx218_0 := (HB.out.cell (World.block_lt_of_cell? w _ hx218_0)).trans hx218_0
                            replace hx218_1 := (HB.out.cell (World.block_lt_of_cell? w _ hx218_1)).trans hx218_1
                            replace hx218_2 := (HB.out.cell (World.block_lt_of_cell? w _ hx218_2)).trans hx218_2
                            replace p218 := eq_true p218
                            replace q218 := eq_true q218
                            refine start_ (n := 35) (S := fun w' => w'.cell? ⟨gb216, 0, none⟩ = some (.string ((rd_T48 l0 x7_1).f0.f0)) ∧ w'.cell? ⟨gb216, 1, none⟩ = some (.string ((rd_T48 l0 x7_1).f0.f1)) ∧ w'.cell? ⟨gb216, 2, none⟩ = some (.int .i64 ((rd_T48 l0 x7_1).f1)) ∧ w'.cell? (ad215.add (((ji26)).toNat * 3)) = some (.string ((rd_T48 l0 (ji26)).f0.f0)) ∧ w'.cell? ⟨(ad215.add (((ji26)).toNat * 3)).block, (ad215.add (((ji26)).toNat * 3)).off + 1, none⟩ = some (.string ((rd_T48 l0 (ji26)).f0.f1)) ∧ w'.cell? ⟨(ad215.add (((ji26)).toNat * 3)).block, (ad215.add (((ji26)).toNat * 3)).off + 2, none⟩ = some (.int .i64 ((rd_T48 l0 (ji26)).f1))) (ds := []) #[false, false, false, false, false, false, false, false, false, false, false, false, false, false, false, false, false, false, false, false, false, false, false, false, false, false, false, false, false, false, false, false, false, false, false] (by kernel_rfl) rfl rfl ⟨(blk_cell BK216.out 0).trans rfl, (blk_cell BK216.out 1).trans rfl, (blk_cell BK216.out 2).trans rfl, ((HB.out.cell (World.block_lt_of_cell? w _ hw218_0)).trans hw218_0), ((HB.out.cell (World.block_lt_of_cell? w _ hw218_1)).trans hw218_1), ((HB.out.cell (World.block_lt_of_cell? w _ hw218_2)).trans hw218_2)⟩ (fun hHeld => ?_); refine with_tabW diff_Check.tab4 diff_Check.bits4 (fun HT_ HW_ => ?_)
                            generalize w39.drew = w40 at BK216 HB hx218_0 hx218_1 hx218_2 hHeld ⊢
                            refine pz_ 0 12 HT_.out ?_
                            refine tz_ 1 13 HT_.out HW_.out hHeld ?_
                            refine one_ (i := 2) (N := some 14) #[true, true, true, false, false, false, false, false, false, false, false, false, false, false, false, false, false, false, false, false, false, false, false, false, false, false, false, false, false, false, false, false, false, false, false] rfl rfl (one_of HT_.out (by kernel_rfl)) (by decide) (fun K hK => ?_)
                            refine goes_ Tryz.func45 (by kernel_rfl) rfl #[.agg #[.string ((rd_T48 l0 x7_1).f0.f0), .string ((rd_T48 l0 x7_1).f0.f1)]] (by rfl) rfl rfl (by (try simp only [List.map_toArray, List.map_cons, List.map_nil]); first | done | rfl | (simp only [List.length_drop, List.length_take]; rfl)) ?_
                            with_reducible refine (node_May.calls k1 ((rd_T48 l0 x7_1).f0.f0) ((rd_T48 l0 x7_1).f0.f1) true _ A5.out).mono ?_
                            rintro e w41 ⟨rfl, hb⟩
                            refine ⟨_, rfl, ?_⟩
                            have n0_ := Aside0.mk (blk_below (g := gb216) (o := .cells #[.string ((rd_T48 l0 x7_1).f0.f0), .string ((rd_T48 l0 x7_1).f0.f1), .int .i64 ((rd_T48 l0 x7_1).f1)] 48 (0, 0)) (by (with_reducible repeat (first | refine blk_drewN ?_ _ | refine blk_drew ?_ | refine blk_alloc ?_ _)); exact BK216.out) hb)
                            have n1_ := Aside0.mk (below_step (by repeat (first | (with_reducible first | exact HB.out | apply below_alloc | apply pw_below_drewN | apply below_drew1 | refine below_set ?_ GE216.out) | exact HB.out)) hb)
                            clear BK216 HB
                            have BK216 := n0_
                            have HB := n1_
                            clear n0_ n1_
                            (try clear hb)
                            (try clear hb2)
                            (try clear hk)
                            (try clear hi)
                            refine hK.out _ _ ⟨(blk_cell BK216.out 0).trans rfl, (blk_cell BK216.out 1).trans rfl, (blk_cell BK216.out 2).trans rfl, ((HB.out.cell (World.block_lt_of_cell? w _ hw218_0)).trans hw218_0), ((HB.out.cell (World.block_lt_of_cell? w _ hw218_1)).trans hw218_1), ((HB.out.cell (World.block_lt_of_cell? w _ hw218_2)).trans hw218_2)⟩ (fun hHeld => ?_)
                            clear hK K
                            refine nz_ 14 ?_
                            refine pz_ 3 15 HT_.out ?_
                            refine pz_ 4 16 HT_.out ?_
                            refine pz_ 5 17 HT_.out ?_
                            refine tz_ 6 18 HT_.out HW_.out hHeld ?_
                            refine pz_ 7 19 HT_.out ?_
                            refine pz_ 8 20 HT_.out ?_
                            refine pz_ 9 21 HT_.out ?_
                            refine pz_ 10 22 HT_.out ?_
                            refine tz_ 11 23 HT_.out HW_.out hHeld ?_
                            refine pz_ 12 24 HT_.out ?_
                            refine pz_ 13 25 HT_.out ?_
                            refine pz_ 14 26 HT_.out ?_
                            refine pz_ 15 27 HT_.out ?_
                            refine tz_ 16 28 HT_.out HW_.out hHeld ?_
                            refine pz_ 17 29 HT_.out ?_
                            refine pz_ 18 30 HT_.out ?_
                            refine pz_ 19 31 HT_.out ?_
                            refine pz_ 20 32 HT_.out ?_
                            refine pz_ 21 33 HT_.out ?_
                            refine pz_ 22 34 HT_.out ?_
                            refine pz_ 23 35 HT_.out ?_
                            refine pz_ 24 36 HT_.out ?_
                            refine pz_ 25 37 HT_.out ?_
                            refine pz_ 26 38 HT_.out ?_
                            refine pz_ 27 39 HT_.out ?_
                            refine pz_ 29 41 HT_.out ?_
                            refine tz_ 28 40 HT_.out HW_.out hHeld ?_
                            refine tz_ 30 42 HT_.out HW_.out hHeld ?_
                            refine one_ (i := 31) (N := some 43) #[true, true, true, true, true, true, true, true, true, true, true, true, true, true, true, true, true, true, true, true, true, true, true, true, true, true, true, true, true, true, true, true, false, false, false] rfl rfl (one_of HT_.out (by kernel_rfl)) (by decide) (fun K hK => ?_)
                            refine goes_ Tryz.func49 (by kernel_rfl) rfl #[.agg #[.string ((rd_T48 l0 (ji26)).f0.f0), .string ((rd_T48 l0 (ji26)).f0.f1)], .agg #[.string ((rd_T48 l0 x7_1).f0.f0), .string ((rd_T48 l0 x7_1).f0.f1)]] (by rfl) rfl rfl (by (try simp only [List.map_toArray, List.map_cons, List.map_nil]); first | done | (simp only [hji26]; rfl) | rfl | (simp only [List.length_drop, List.length_take]; rfl)) ?_
                            with_reducible refine (diff_order.calls k1 ((rd_T48 l0 (ji26)).f0.f0) ((rd_T48 l0 (ji26)).f0.f1) ((rd_T48 l0 x7_1).f0.f0) ((rd_T48 l0 x7_1).f0.f1) t219 _ A29.out).mono ?_
                            rintro e w42 ⟨rfl, hb⟩
                            refine ⟨_, rfl, ?_⟩
                            have n0_ := Aside0.mk (blk_below (g := gb216) (o := .cells #[.string ((rd_T48 l0 x7_1).f0.f0), .string ((rd_T48 l0 x7_1).f0.f1), .int .i64 ((rd_T48 l0 x7_1).f1)] 48 (0, 0)) (by (with_reducible repeat (first | refine blk_drewN ?_ _ | refine blk_drew ?_ | refine blk_alloc ?_ _)); exact BK216.out) hb)
                            have n1_ := Aside0.mk (below_step (by repeat (first | (with_reducible first | exact HB.out | apply below_alloc | apply pw_below_drewN | apply below_drew1 | refine below_set ?_ GE216.out) | exact HB.out)) hb)
                            clear BK216 HB
                            have BK216 := n0_
                            have HB := n1_
                            clear n0_ n1_
                            (try clear hb)
                            (try clear hb2)
                            (try clear hk)
                            (try clear hi)
                            refine hK.out _ _ ⟨(blk_cell BK216.out 0).trans rfl, (blk_cell BK216.out 1).trans rfl, (blk_cell BK216.out 2).trans rfl, ((HB.out.cell (World.block_lt_of_cell? w _ hw218_0)).trans hw218_0), ((HB.out.cell (World.block_lt_of_cell? w _ hw218_1)).trans hw218_1), ((HB.out.cell (World.block_lt_of_cell? w _ hw218_2)).trans hw218_2)⟩ (fun hHeld => ?_)
                            clear hK K
                            refine nz_ 43 ?_
                            refine pz_ 32 44 HT_.out ?_
                            refine pz_ 33 45 HT_.out ?_
                            refine pz_ 34 46 HT_.out ?_
                            refine done_ (done_of HT_.out (by kernel_rfl)) ?_
                            try go_wp2
                            go_roundg k1
                            case measure => have := HK1.out; omega
                            case rel => exact ⟨(wrap64 (x7_1 + 1)), (by first | rfl | (simp; done) | (simp [*]; done)), H', ⟨by have := HK1.out; omega⟩, ⟨by repeat (first | (with_reducible first | exact HB.out | apply below_alloc | apply pw_below_drewN | apply below_drew1 | refine below_set ?_ GE216.out) | exact HB.out)⟩⟩
                        · rw [if_neg c28] at H
                          exact absurd H (by simp)
                      · rw [if_neg c27] at H
                        exact absurd H (by simp)
                    · rw [if_neg c25] at H
                      have c25b0 : decide (0 < x7_1) = false := decide_eq_false c25
                      clear c25
                      have H' := Aside0.mk H
                      clear H
                      have p215 : 0 ≤ (x7_1 : Int) := of_decide_eq_true (by first | (with_reducible assumption) | assumption)
                      have q215 : x7_1 < (l0.length : Int) := of_decide_eq_true (by first | (with_reducible assumption) | assumption)
                      obtain ⟨ad215, e215, hx215_0, hx215_1, hx215_2⟩ := at_T48 HR0.out x7_1 p215 q215
                      cases e215
                      replace hx215_0 := (HB.out.cell (World.block_lt_of_cell? w _ hx215_0)).trans hx215_0
                      replace hx215_1 := (HB.out.cell (World.block_lt_of_cell? w _ hx215_1)).trans hx215_1
                      replace hx215_2 := (HB.out.cell (World.block_lt_of_cell? w _ hx215_2)).trans hx215_2
                      replace p215 := eq_true p215
                      replace q215 := eq_true q215
                      try go_wp2_with (first | ((with_reducible refine gate_dst (N := 4) rfl ?_); refine box_event ?hg (N := 4) ?hd (cs := #[.string (⟨#[]⟩ : ByteArray), .string (⟨#[]⟩ : ByteArray), .int .i64 0]) (t := 48) ?hr ?_; (case hd => rfl); (case hg => rfl); (case hr => first | (go_simp; done) | (go_simp; rfl)); intro gb216 hg w43 hbox hb; have n0_ := Aside0.mk (below_step (by repeat (first | (with_reducible first | exact HB.out | apply below_alloc | apply pw_below_drewN | apply below_drew1) | exact HB.out)) hb); have n1_ := Aside0.mk (hbox); have n2_ := Aside0.mk ((by rw [hg]; exact (below_size (by repeat (first | (with_reducible first | exact HB.out | apply below_alloc | apply pw_below_drewN | apply below_drew1) | exact HB.out))) : w.heap.size ≤ gb216)); have n3_ := Aside0.mk ((by rw [hg]; exact (below_size (by repeat (first | (with_reducible first | exact HB.out | apply below_alloc | apply pw_below_drewN | apply below_drew1) | exact HB.out))) : w.heap.size ≤ gb216)); clear HB; have HB := n0_; have BK216 := n1_; have GW216 := n2_; have GE216 := n3_; clear n0_ n1_ n2_ n3_; clear hb hbox hg; have hcz44_0 : w43.cell? ⟨gb216, 0, none⟩ = some (.string (⟨#[]⟩ : ByteArray)) := (blk_cell BK216.out 0).trans rfl; have hcz44_1 : w43.cell? ⟨gb216, 1, none⟩ = some (.string (⟨#[]⟩ : ByteArray)) := (blk_cell BK216.out 1).trans rfl; have hcz44_2 : w43.cell? ⟨gb216, 2, none⟩ = some (.int .i64 0) := (blk_cell BK216.out 2).trans rfl; have hfz44_0 := blk_frozen BK216.out 0; have hfz44_1 := blk_frozen BK216.out 1; have hfz44_2 := blk_frozen BK216.out 2))
                      have n0_ : Aside0 ((((w43.setCell ⟨gb216, 0, none⟩ (.string ((rd_T48 l0 x7_1).f0.f0))).setCell ⟨gb216, 1, none⟩ (.string ((rd_T48 l0 x7_1).f0.f1))).setCell ⟨gb216, 2, none⟩ (.int .i64 ((rd_T48 l0 x7_1).f1))).heap[gb216]? = some (.cells #[.string ((rd_T48 l0 x7_1).f0.f0), .string ((rd_T48 l0 x7_1).f0.f1), .int .i64 ((rd_T48 l0 x7_1).f1)] 48 (0, 0))) := ⟨by (with_reducible repeat (first | refine blk_drewN ?_ _ | refine blk_drew ?_ | refine blk_alloc ?_ _)); refine blk_put (cs := #[.string ((rd_T48 l0 x7_1).f0.f0), .string ((rd_T48 l0 x7_1).f0.f1), .int .i64 0]) ?_ 2 _ rfl; (with_reducible repeat (first | refine blk_drewN ?_ _ | refine blk_drew ?_ | refine blk_alloc ?_ _)); refine blk_put (cs := #[.string ((rd_T48 l0 x7_1).f0.f0), .string (⟨#[]⟩ : ByteArray), .int .i64 0]) ?_ 1 _ rfl; (with_reducible repeat (first | refine blk_drewN ?_ _ | refine blk_drew ?_ | refine blk_alloc ?_ _)); refine blk_put (cs := #[.string (⟨#[]⟩ : ByteArray), .string (⟨#[]⟩ : ByteArray), .int .i64 0]) ?_ 0 _ rfl; (with_reducible repeat (first | refine blk_drewN ?_ _ | refine blk_drew ?_ | refine blk_alloc ?_ _)); exact BK216.out⟩
                      have n1_ : Aside0 (Below w.heap.size w (((w43.setCell ⟨gb216, 0, none⟩ (.string ((rd_T48 l0 x7_1).f0.f0))).setCell ⟨gb216, 1, none⟩ (.string ((rd_T48 l0 x7_1).f0.f1))).setCell ⟨gb216, 2, none⟩ (.int .i64 ((rd_T48 l0 x7_1).f1)))) := ⟨by repeat (first | (with_reducible first | exact HB.out | apply below_alloc | apply pw_below_drewN | apply below_drew1 | refine below_set ?_ GE216.out) | exact HB.out)⟩
                      (try clear BK216)
                      (try clear HB)
                      generalize (((w43.setCell ⟨gb216, 0, none⟩ (.string ((rd_T48 l0 x7_1).f0.f0))).setCell ⟨gb216, 1, none⟩ (.string ((rd_T48 l0 x7_1).f0.f1))).setCell ⟨gb216, 2, none⟩ (.int .i64 ((rd_T48 l0 x7_1).f1))) = w45 at n0_ n1_ ⊢
                      have BK216 := n0_
                      have HB := n1_
                      clear n0_ n1_
                      have n0_ := Aside0.mk (blk_drew BK216.out)
                      have n1_ := Aside0.mk (below_drew1 HB.out)
                      clear BK216 HB
                      have BK216 := n0_
                      have HB := n1_
                      clear n0_ n1_
                      refine start_ (n := 35) (S := fun w' => w'.cell? ⟨gb216, 0, none⟩ = some (.string ((rd_T48 l0 x7_1).f0.f0)) ∧ w'.cell? ⟨gb216, 1, none⟩ = some (.string ((rd_T48 l0 x7_1).f0.f1)) ∧ w'.cell? ⟨gb216, 2, none⟩ = some (.int .i64 ((rd_T48 l0 x7_1).f1))) (ds := []) #[false, false, false, false, false, false, false, false, false, false, false, false, false, false, false, false, false, false, false, false, false, false, false, false, false, false, false, false, false, false, false, false, false, false, false] (by kernel_rfl) rfl rfl ⟨(blk_cell BK216.out 0).trans rfl, (blk_cell BK216.out 1).trans rfl, (blk_cell BK216.out 2).trans rfl⟩ (fun hHeld => ?_); refine with_tabW diff_Check.tab4 diff_Check.bits4 (fun HT_ HW_ => ?_)
                      generalize w45.drew = w46 at BK216 HB hHeld ⊢
                      refine pz_ 0 12 HT_.out ?_
                      refine tz_ 1 13 HT_.out HW_.out hHeld ?_
                      refine one_ (i := 2) (N := some 14) #[true, true, true, false, false, false, false, false, false, false, false, false, false, false, false, false, false, false, false, false, false, false, false, false, false, false, false, false, false, false, false, false, false, false, false] rfl rfl (one_of HT_.out (by kernel_rfl)) (by decide) (fun K hK => ?_)
                      refine goes_ Tryz.func45 (by kernel_rfl) rfl #[.agg #[.string ((rd_T48 l0 x7_1).f0.f0), .string ((rd_T48 l0 x7_1).f0.f1)]] (by rfl) rfl rfl (by (try simp only [List.map_toArray, List.map_cons, List.map_nil]); first | done | rfl | (simp only [List.length_drop, List.length_take]; rfl)) ?_
                      with_reducible refine (node_May.calls k1 ((rd_T48 l0 x7_1).f0.f0) ((rd_T48 l0 x7_1).f0.f1) true _ A5.out).mono ?_
                      rintro e w47 ⟨rfl, hb⟩
                      refine ⟨_, rfl, ?_⟩
                      have n0_ := Aside0.mk (blk_below (g := gb216) (o := .cells #[.string ((rd_T48 l0 x7_1).f0.f0), .string ((rd_T48 l0 x7_1).f0.f1), .int .i64 ((rd_T48 l0 x7_1).f1)] 48 (0, 0)) (by (with_reducible repeat (first | refine blk_drewN ?_ _ | refine blk_drew ?_ | refine blk_alloc ?_ _)); exact BK216.out) hb)
                      have n1_ := Aside0.mk (below_step (by repeat (first | (with_reducible first | exact HB.out | apply below_alloc | apply pw_below_drewN | apply below_drew1 | refine below_set ?_ GE216.out) | exact HB.out)) hb)
                      clear BK216 HB
                      have BK216 := n0_
                      have HB := n1_
                      clear n0_ n1_
                      (try clear hb)
                      (try clear hb2)
                      (try clear hk)
                      (try clear hi)
                      refine hK.out _ _ ⟨(blk_cell BK216.out 0).trans rfl, (blk_cell BK216.out 1).trans rfl, (blk_cell BK216.out 2).trans rfl⟩ (fun hHeld => ?_)
                      clear hK K
                      refine nz_ 14 ?_
                      refine pz_ 3 15 HT_.out ?_
                      refine pz_ 4 16 HT_.out ?_
                      refine pz_ 5 17 HT_.out ?_
                      refine tz_ 6 18 HT_.out HW_.out hHeld ?_
                      refine pz_ 7 19 HT_.out ?_
                      refine pz_ 8 20 HT_.out ?_
                      refine pz_ 9 21 HT_.out ?_
                      refine pz_ 10 22 HT_.out ?_
                      refine tz_ 11 23 HT_.out HW_.out hHeld ?_
                      refine pz_ 12 24 HT_.out ?_
                      refine pz_ 13 25 HT_.out ?_
                      refine pz_ 14 26 HT_.out ?_
                      refine pz_ 15 27 HT_.out ?_
                      refine tz_ 16 28 HT_.out HW_.out hHeld ?_
                      refine pz_ 17 29 HT_.out ?_
                      refine pz_ 18 30 HT_.out ?_
                      refine pz_ 19 31 HT_.out ?_
                      refine pz_ 20 32 HT_.out ?_
                      refine pz_ 21 33 HT_.out ?_
                      refine pz_ 22 34 HT_.out ?_
                      refine pu_ 23 35 HT_.out ?_
                      refine pu_ 24 36 HT_.out ?_
                      refine pu_ 25 37 HT_.out ?_
                      refine pu_ 26 38 HT_.out ?_
                      refine pu_ 27 39 HT_.out ?_
                      refine pu_ 28 40 HT_.out ?_
                      refine pu_ 29 41 HT_.out ?_
                      refine pu_ 30 42 HT_.out ?_
                      refine pu_ 31 43 HT_.out ?_
                      refine pu_ 32 44 HT_.out ?_
                      refine pz_ 33 45 HT_.out ?_
                      refine pz_ 34 46 HT_.out ?_
                      refine done_ (done_of HT_.out (by kernel_rfl)) ?_
                      try go_wp2
                      go_roundg k1
                      case measure => have := HK1.out; omega
                      case rel => exact ⟨(wrap64 (x7_1 + 1)), (by first | rfl | (simp; done) | (simp [*]; done)), H', ⟨by have := HK1.out; omega⟩, ⟨by repeat (first | (with_reducible first | exact HB.out | apply below_alloc | apply pw_below_drewN | apply below_drew1 | refine below_set ?_ GE216.out) | exact HB.out)⟩⟩
            · replace c6 := Bool.eq_false_iff.mpr c6
              subst c6
              have H1 : (some 1) = some r := by rw [if_neg (show ¬ (false = true) by decide)] at H; exact H
              clear H
              have H := H1
              clear H1
              obtain rfl := Option.some.inj H
              have p215 : 0 ≤ (x7_1 : Int) := of_decide_eq_true (by first | (with_reducible assumption) | assumption)
              have q215 : x7_1 < (l0.length : Int) := of_decide_eq_true (by first | (with_reducible assumption) | assumption)
              obtain ⟨ad215, e215, hx215_0, hx215_1, hx215_2⟩ := at_T48 HR0.out x7_1 p215 q215
              cases e215
              replace hx215_0 := (HB.out.cell (World.block_lt_of_cell? w _ hx215_0)).trans hx215_0
              replace hx215_1 := (HB.out.cell (World.block_lt_of_cell? w _ hx215_1)).trans hx215_1
              replace hx215_2 := (HB.out.cell (World.block_lt_of_cell? w _ hx215_2)).trans hx215_2
              replace p215 := eq_true p215
              replace q215 := eq_true q215
              try go_wp2_with (first | ((with_reducible refine gate_dst (N := 4) rfl ?_); refine box_event ?hg (N := 4) ?hd (cs := #[.string (⟨#[]⟩ : ByteArray), .string (⟨#[]⟩ : ByteArray), .int .i64 0]) (t := 48) ?hr ?_; (case hd => rfl); (case hg => rfl); (case hr => first | (go_simp; done) | (go_simp; rfl)); intro gb216 hg w48 hbox hb; have n0_ := Aside0.mk (below_step (by repeat (first | (with_reducible first | exact HB.out | apply below_alloc | apply pw_below_drewN | apply below_drew1) | exact HB.out)) hb); have n1_ := Aside0.mk (hbox); have n2_ := Aside0.mk ((by rw [hg]; exact (below_size (by repeat (first | (with_reducible first | exact HB.out | apply below_alloc | apply pw_below_drewN | apply below_drew1) | exact HB.out))) : w.heap.size ≤ gb216)); have n3_ := Aside0.mk ((by rw [hg]; exact (below_size (by repeat (first | (with_reducible first | exact HB.out | apply below_alloc | apply pw_below_drewN | apply below_drew1) | exact HB.out))) : w.heap.size ≤ gb216)); clear HB; have HB := n0_; have BK216 := n1_; have GW216 := n2_; have GE216 := n3_; clear n0_ n1_ n2_ n3_; clear hb hbox hg; have hcz49_0 : w48.cell? ⟨gb216, 0, none⟩ = some (.string (⟨#[]⟩ : ByteArray)) := (blk_cell BK216.out 0).trans rfl; have hcz49_1 : w48.cell? ⟨gb216, 1, none⟩ = some (.string (⟨#[]⟩ : ByteArray)) := (blk_cell BK216.out 1).trans rfl; have hcz49_2 : w48.cell? ⟨gb216, 2, none⟩ = some (.int .i64 0) := (blk_cell BK216.out 2).trans rfl; have hfz49_0 := blk_frozen BK216.out 0; have hfz49_1 := blk_frozen BK216.out 1; have hfz49_2 := blk_frozen BK216.out 2))
              have n0_ : Aside0 ((((w48.setCell ⟨gb216, 0, none⟩ (.string ((rd_T48 l0 x7_1).f0.f0))).setCell ⟨gb216, 1, none⟩ (.string ((rd_T48 l0 x7_1).f0.f1))).setCell ⟨gb216, 2, none⟩ (.int .i64 ((rd_T48 l0 x7_1).f1))).heap[gb216]? = some (.cells #[.string ((rd_T48 l0 x7_1).f0.f0), .string ((rd_T48 l0 x7_1).f0.f1), .int .i64 ((rd_T48 l0 x7_1).f1)] 48 (0, 0))) := ⟨by (with_reducible repeat (first | refine blk_drewN ?_ _ | refine blk_drew ?_ | refine blk_alloc ?_ _)); refine blk_put (cs := #[.string ((rd_T48 l0 x7_1).f0.f0), .string ((rd_T48 l0 x7_1).f0.f1), .int .i64 0]) ?_ 2 _ rfl; (with_reducible repeat (first | refine blk_drewN ?_ _ | refine blk_drew ?_ | refine blk_alloc ?_ _)); refine blk_put (cs := #[.string ((rd_T48 l0 x7_1).f0.f0), .string (⟨#[]⟩ : ByteArray), .int .i64 0]) ?_ 1 _ rfl; (with_reducible repeat (first | refine blk_drewN ?_ _ | refine blk_drew ?_ | refine blk_alloc ?_ _)); refine blk_put (cs := #[.string (⟨#[]⟩ : ByteArray), .string (⟨#[]⟩ : ByteArray), .int .i64 0]) ?_ 0 _ rfl; (with_reducible repeat (first | refine blk_drewN ?_ _ | refine blk_drew ?_ | refine blk_alloc ?_ _)); exact BK216.out⟩
              have n1_ : Aside0 (Below w.heap.size w (((w48.setCell ⟨gb216, 0, none⟩ (.string ((rd_T48 l0 x7_1).f0.f0))).setCell ⟨gb216, 1, none⟩ (.string ((rd_T48 l0 x7_1).f0.f1))).setCell ⟨gb216, 2, none⟩ (.int .i64 ((rd_T48 l0 x7_1).f1)))) := ⟨by repeat (first | (with_reducible first | exact HB.out | apply below_alloc | apply pw_below_drewN | apply below_drew1 | refine below_set ?_ GE216.out) | exact HB.out)⟩
              (try clear BK216)
              (try clear HB)
              generalize (((w48.setCell ⟨gb216, 0, none⟩ (.string ((rd_T48 l0 x7_1).f0.f0))).setCell ⟨gb216, 1, none⟩ (.string ((rd_T48 l0 x7_1).f0.f1))).setCell ⟨gb216, 2, none⟩ (.int .i64 ((rd_T48 l0 x7_1).f1))) = w50 at n0_ n1_ ⊢
              have BK216 := n0_
              have HB := n1_
              clear n0_ n1_
              have n0_ := Aside0.mk (blk_drew BK216.out)
              have n1_ := Aside0.mk (below_drew1 HB.out)
              clear BK216 HB
              have BK216 := n0_
              have HB := n1_
              clear n0_ n1_
              refine start_ (n := 35) (S := fun w' => w'.cell? ⟨gb216, 0, none⟩ = some (.string ((rd_T48 l0 x7_1).f0.f0)) ∧ w'.cell? ⟨gb216, 1, none⟩ = some (.string ((rd_T48 l0 x7_1).f0.f1)) ∧ w'.cell? ⟨gb216, 2, none⟩ = some (.int .i64 ((rd_T48 l0 x7_1).f1))) (ds := []) #[false, false, false, false, false, false, false, false, false, false, false, false, false, false, false, false, false, false, false, false, false, false, false, false, false, false, false, false, false, false, false, false, false, false, false] (by kernel_rfl) rfl rfl ⟨(blk_cell BK216.out 0).trans rfl, (blk_cell BK216.out 1).trans rfl, (blk_cell BK216.out 2).trans rfl⟩ (fun hHeld => ?_); refine with_tabW diff_Check.tab4 diff_Check.bits4 (fun HT_ HW_ => ?_)
              generalize w50.drew = w51 at BK216 HB hHeld ⊢
              refine pz_ 0 12 HT_.out ?_
              refine tz_ 1 13 HT_.out HW_.out hHeld ?_
              refine one_ (i := 2) (N := some 14) #[true, true, true, false, false, false, false, false, false, false, false, false, false, false, false, false, false, false, false, false, false, false, false, false, false, false, false, false, false, false, false, false, false, false, false] rfl rfl (one_of HT_.out (by kernel_rfl)) (by decide) (fun K hK => ?_)
              refine goes_ Tryz.func45 (by kernel_rfl) rfl #[.agg #[.string ((rd_T48 l0 x7_1).f0.f0), .string ((rd_T48 l0 x7_1).f0.f1)]] (by rfl) rfl rfl (by (try simp only [List.map_toArray, List.map_cons, List.map_nil]); first | done | rfl | (simp only [List.length_drop, List.length_take]; rfl)) ?_
              with_reducible refine (node_May.calls k1 ((rd_T48 l0 x7_1).f0.f0) ((rd_T48 l0 x7_1).f0.f1) false _ A5.out).mono ?_
              rintro e w52 ⟨rfl, hb⟩
              refine ⟨_, rfl, ?_⟩
              have n0_ := Aside0.mk (blk_below (g := gb216) (o := .cells #[.string ((rd_T48 l0 x7_1).f0.f0), .string ((rd_T48 l0 x7_1).f0.f1), .int .i64 ((rd_T48 l0 x7_1).f1)] 48 (0, 0)) (by (with_reducible repeat (first | refine blk_drewN ?_ _ | refine blk_drew ?_ | refine blk_alloc ?_ _)); exact BK216.out) hb)
              have n1_ := Aside0.mk (below_step (by repeat (first | (with_reducible first | exact HB.out | apply below_alloc | apply pw_below_drewN | apply below_drew1 | refine below_set ?_ GE216.out) | exact HB.out)) hb)
              clear BK216 HB
              have BK216 := n0_
              have HB := n1_
              clear n0_ n1_
              (try clear hb)
              (try clear hb2)
              (try clear hk)
              (try clear hi)
              refine hK.out _ _ ⟨(blk_cell BK216.out 0).trans rfl, (blk_cell BK216.out 1).trans rfl, (blk_cell BK216.out 2).trans rfl⟩ (fun hHeld => ?_)
              clear hK K
              refine nz_ 14 ?_
              refine pz_ 3 15 HT_.out ?_
              refine pz_ 4 16 HT_.out ?_
              refine pu_ 5 17 HT_.out ?_
              refine pu_ 6 18 HT_.out ?_
              refine pu_ 7 19 HT_.out ?_
              refine pz_ 8 20 HT_.out ?_
              refine pz_ 9 21 HT_.out ?_
              refine pu_ 10 22 HT_.out ?_
              refine pu_ 11 23 HT_.out ?_
              refine pu_ 12 24 HT_.out ?_
              refine pz_ 13 25 HT_.out ?_
              refine pz_ 14 26 HT_.out ?_
              refine pu_ 15 27 HT_.out ?_
              refine pu_ 16 28 HT_.out ?_
              refine pu_ 17 29 HT_.out ?_
              refine pz_ 18 30 HT_.out ?_
              refine pz_ 19 31 HT_.out ?_
              refine pu_ 20 32 HT_.out ?_
              refine pu_ 21 33 HT_.out ?_
              refine pu_ 22 34 HT_.out ?_
              refine pu_ 23 35 HT_.out ?_
              refine pu_ 24 36 HT_.out ?_
              refine pu_ 25 37 HT_.out ?_
              refine pu_ 26 38 HT_.out ?_
              refine pu_ 27 39 HT_.out ?_
              refine pu_ 28 40 HT_.out ?_
              refine pu_ 29 41 HT_.out ?_
              refine pu_ 30 42 HT_.out ?_
              refine pu_ 31 43 HT_.out ?_
              refine pu_ 32 44 HT_.out ?_
              refine pu_ 33 45 HT_.out ?_
              refine pz_ 34 46 HT_.out ?_
              refine done_ (done_of HT_.out (by kernel_rfl)) ?_
              try go_wp2
              go_ret
              exact ⟨by first | rfl | (simp [errW_none, errW_some] <;> rfl) | (simp [*, errW_none, errW_some] <;> rfl), by repeat (first | (with_reducible first | exact HB.out | apply below_alloc | apply pw_below_drewN | apply below_drew1 | refine below_set ?_ GE216.out) | exact HB.out)⟩
          · rw [if_neg c4] at H
            exact absurd H (by simp)
        · rw [if_neg c3] at H
          exact absurd H (by simp)
      · rw [if_neg c2] at H
        have c2b0 : decide (x7_1 < (l0.length : Int)) = false := decide_eq_false c2
        clear c2
        obtain rfl := Option.some.inj H
        go_wp2
        go_ret
        exact ⟨by first | rfl | (simp [errW_none, errW_some] <;> rfl) | (simp [*, errW_none, errW_some] <;> rfl), by repeat (first | (with_reducible first | exact HB.out | apply below_alloc | apply pw_below_drewN | apply below_drew1) | exact HB.out)⟩
end Go.Proofs.YtohdmmafjpjmfaaGreatDoor.Q
end
section
namespace Go.Proofs.YtohdmmafjpjmfaaGreatDoor.Q
open Go.Proofs.YtohdmmafjpjmfaaGreatDoor.QB.D
open Go Go.RowKit Go.Lib Go.Proofs.YtohdmmafjpjmfaaGreatDoorW.PrintWords Go.Proofs.YtohdmmafjpjmfaaGreatDoorW.PrintLast Go.Proofs.YtohdmmafjpjmfaaGreatDoorW.PrintMore Gw
set_option linter.unusedVariables false
set_option linter.unusedSimpArgs false
abbrev GoodN (x : S34) : Prop := Tiny x.f0 ∧ Tiny x.f1 ∧ isVersion (bs x.f1) = true
def np (x : S34) : NP := (bs x.f0, bs x.f1)
theorem np_inj {x y : S34} (h : np x = np y) : x = y := by
  cases x; cases y
  simp only [np, Prod.mk.injEq] at h
  rw [bs_inj h.1, bs_inj h.2]
def ordN (x y : S34) : Int := nodC (np x) (np y)
theorem ordN_to : TO GoodN ordN := by
  have h := nodC_to
  refine ⟨fun a b => h.tri _ _, fun a b ha hb => h.sym _ _ ha.2.2 hb.2.2, fun a b ha hb => ?_, fun a b d ha hb hd => h.tr _ _ _ ha.2.2 hb.2.2 hd.2.2⟩
  show nodC _ _ = 0 ↔ _
  rw [h.eq _ _ ha.2.2 hb.2.2]
  exact ⟨np_inj, fun e => by rw [e]⟩
theorem vparts_of {s : ByteArray} (h : isVersion (bs s) = true) : vparts (bs s) = some (vOf (bs s)) := by
  rw [← vparts_some] at h
  obtain ⟨v, hv⟩ := Option.isSome_iff_exists.1 h
  unfold vOf
  rw [hv]
  rfl
instance : DecidableEq S34 := fun a b => if h : a.f0 = b.f0 ∧ a.f1 = b.f1 then isTrue (by cases a; cases b; simp at h; rw [h.1, h.2]) else isFalse (fun e => h (by subst e; exact ⟨rfl, rfl⟩))
abbrev TinyN (x : S34) : Prop := Tiny x.f0 ∧ Tiny x.f1
def mayN (x : S34) : Bool := isNode (np x)
theorem mayN_good {x : S34} (hx : TinyN x) (hm : mayN x = true) : GoodN x := by
  unfold mayN isNode np at hm
  rw [Bool.and_eq_true] at hm
  exact ⟨hx.1, hx.2, hm.2⟩
def few (s : ByteArray) : ByteArray := if (s.size : Int) > 400 then s.extract 0 400 else s
theorem few_size (s : ByteArray) : (few s).size ≤ 400 := by
  unfold few
  split
  · rw [ByteArray.size_extract]; omega
  · omega
abbrev Brief (x : S34) : Prop := x.f0.size ≤ 400 ∧ x.f1.size ≤ 400
theorem Brief.tiny {x : S34} (h : Brief x) : TinyN x := by unfold TinyN Tiny; omega
def oneN (x : S34) : S34 := ⟨few x.f0, few x.f1⟩
theorem oneN_brief (x : S34) : Brief (oneN x) := ⟨few_size _, few_size _⟩
theorem rd_nat {l : List S34} {i : Nat} (hi : i < l.length) : rd_T34 l (i : Int) = l[i] := by simp [rd_T34, List.getD_eq_getElem?_getD, List.getElem?_eq_getElem hi]
theorem elements_from (s : ByteArray) (hs : Tiny s) : ∀ (k i : Nat), ((parts 47 (bs s)).map ofB).length ≤ i + k → i ≤ ((parts 47 (bs s)).map ofB).length →
    path_Elements.l0 (k + 1) ((parts 47 (bs s)).map ofB) ((parts 47 (bs s)).map ofB) (((parts 47 (bs s)).map ofB).length : Int) (i : Int) = some (if ((parts 47 (bs s)).drop i).all isElem then ((parts 47 (bs s)).map ofB, 0) else ([], 1)) := by
  have hsm : Small s := by unfold Tiny at hs; unfold Small; omega
  obtain ⟨hl, hx⟩ := parts_small hsm 47
  have hlen : ((parts 47 (bs s)).map ofB).length = (parts 47 (bs s)).length := List.length_map _
  have hall : ∀ (i : Nat) (hi : i < (parts 47 (bs s)).length), path_element.f (((parts 47 (bs s)).map ofB)[i]'(by rw [hlen]; exact hi)) = some (isElem (parts 47 (bs s))[i]) := by
    intro i hi
    have h2 := hx (((parts 47 (bs s)).map ofB)[i]'(by rw [hlen]; exact hi)) (List.getElem_mem _)
    unfold path_element.f
    rw [if_pos (by unfold Tiny at *; omega), List.getElem_map, bs_ofB (parts_oct (bs_oct s) _ (List.getElem_mem hi))]
  intro k
  induction k with
  | zero =>
    intro i h1 h2
    have e : i = (parts 47 (bs s)).length := by omega
    subst e
    unfold path_Elements.l0
    rw [if_neg (by omega), List.drop_length]
    rfl
  | succ k ih =>
    intro i h1 h2
    unfold path_Elements.l0
    by_cases hi : i < (parts 47 (bs s)).length
    · rw [if_pos (by omega), if_pos (by omega), if_pos (by omega)]
      have hr : rdOf ByteArray.empty ((parts 47 (bs s)).map ofB) (i : Int) = ((parts 47 (bs s)).map ofB)[i]'(by rw [hlen]; exact hi) := by
        simp [rdOf, List.getD_eq_getElem?_getD, List.getElem?_eq_getElem hi]
      rw [hr, hall i hi, List.drop_eq_getElem_cons hi, List.all_cons, Option.bind_some]
      cases he : isElem (parts 47 (bs s))[i]
      · rfl
      · rw [if_pos rfl, Bool.true_and, show wrap64 ((i : Int) + 1) = ((i + 1 : Nat) : Int) by unfold wrap64; unfold Tiny at hs; omega]
        exact ih (i + 1) (by omega) (by omega)
    · have e : i = (parts 47 (bs s)).length := by omega
      rw [if_neg (by omega), List.drop_eq_nil_of_le (by omega)]
      rfl
theorem path_May_val (k : Nat) (s : ByteArray) (hs : Tiny s) (hk : s.size + 2 ≤ k) : path_May.f k s = some (isPath (bs s)) := by
  obtain ⟨j, rfl⟩ : ∃ j, k = j + 1 := ⟨k - 1, by omega⟩
  have hl := parts_len s 47
  unfold path_May.f path_Elements.f octet_Parts.f
  rw [if_pos ⟨hs, by decide, by decide⟩, Option.bind_some]
  have h := elements_from s hs j 0 (by omega) (Nat.zero_le _)
  rw [show (47 : Int).toNat = 47 from rfl, show ((0 : Nat) : Int) = 0 from rfl] at *
  rw [h, Option.bind_some, List.drop_zero]
  unfold isPath
  cases (parts 47 (bs s)).all isElem <;> rfl
theorem version_May_val (s : ByteArray) (hs : Tiny s) : version_May.f s = some (isVersion (bs s)) := by
  unfold version_May.f version_Split.f
  rw [if_pos hs, Option.bind_some, ← vparts_some]
  cases vparts (bs s) <;> rfl
theorem node_May_val (k : Nat) (x : S34) (hx : TinyN x) (hk : x.f0.size + 2 ≤ k) : node_May.f k x.f0 x.f1 = some (mayN x) := by
  unfold node_May.f
  rw [path_May_val k _ hx.1 hk, version_May_val _ hx.2]
  show _ = some (isPath (bs x.f0) && isVersion (bs x.f1))
  cases isPath (bs x.f0) <;> rfl
theorem order_val (k : Nat) (x y : S34) (hx : GoodN x) (hy : GoodN y) : node_order.f (k + 3) x.f0 x.f1 y.f0 y.f1 = some (ordN x y) := by
  unfold node_order.f
  by_cases h : (x.f0.toList == y.f0.toList && x.f1.toList == y.f1.toList) = true
  · rw [if_pos h]
    rw [str_eq, str_eq, Bool.and_eq_true, decide_eq_true_eq, decide_eq_true_eq] at h
    have e : x = y := by cases x; cases y; simp only at h; rw [h.1, h.2]
    subst e
    exact congrArg some ((ordN_to.eq x x hx hx).2 rfl).symm
  · rw [if_neg h]
    have hv : version_Cmp.f x.f1 y.f1 = some (verC (vOf (bs x.f1)) (vOf (bs y.f1)), 0) := by
      unfold version_Cmp.f
      rw [if_pos ⟨hx.2.1, hy.2.1⟩, vparts_of hx.2.2, vparts_of hy.2.2]
      rfl
    rw [hv, octcmp_val]
    simp only [Option.bind_some]
    rw [or2_val]
    rfl
def insN (x : S34) : List S34 → List S34
  | [] => [x]
  | y :: r => if ordN x y ≤ 0 then x :: y :: r else y :: insN x r
def sortN (l : List S34) : List S34 := l.foldr insN []
theorem insN_perm (x : S34) : ∀ l, (insN x l).Perm (x :: l)
  | [] => List.Perm.refl _
  | y :: r => by
    unfold insN
    split
    · exact List.Perm.refl _
    · exact ((insN_perm x r).cons y).trans (List.Perm.swap x y r)
theorem sortN_perm : ∀ l, (sortN l).Perm l
  | [] => List.Perm.refl _
  | x :: l => (insN_perm x _).trans ((sortN_perm l).cons x)
theorem insN_sorted (x : S34) (hx : GoodN x) : ∀ l, (∀ y ∈ l, GoodN y) → l.Pairwise (fun x y => ordN x y ≤ 0) → (insN x l).Pairwise (fun x y => ordN x y ≤ 0)
  | [], _, _ => List.pairwise_singleton _ _
  | y :: r, hg, hp => by
    have gy := hg y List.mem_cons_self
    rw [List.pairwise_cons] at hp
    unfold insN
    split
    · rename_i h
      refine List.pairwise_cons.2 ⟨fun z hz => ?_, List.pairwise_cons.2 hp⟩
      rcases List.mem_cons.1 hz with rfl | hz
      · exact h
      · exact (ordN_to.le x y z hx gy (hg z (List.mem_cons_of_mem _ hz)) h (hp.1 z hz)).1
    · rename_i h
      refine List.pairwise_cons.2 ⟨fun z hz => ?_, insN_sorted x hx r (fun z hz => hg z (List.mem_cons_of_mem _ hz)) hp.2⟩
      rcases List.mem_cons.1 ((insN_perm x r).mem_iff.1 hz) with rfl | hz
      · have := ordN_to.sym z y hx gy
        omega
      · exact hp.1 z hz
theorem sortN_sorted : ∀ l, (∀ y ∈ l, GoodN y) → (sortN l).Pairwise (fun x y => ordN x y ≤ 0)
  | [], _ => List.Pairwise.nil
  | x :: l, hg => insN_sorted x (hg x List.mem_cons_self) _ (fun y hy => hg y (List.mem_cons_of_mem _ ((sortN_perm l).mem_iff.1 hy))) (sortN_sorted l (fun y hy => hg y (List.mem_cons_of_mem _ hy)))
def chk : Option S34 → List S34 → Bool
  | _, [] => true
  | p, x :: r => mayN x && (match p with | none => true | some q => decide (ordN q x < 0)) && chk (some x) r
def checkN (l : List S34) : Bool := chk none l
def ahead (l : List S34) (t : S34) : Nat := (l.filter (fun x => decide (ordN x t < 0))).length
end Go.Proofs.YtohdmmafjpjmfaaGreatDoor.Q
end
