/- Part 10 of this claim: several texts one behind the other: Fgraftwoodref18Of, Fgraftwoodlaw18LackTells. What each shows stands in its theorems; conditions: sizes of texts and lists, as the functions' definitions say. -/
import Derived.Test.YtffcbfclpfchnaaGreatDoorMLackTells0
import Derived.Test.YtffcbfclpfchnaaGreatDoorMLackTells2
import Derived.Test.YtffcbfclpfchnaaGreatDoorMLackTells9
import Derived.Test.YtffcbfclpfchnaaGreatDoorMLackTells1
import Derived.Test.YtffcbfclpfchnaaGreatDoorMLackTells7
import Derived.Test.YtffcbfclpfchnaaGreatDoorMLackTells8
import Derived.Test.YtffcbfclpfchnaaGreatDoorMLackTells5
section
namespace Go.Proofs.YtffcbfclpfchnaaGreatDoor.Q
open Go.RowKit Go.Proofs.YtffcbfclpfchnaaGreatDoorW.PrintWords Go.Proofs.YtffcbfclpfchnaaGreatDoorW.PrintLast Go.Proofs.YtffcbfclpfchnaaGreatDoorW.PrintMore
attribute [local go_sem] max2_int min2_int max_two min_two max_three min_three max_four min_four   -- for this text's walks alone
set_option linter.unusedVariables false
set_option linter.unusedSimpArgs false
/-! ### graftwoodref18_Of: function 16 -/
mutual
def graftwoodref18_Of.l0 : Nat → List (S42) → List (S42) → List (S51) → List (S55) → Int → Option ((List (S55)))
 | 0, _, _, _, _, _ => none
 | k + 1, x0, x1, x2, x7, x8 => if x8 < (x0.length : Int) then (if 0 ≤ x8 then ((graftwoodref05_Has.f k x1 ((rd_T42 x0 x8).f0) ((rd_T42 x0 x8).f1)).bind fun t311 => (if t311 = true then (graftwoodref18_Of.l0 k x0 x1 x2 x7 (wrap64 (x8 + 1))) else ((graftwoodref18_By.f k x2 ((rd_T42 x0 x8).f0) ((rd_T42 x0 x8).f1)).bind fun bt315 => (graftwoodref18_Of.l1 k x0 x1 x2 x7 x8 bt315.1 0 ((rd_T42 x0 x8).f0) ((rd_T42 x0 x8).f1) ([] : List (S42)) bt315.2)))) else (none)) else (some x7)
def graftwoodref18_Of.l1 : Nat → List (S42) → List (S42) → List (S51) → List (S55) → Int → List (S42) → Int → ByteArray → ByteArray → List (S42) → Bool → Option ((List (S55)))
 | 0, _, _, _, _, _, _, _, _, _, _, _ => none
 | k + 1, x0, x1, x2, x7, x8, x10, x12, x314000, x314001, x314002, x314003 => if x12 < (x10.length : Int) then (if 0 ≤ x12 then ((graftwoodref05_Has.f k x0 ((rd_T42 x10 x12).f0) ((rd_T42 x10 x12).f1)).bind fun t320 => (if t320 = true then (if x314002.length < 4398046511104 then (graftwoodref18_Of.l1 k x0 x1 x2 x7 x8 x10 (wrap64 (x12 + 1)) x314000 x314001 (x314002 ++ [(⟨(rd_T42 x10 x12).f0, (rd_T42 x10 x12).f1⟩ : S42)]) x314003) else (none)) else (graftwoodref18_Of.l1 k x0 x1 x2 x7 x8 x10 (wrap64 (x12 + 1)) x314000 x314001 x314002 x314003))) else (none)) else (if x7.length < 2199023255552 then (graftwoodref18_Of.l0 k x0 x1 x2 (x7 ++ [(⟨(⟨x314000, x314001⟩ : S42), x314002, x314003⟩ : S55)]) (wrap64 (x8 + 1))) else (none))
end
def graftwoodref18_Of.f (k : Nat) (l0 : List (S42)) (l1 : List (S42)) (l2 : List (S51)) : Option ((List (S55))) := graftwoodref18_Of.l0 k l0 l1 l2 ([] : List (S55)) 0
def graftwoodref18_Of.T13 : Bool × List (List Nat × List Nat) := (true, [([], []), ([0], [0]), ([], []), ([], []), ([2, 3], [2, 3]), ([4], [4]), ([5], [5]), ([1, 6], [1, 6]), ([0, 1, 2, 3, 4, 5, 6, 7], []), ([8, 7, 7, 0, 1, 2, 3, 4, 5, 6, 7], [7, 8])])
def graftwoodref18_Of.B13 : List Nat := [0, 1, 0, 0, 12, 28, 60, 127, 255, 511]
theorem graftwoodref18_Of.tab13 : rtab .any (opsOf Tryz.f16 13) = graftwoodref18_Of.T13 := by kernel_rfl
theorem graftwoodref18_Of.bits13 : waitsOk graftwoodref18_Of.T13.2 graftwoodref18_Of.B13 = true := by kernel_rfl
set_option maxHeartbeats 8000000 in
set_option maxRecDepth 100000 in
theorem graftwoodref18_Of.calls (k : Nat) (A0 : Option Addr) (c0 : Nat) (l0 : List (S42)) (A1 : Option Addr) (c1 : Nat) (l1 : List (S42)) (A2 : Option Addr) (c2 : Nat) (l2 : List (S51)) (r : List (S55)) (w : World) (hr0 : Kd.C k42 w A0 l0.length l0) (hc0 : l0.length ≤ c0) (hr1 : Kd.C k42 w A1 l1.length l1) (hc1 : l1.length ≤ c1) (hr2 : Kd.C k51 w A2 l2.length l2) (hc2 : l2.length ≤ c2) (h : graftwoodref18_Of.f k l0 l1 l2 = some r) :
  Calls Tryz.prog 16 #[.slice A0 l0.length c0, .slice A1 l1.length c1, .slice A2 l2.length c2] w fun e w' => ∃ v0_ : Value, e = .returned (v0_) ∧ Kd.S k55 55 w' w.heap.size (fun _ => True) v0_ r ∧ Below w.heap.size w w' := by
 have hu42 := Tryz.underlying42
 have hu55 := Tryz.underlying55
 have HR0 := Aside0.mk hr0
 have HC0 := Aside0.mk hc0
 clear hr0 hc0
 have HR1 := Aside0.mk hr1
 have HC1 := Aside0.mk hc1
 clear hr1 hc1
 have HR2 := Aside0.mk hr2
 have HC2 := Aside0.mk hc2
 clear hr2 hc2
 have HB := Aside0.mk (Below.refl w.heap.size w)
 have H : (graftwoodref18_Of.l0 k l0 l1 l2 ([] : List (S55)) 0) = some r := h
 clear h
 have H' := Aside0.mk H
 clear H
 go_enter Tryz.func16, Tryz.ntmps16
 go_wp2
 go_loopg [7, 8] k (fun kq v7 v8 w' => ∃ (x7_1 : List (S55)) (x8_1 : Int), v8 = .int .i64 x8_1 ∧ Aside0 (graftwoodref18_Of.l0 kq l0 l1 l2 x7_1 x8_1 = some r) ∧ Aside0 (kq ≤ k) ∧ Aside0 (Kd.S k55 55 w' w.heap.size (fun _ => True) v7 x7_1) ∧ Aside0 (Below w.heap.size w w'))
 case atStart => exact ⟨(([] : List (S55))), (0), (by first | rfl | (simp; done) | (simp [*]; done)), H', ⟨Nat.le_refl _⟩, ⟨by first | exact Kd.S_nil _ _ _ _ _ | exact Kd.N_nil _ _ _ _ _ | exact Kd.V_nil _ _ _ _ _ | exact Kd.Q_nil _ _ _ _ _ | exact Kd.R_nil _ _ _ _ _⟩, ⟨by repeat (first | (with_reducible first | exact HB.out | apply below_alloc | apply pw_below_drewN | apply below_drew1) | exact HB.out)⟩⟩
 case round =>
  clear H'
  try clear c1
  try clear c2
  try clear p2
  obtain ⟨x7_1, x8_1, rfl, HA, HK1, HO_7, HB⟩ := hrel
  cases gk with
  | zero => exact absurd HA.out (by simp [graftwoodref18_Of.l0])
  | succ k1 =>
   have H := HA.out
   clear HA
   simp only [graftwoodref18_Of.l0] at H
   by_cases c4 : x8_1 < (l0.length : Int)
   ·rw [if_pos c4] at H
    have c4b0 : decide (x8_1 < (l0.length : Int)) = true := decide_eq_true c4
    clear c4
    by_cases c5 : 0 ≤ x8_1
    ·rw [if_pos c5] at H
     have c5b0 : decide (0 ≤ x8_1) = true := decide_eq_true c5
     clear c5
     replace H := Option.bind_eq_some_iff.mp H
     obtain ⟨t311, A60, H⟩ := H
     replace H : (if t311 = true then (graftwoodref18_Of.l0 k1 l0 l1 l2 x7_1 (wrap64 (x8_1 + 1))) else ((graftwoodref18_By.f k1 l2 ((rd_T42 l0 x8_1).f0) ((rd_T42 l0 x8_1).f1)).bind fun bt315 => (graftwoodref18_Of.l1 k1 l0 l1 l2 x7_1 x8_1 bt315.1 0 ((rd_T42 l0 x8_1).f0) ((rd_T42 l0 x8_1).f1) ([] : List (S42)) bt315.2))) = some r := H
     have A6 := Aside0.mk A60
     clear A60
     by_cases c7 : t311 = true
     ·subst c7
      have H1 : (graftwoodref18_Of.l0 k1 l0 l1 l2 x7_1 (wrap64 (x8_1 + 1))) = some r := by rw [if_pos rfl] at H; exact H
      clear H
      have H := H1
      clear H1
      have H' := Aside0.mk H
      clear H
      have p310 : 0 ≤ (x8_1 : Int) := of_decide_eq_true (by first | (with_reducible assumption) | assumption)
      have q310 : x8_1 < (l0.length : Int) := of_decide_eq_true (by first | (with_reducible assumption) | assumption)
      obtain ⟨ad310, e310, hx310_0, hx310_1⟩ := at_T42 HR0.out x8_1 p310 q310
      cases e310
      replace hx310_0 := (HB.out.cell (World.block_lt_of_cell? w _ hx310_0)).trans hx310_0
      replace hx310_1 := (HB.out.cell (World.block_lt_of_cell? w _ hx310_1)).trans hx310_1
      replace p310 := eq_true p310
      replace q310 := eq_true q310
      go_wp2_with (first | ((with_reducible refine gate_callee (f := 29) rfl ?_); refine goesL_ (some 24) rfl rfl Tryz.func29 (by kernel_rfl) rfl #[.slice A1 l1.length c1, .agg #[.string ((rd_T42 l0 x8_1).f0), .string ((rd_T42 l0 x8_1).f1)]] rfl (by (try simp only [List.map_toArray, List.map_cons, List.map_nil]); first | done | rfl | (simp only [List.length_drop, List.length_take]; rfl)) ?_; (with_reducible refine (graftwoodref05_Has.calls k1 _ _ l1 ((rd_T42 l0 x8_1).f0) ((rd_T42 l0 x8_1).f1) true _ ?side1 ?side2 A6.out).mono ?_); (case side1 => repeat (first | exact (Kd.C_below HR1.out HB.out) | (with_reducible refine Kd.C_alloc ?_ _) | (with_reducible refine Kd.C_drewN ?_ _) | (with_reducible refine Kd.C_drew ?_))); (case side2 => exact HC1.out); rintro e w8 ⟨rfl, hb⟩; refine ⟨_, rfl, ?_⟩; have n0_ := Aside0.mk (Kd.S_below (by (with_reducible repeat (first | apply Kd.S_alloc | apply Kd.S_drewN | apply Kd.S_drew)); exact HO_7.out) hb); have n1_ := Aside0.mk (below_step (by repeat (first | (with_reducible first | exact HB.out | apply below_alloc | apply pw_below_drewN | apply below_drew1) | exact HB.out)) hb); clear HO_7; clear HB; have HO_7 := n0_; have HB := n1_; clear n0_ n1_; (try clear hb); (try clear hb2); (try clear hk); (try clear hi)))
      go_roundg k1
      case measure => have := HK1.out; omega
      case rel => exact ⟨(x7_1), (wrap64 (x8_1 + 1)), (by first | rfl | (simp; done) | (simp [*]; done)), H', ⟨by have := HK1.out; omega⟩, ⟨by (with_reducible repeat (first | apply Kd.S_alloc | apply Kd.S_drewN | apply Kd.S_drew)); exact HO_7.out⟩, ⟨by repeat (first | (with_reducible first | exact HB.out | apply below_alloc | apply pw_below_drewN | apply below_drew1) | exact HB.out)⟩⟩
     ·replace c7 := Bool.eq_false_iff.mpr c7
      subst c7
      have H1 : ((graftwoodref18_By.f k1 l2 ((rd_T42 l0 x8_1).f0) ((rd_T42 l0 x8_1).f1)).bind fun bt315 => (graftwoodref18_Of.l1 k1 l0 l1 l2 x7_1 x8_1 bt315.1 0 ((rd_T42 l0 x8_1).f0) ((rd_T42 l0 x8_1).f1) ([] : List (S42)) bt315.2)) = some r := by rw [if_neg (show ¬ (false = true) by decide)] at H; exact H
      clear H
      have H := H1
      clear H1
      replace H := Option.bind_eq_some_iff.mp H
      obtain ⟨⟨t315, t318⟩, A90, H⟩ := H
      replace H : (graftwoodref18_Of.l1 k1 l0 l1 l2 x7_1 x8_1 t315 0 ((rd_T42 l0 x8_1).f0) ((rd_T42 l0 x8_1).f1) ([] : List (S42)) t318) = some r := H
      have A9 := Aside0.mk A90
      clear A90
      have H' := Aside0.mk H
      clear H
      have p310 : 0 ≤ (x8_1 : Int) := of_decide_eq_true (by first | (with_reducible assumption) | assumption)
      have q310 : x8_1 < (l0.length : Int) := of_decide_eq_true (by first | (with_reducible assumption) | assumption)
      obtain ⟨ad310, e310, hx310_0, hx310_1⟩ := at_T42 HR0.out x8_1 p310 q310
      cases e310
      replace hx310_0 := (HB.out.cell (World.block_lt_of_cell? w _ hx310_0)).trans hx310_0
      replace hx310_1 := (HB.out.cell (World.block_lt_of_cell? w _ hx310_1)).trans hx310_1
      replace p310 := eq_true p310
      replace q310 := eq_true q310
      go_wp2_with (first | ((with_reducible refine gate_callee (f := 29) rfl ?_); refine goesL_ (some 24) rfl rfl Tryz.func29 (by kernel_rfl) rfl #[.slice A1 l1.length c1, .agg #[.string ((rd_T42 l0 x8_1).f0), .string ((rd_T42 l0 x8_1).f1)]] rfl (by (try simp only [List.map_toArray, List.map_cons, List.map_nil]); first | done | rfl | (simp only [List.length_drop, List.length_take]; rfl)) ?_; (with_reducible refine (graftwoodref05_Has.calls k1 _ _ l1 ((rd_T42 l0 x8_1).f0) ((rd_T42 l0 x8_1).f1) false _ ?side1 ?side2 A6.out).mono ?_); (case side1 => repeat (first | exact (Kd.C_below HR1.out HB.out) | (with_reducible refine Kd.C_alloc ?_ _) | (with_reducible refine Kd.C_drewN ?_ _) | (with_reducible refine Kd.C_drew ?_))); (case side2 => exact HC1.out); rintro e w10 ⟨rfl, hb⟩; refine ⟨_, rfl, ?_⟩; have n0_ := Aside0.mk (Kd.S_below (by (with_reducible repeat (first | apply Kd.S_alloc | apply Kd.S_drewN | apply Kd.S_drew)); exact HO_7.out) hb); have n1_ := Aside0.mk (below_step (by repeat (first | (with_reducible first | exact HB.out | apply below_alloc | apply pw_below_drewN | apply below_drew1) | exact HB.out)) hb); clear HO_7; clear HB; have HO_7 := n0_; have HB := n1_; clear n0_ n1_; (try clear hb); (try clear hb2); (try clear hk); (try clear hi); have p312 : 0 ≤ (x8_1 : Int) := of_decide_eq_true (by first | (with_reducible assumption) | assumption); have q312 : x8_1 < (l0.length : Int) := of_decide_eq_true (by first | (with_reducible assumption) | assumption); obtain ⟨ad312, e312, hx312_0, hx312_1⟩ := at_T42 HR0.out x8_1 p312 q312; obtain rfl : ad310 = ad312 := (by injection e312); replace hx312_0 := (HB.out.cell (World.block_lt_of_cell? w _ hx312_0)).trans hx312_0; replace hx312_1 := (HB.out.cell (World.block_lt_of_cell? w _ hx312_1)).trans hx312_1; replace p312 := eq_true p312; replace q312 := eq_true q312) | ((with_reducible refine gate_dst (N := 9) rfl ?_); refine box_event ?hg (N := 9) ?hd (cs := #[.string (⟨#[]⟩ : ByteArray), .string (⟨#[]⟩ : ByteArray), .slice none 0 0, .bool false]) (t := 55) ?hr ?_; (case hd => rfl); (case hg => rfl); (case hr => first | (go_simp; done) | (go_simp; rfl)); intro gb313 hg w11 hbox hb; have n0_ := Aside0.mk (Kd.S_below (Kd.S_elderB (by (with_reducible repeat (first | apply Kd.S_alloc | apply Kd.S_drewN | apply Kd.S_drew)); exact HO_7.out) gb313 (Nat.le_of_eq hg.symm)) hb); have n1_ := Aside0.mk (below_step (by repeat (first | (with_reducible first | exact HB.out | apply below_alloc | apply pw_below_drewN | apply below_drew1) | exact HB.out)) hb); have n2_ := Aside0.mk (hbox); have n3_ := Aside0.mk ((by rw [hg]; exact (below_size (by repeat (first | (with_reducible first | exact HB.out | apply below_alloc | apply pw_below_drewN | apply below_drew1) | exact HB.out))) : w.heap.size ≤ gb313)); have n4_ := Aside0.mk ((by rw [hg]; exact (below_size (by repeat (first | (with_reducible first | exact HB.out | apply below_alloc | apply pw_below_drewN | apply below_drew1) | exact HB.out))) : w.heap.size ≤ gb313)); clear HO_7; clear HB; have HO_7 := n0_; have HB := n1_; have BK313 := n2_; have GW313 := n3_; have GE313 := n4_; clear n0_ n1_ n2_ n3_ n4_; clear hb hbox hg; have hcz12_0 : w11.cell? ⟨gb313, 0, none⟩ = some (.string (⟨#[]⟩ : ByteArray)) := (blk_cell BK313.out 0).trans rfl; have hcz12_1 : w11.cell? ⟨gb313, 1, none⟩ = some (.string (⟨#[]⟩ : ByteArray)) := (blk_cell BK313.out 1).trans rfl; have hcz12_2 : w11.cell? ⟨gb313, 2, none⟩ = some (.slice none 0 0) := (blk_cell BK313.out 2).trans rfl; have hcz12_3 : w11.cell? ⟨gb313, 3, none⟩ = some (.bool false) := (blk_cell BK313.out 3).trans rfl; have hfz12_0 := blk_frozen BK313.out 0; have hfz12_1 := blk_frozen BK313.out 1; have hfz12_2 := blk_frozen BK313.out 2; have hfz12_3 := blk_frozen BK313.out 3; have p314 : 0 ≤ (x8_1 : Int) := of_decide_eq_true (by first | (with_reducible assumption) | assumption); have q314 : x8_1 < (l0.length : Int) := of_decide_eq_true (by first | (with_reducible assumption) | assumption); obtain ⟨ad314, e314, hx314_0, hx314_1⟩ := at_T42 HR0.out x8_1 p314 q314; obtain rfl : ad310 = ad314 := (by injection e314); have hn314_0 : ad310.block ≠ gb313 := Nat.ne_of_lt (Nat.lt_of_lt_of_le (by have := World.block_lt_of_cell? _ _ hx314_0; first | rwa [add_block] at this | exact this) GW313.out); have hn314_1 : ad310.block ≠ gb313 := Nat.ne_of_lt (Nat.lt_of_lt_of_le (by have := World.block_lt_of_cell? _ _ hx314_0; first | rwa [add_block] at this | exact this) GW313.out); have hn314_2 : ad310.block ≠ gb313 := Nat.ne_of_lt (Nat.lt_of_lt_of_le (by have := World.block_lt_of_cell? _ _ hx314_0; first | rwa [add_block] at this | exact this) GW313.out); have hn314_3 : ad310.block ≠ gb313 := Nat.ne_of_lt (Nat.lt_of_lt_of_le (by have := World.block_lt_of_cell? _ _ hx314_0; first | rwa [add_block] at this | exact this) GW313.out); replace hx314_0 := (HB.out.cell (World.block_lt_of_cell? w _ hx314_0)).trans hx314_0; replace hx314_1 := (HB.out.cell (World.block_lt_of_cell? w _ hx314_1)).trans hx314_1; replace hx314_0 := (cell_far (p := ⟨gb313, 0, none⟩) (by first | (rw [add_block]; exact hn314_0) | (show (Addr.add _ _).block ≠ _; rw [add_block]; exact hn314_0) | exact hn314_0) (.string ((rd_T42 l0 x8_1).f0))).trans hx314_0; replace hx314_1 := (cell_far (p := ⟨gb313, 0, none⟩) (by first | (rw [add_block]; exact hn314_0) | (show (Addr.add _ _).block ≠ _; rw [add_block]; exact hn314_0) | exact hn314_0) (.string ((rd_T42 l0 x8_1).f0))).trans hx314_1; replace hx314_0 := (cell_far (p := ⟨gb313, 1, none⟩) (by first | (rw [add_block]; exact hn314_1) | (show (Addr.add _ _).block ≠ _; rw [add_block]; exact hn314_1) | exact hn314_1) (.string ((rd_T42 l0 x8_1).f1))).trans hx314_0; replace hx314_1 := (cell_far (p := ⟨gb313, 1, none⟩) (by first | (rw [add_block]; exact hn314_1) | (show (Addr.add _ _).block ≠ _; rw [add_block]; exact hn314_1) | exact hn314_1) (.string ((rd_T42 l0 x8_1).f1))).trans hx314_1; replace hx314_0 := (cell_far (p := ⟨gb313, 2, none⟩) (by first | (rw [add_block]; exact hn314_2) | (show (Addr.add _ _).block ≠ _; rw [add_block]; exact hn314_2) | exact hn314_2) (.slice none 0 0)).trans hx314_0; replace hx314_1 := (cell_far (p := ⟨gb313, 2, none⟩) (by first | (rw [add_block]; exact hn314_2) | (show (Addr.add _ _).block ≠ _; rw [add_block]; exact hn314_2) | exact hn314_2) (.slice none 0 0)).trans hx314_1; replace hx314_0 := (cell_far (p := ⟨gb313, 3, none⟩) (by first | (rw [add_block]; exact hn314_3) | (show (Addr.add _ _).block ≠ _; rw [add_block]; exact hn314_3) | exact hn314_3) (.bool false)).trans hx314_0; replace hx314_1 := (cell_far (p := ⟨gb313, 3, none⟩) (by first | (rw [add_block]; exact hn314_3) | (show (Addr.add _ _).block ≠ _; rw [add_block]; exact hn314_3) | exact hn314_3) (.bool false)).trans hx314_1; clear hn314_0; clear hn314_1; clear hn314_2; clear hn314_3; replace p314 := eq_true p314; replace q314 := eq_true q314) | ((with_reducible refine gate_callee (f := 20) rfl ?_); refine goesL_ (some 36) rfl rfl Tryz.func20 (by kernel_rfl) rfl #[.slice A2 l2.length c2, .agg #[.string ((rd_T42 l0 x8_1).f0), .string ((rd_T42 l0 x8_1).f1)]] rfl (by (try simp only [List.map_toArray, List.map_cons, List.map_nil]); first | done | rfl | (simp only [List.length_drop, List.length_take]; rfl)) ?_; (with_reducible refine (graftwoodref18_By.calls k1 _ _ l2 ((rd_T42 l0 x8_1).f0) ((rd_T42 l0 x8_1).f1) t315 t318 _ ?side1 ?side2 A9.out).mono ?_); (case side1 => exact Kd.C_below HR2.out (by repeat (first | (with_reducible first | exact HB.out | apply below_alloc | apply pw_below_drewN | apply below_drew1 | refine below_set ?_ GE313.out) | exact HB.out))); (case side2 => exact HC2.out); rintro e w13 ⟨v316, rfl, ho0, hb⟩; refine ⟨_, rfl, ?_⟩; have n0_ := Aside0.mk (Kd.S_elder' (by (with_reducible repeat (first | apply Kd.S_alloc | apply Kd.S_drewN | apply Kd.S_drew)); exact (Kd.S_mono (Kd.S_far (p := ⟨gb313, 3, none⟩) (Kd.S_far (p := ⟨gb313, 2, none⟩) (Kd.S_far (p := ⟨gb313, 1, none⟩) (Kd.S_far (p := ⟨gb313, 0, none⟩) (Kd.S_mono HO_7.out (fun k_ hk => (⟨hk, hk.2⟩ : _ ∧ k_ ≠ gb313))) (fun _ hk => hk.2) (.string ((rd_T42 l0 x8_1).f0))) (fun _ hk => hk.2) (.string ((rd_T42 l0 x8_1).f1))) (fun _ hk => hk.2) (.slice none 0 0)) (fun _ hk => hk.2) (.bool false)) (fun _ h_ => h_.1))) (Kd.R_base ho0) hb); have n1_ := Aside0.mk (Kd.R_lower ho0 (below_size (by repeat (first | (with_reducible first | exact HB.out | apply below_alloc | apply pw_below_drewN | apply below_drew1 | refine below_set ?_ GE313.out) | exact HB.out)))); have n2_ := Aside0.mk (blk_below (g := gb313) (o := .cells #[.string ((rd_T42 l0 x8_1).f0), .string ((rd_T42 l0 x8_1).f1), .slice none 0 0, .bool false] 55 (0, 0)) (by (with_reducible repeat (first | refine blk_drewN ?_ _ | refine blk_drew ?_ | refine blk_alloc ?_ _)); refine blk_put (cs := #[.string ((rd_T42 l0 x8_1).f0), .string ((rd_T42 l0 x8_1).f1), .slice none 0 0, .bool false]) ?_ 3 _ rfl; (with_reducible repeat (first | refine blk_drewN ?_ _ | refine blk_drew ?_ | refine blk_alloc ?_ _)); refine blk_put (cs := #[.string ((rd_T42 l0 x8_1).f0), .string ((rd_T42 l0 x8_1).f1), .slice none 0 0, .bool false]) ?_ 2 _ rfl; (with_reducible repeat (first | refine blk_drewN ?_ _ | refine blk_drew ?_ | refine blk_alloc ?_ _)); refine blk_put (cs := #[.string ((rd_T42 l0 x8_1).f0), .string (⟨#[]⟩ : ByteArray), .slice none 0 0, .bool false]) ?_ 1 _ rfl; (with_reducible repeat (first | refine blk_drewN ?_ _ | refine blk_drew ?_ | refine blk_alloc ?_ _)); refine blk_put (cs := #[.string (⟨#[]⟩ : ByteArray), .string (⟨#[]⟩ : ByteArray), .slice none 0 0, .bool false]) ?_ 0 _ rfl; (with_reducible repeat (first | refine blk_drewN ?_ _ | refine blk_drew ?_ | refine blk_alloc ?_ _)); exact BK313.out) hb); have n3_ := Aside0.mk (below_step (by repeat (first | (with_reducible first | exact HB.out | apply below_alloc | apply pw_below_drewN | apply below_drew1 | refine below_set ?_ GE313.out) | exact HB.out)) hb); clear HO_7; clear BK313; clear HB; have HO_7 := n0_; have HO317 := n1_; have BK313 := n2_; have HB := n3_; clear n0_ n1_ n2_ n3_; (try clear hb); (try clear hb2); (try clear hk); (try clear hi); (try clear ho0); have hcz14_0 : w13.cell? ⟨gb313, 0, none⟩ = some (.string ((rd_T42 l0 x8_1).f0)) := (blk_cell BK313.out 0).trans rfl; have hcz14_1 : w13.cell? ⟨gb313, 1, none⟩ = some (.string ((rd_T42 l0 x8_1).f1)) := (blk_cell BK313.out 1).trans rfl; have hcz14_2 : w13.cell? ⟨gb313, 2, none⟩ = some (.slice none 0 0) := (blk_cell BK313.out 2).trans rfl; have hcz14_3 : w13.cell? ⟨gb313, 3, none⟩ = some (.bool false) := (blk_cell BK313.out 3).trans rfl; have hfz14_0 := blk_frozen BK313.out 0; have hfz14_1 := blk_frozen BK313.out 1; have hfz14_2 := blk_frozen BK313.out 2; have hfz14_3 := blk_frozen BK313.out 3))
      go_loopg [12] k1 (fun kq v12 w' => ∃ (x12_2 : Int) (x314002_2 : List (S42)) (u314002 : Value), v12 = .int .i64 x12_2 ∧ Aside0 (graftwoodref18_Of.l1 kq l0 l1 l2 x7_1 x8_1 t315 x12_2 ((rd_T42 l0 x8_1).f0) ((rd_T42 l0 x8_1).f1) x314002_2 t318 = some r) ∧ Aside0 (kq ≤ k1) ∧ Aside0 (Kd.S k55 55 w' w.heap.size (fun k_ => some k_ ≠ (v316 : Value).ownBlock ∧ some k_ ≠ (u314002 : Value).ownBlock ∧ k_ ≠ gb313) u7 x7_1) ∧ Aside0 (Kd.R k42 42 w' w.heap.size (fun k_ => some k_ ≠ (u314002 : Value).ownBlock) v316 t315) ∧ Aside0 (Kd.R k42 42 w' w.heap.size (fun k_ => some k_ ≠ (v316 : Value).ownBlock) u314002 x314002_2) ∧ Aside0 (w'.heap[gb313]? = some (.cells #[.string ((rd_T42 l0 x8_1).f0), .string ((rd_T42 l0 x8_1).f1), u314002, .bool t318] 55 (0, 0))) ∧ Aside0 (Below w.heap.size w w'))
      case atStart => exact ⟨(0), (([] : List (S42))), (.slice none 0 0), (by first | rfl | (simp; done) | (simp [*]; done)), H', ⟨Nat.le_refl _⟩, ⟨by (with_reducible repeat (first | apply Kd.S_alloc | apply Kd.S_drewN | apply Kd.S_drew)); exact Kd.S_mono (Kd.S_far (p := ⟨gb313, 3, none⟩) (Kd.S_mono HO_7.out (fun k_ hk => (⟨hk, hk.1.2⟩ : _ ∧ k_ ≠ gb313))) (fun _ hk => hk.2) (.bool t318)) (fun _ hk => ⟨hk.1.2, ⟨(by simp [Value.ownBlock]), hk.1.1.2⟩⟩)⟩, ⟨by (with_reducible repeat (first | apply Kd.R_alloc | apply Kd.R_drewN | apply Kd.R_drew)); exact Kd.R_mono (Kd.R_far (p := ⟨gb313, 3, none⟩) (Kd.R_types HO317.out BK313.out (by decide)) (fun _ hk => hk.2) (.bool t318)) (fun _ hk => (by simp [Value.ownBlock]))⟩, ⟨by first | exact Kd.R_nil _ _ _ _ _ | exact Kd.N_nil _ _ _ _ _ | exact Kd.V_nil _ _ _ _ _ | exact Kd.Q_nil _ _ _ _ _ | exact Kd.S_nil _ _ _ _ _⟩, ⟨by (with_reducible repeat (first | refine blk_drewN ?_ _ | refine blk_drew ?_ | refine blk_alloc ?_ _)); refine blk_put (cs := #[.string ((rd_T42 l0 x8_1).f0), .string ((rd_T42 l0 x8_1).f1), .slice none 0 0, .bool false]) ?_ 3 _ rfl; (with_reducible repeat (first | refine blk_drewN ?_ _ | refine blk_drew ?_ | refine blk_alloc ?_ _)); exact BK313.out⟩, ⟨by repeat (first | (with_reducible first | exact HB.out | apply below_alloc | apply pw_below_drewN | apply below_drew1 | refine below_set ?_ GE313.out) | exact HB.out)⟩⟩
      case round =>
       clear H'
       try clear c1
       try clear c2
       try clear p2
       try clear p3
       try clear q3
       try clear hx3
       try clear c4
       try clear c4b0
       try clear c5
       try clear c5b0
       try clear p6
       try clear c7
       try clear hcz12_0
       try clear hcz12_1
       try clear hcz12_2
       try clear hcz12_3
       try clear hcz14_0
       try clear hcz14_1
       try clear hcz14_2
       try clear hcz14_3
       try clear hfz12_0
       try clear hfz12_1
       try clear hfz12_2
       try clear hfz12_3
       try clear hfz14_0
       try clear hfz14_1
       try clear hfz14_2
       try clear hfz14_3
       try clear hx310_0
       try clear hx310_1
       try clear hx312_0
       try clear hx312_1
       try clear hx314_0
       try clear hx314_1
       try clear p2
       try clear p310
       try clear p312
       try clear p314
       try clear q310
       try clear q312
       try clear q314
       obtain ⟨x12_2, x314002_2, u314002, rfl, HA, HK2, HO_7, HO_10, HO_314002, BK313, HB⟩ := hrel
       cases gk with
       | zero => exact absurd HA.out (by simp [graftwoodref18_Of.l1])
       | succ k2 =>
        have H := HA.out
        clear HA
        simp only [graftwoodref18_Of.l1] at H
        by_cases c15 : x12_2 < (t315.length : Int)
        ·rw [if_pos c15] at H
         have c15b0 : decide (x12_2 < (t315.length : Int)) = true := decide_eq_true c15
         clear c15
         by_cases c16 : 0 ≤ x12_2
         ·rw [if_pos c16] at H
          have c16b0 : decide (0 ≤ x12_2) = true := decide_eq_true c16
          clear c16
          replace H := Option.bind_eq_some_iff.mp H
          obtain ⟨t320, A170, H⟩ := H
          replace H : (if t320 = true then (if x314002_2.length < 4398046511104 then (graftwoodref18_Of.l1 k2 l0 l1 l2 x7_1 x8_1 t315 (wrap64 (x12_2 + 1)) ((rd_T42 l0 x8_1).f0) ((rd_T42 l0 x8_1).f1) (x314002_2 ++ [(⟨(rd_T42 t315 x12_2).f0, (rd_T42 t315 x12_2).f1⟩ : S42)]) t318) else (none)) else (graftwoodref18_Of.l1 k2 l0 l1 l2 x7_1 x8_1 t315 (wrap64 (x12_2 + 1)) ((rd_T42 l0 x8_1).f0) ((rd_T42 l0 x8_1).f1) x314002_2 t318)) = some r := H
          have A17 := Aside0.mk A170
          clear A170
          by_cases c18 : t320 = true
          ·subst c18
           have H1 : (if x314002_2.length < 4398046511104 then (graftwoodref18_Of.l1 k2 l0 l1 l2 x7_1 x8_1 t315 (wrap64 (x12_2 + 1)) ((rd_T42 l0 x8_1).f0) ((rd_T42 l0 x8_1).f1) (x314002_2 ++ [(⟨(rd_T42 t315 x12_2).f0, (rd_T42 t315 x12_2).f1⟩ : S42)]) t318) else (none)) = some r := by rw [if_pos rfl] at H; exact H
           clear H
           have H := H1
           clear H1
           by_cases c19 : x314002_2.length < 4398046511104
           ·rw [if_pos c19] at H
            have LMc19 := Aside0.mk c19
            clear c19
            obtain ⟨y322, hy322⟩ : ∃ y_ : List (S42), y_ = (x314002_2 ++ [(⟨(rd_T42 t315 x12_2).f0, (rd_T42 t315 x12_2).f1⟩ : S42)]) := ⟨_, rfl⟩
            replace H : (graftwoodref18_Of.l1 k2 l0 l1 l2 x7_1 x8_1 t315 (wrap64 (x12_2 + 1)) ((rd_T42 l0 x8_1).f0) ((rd_T42 l0 x8_1).f1) y322 t318) = some r := by first | (rw [hy322]; with_reducible exact H) | (have H2_ := (Option.bind_some _ _).symm.trans H; rw [hy322]; with_reducible exact H2_) | (have H2_ := (Option.bind_some _ _).symm.trans H; with_reducible exact H2_) | with_reducible exact H | (rw [hy322]; exact H) | exact H
            have Ny322 := Aside0.mk hy322
            clear hy322
            have H' := Aside0.mk H
            clear H
            obtain ⟨Ao20, co20, eo20⟩ := Kd.R_slice HO_10.out
            subst eo20
            have p319 : 0 ≤ (x12_2 : Int) := of_decide_eq_true (by first | (with_reducible assumption) | assumption)
            have q319 : x12_2 < (t315.length : Int) := of_decide_eq_true (by first | (with_reducible assumption) | assumption)
            obtain ⟨ad319, e319, hx319_0, hx319_1⟩ := at_T42 (Kd.R_reads' HO_10.out).2.2 x12_2 p319 q319
            cases e319
            replace p319 := eq_true p319
            replace q319 := eq_true q319
            try go_wp2_with (first | ((with_reducible refine gate_callee (f := 29) rfl ?_); refine goesL_ (some 52) rfl rfl Tryz.func29 (by kernel_rfl) rfl #[.slice (some ad310) l0.length c0, .agg #[.string ((rd_T42 t315 x12_2).f0), .string ((rd_T42 t315 x12_2).f1)]] rfl (by (try simp only [List.map_toArray, List.map_cons, List.map_nil]); first | done | rfl | (simp only [List.length_drop, List.length_take]; rfl)) ?_; (with_reducible refine (graftwoodref05_Has.calls k2 _ _ l0 ((rd_T42 t315 x12_2).f0) ((rd_T42 t315 x12_2).f1) true _ ?side1 ?side2 A17.out).mono ?_); (case side1 => repeat (first | exact (Kd.C_below HR0.out HB.out) | (with_reducible refine Kd.C_alloc ?_ _) | (with_reducible refine Kd.C_drewN ?_ _) | (with_reducible refine Kd.C_drew ?_))); (case side2 => exact HC0.out); rintro e w21 ⟨rfl, hb⟩; refine ⟨_, rfl, ?_⟩; have n0_ := Aside0.mk (Kd.S_below (by (with_reducible repeat (first | apply Kd.S_alloc | apply Kd.S_drewN | apply Kd.S_drew)); exact HO_7.out) hb); have n1_ := Aside0.mk (Kd.R_below (by (with_reducible repeat (first | apply Kd.R_alloc | apply Kd.R_drewN | apply Kd.R_drew)); exact HO_10.out) hb); have n2_ := Aside0.mk (Kd.R_below (by (with_reducible repeat (first | apply Kd.R_alloc | apply Kd.R_drewN | apply Kd.R_drew)); exact HO_314002.out) hb); have n3_ := Aside0.mk (blk_below (g := gb313) (o := .cells #[.string ((rd_T42 l0 x8_1).f0), .string ((rd_T42 l0 x8_1).f1), u314002, .bool t318] 55 (0, 0)) (by (with_reducible repeat (first | refine blk_drewN ?_ _ | refine blk_drew ?_ | refine blk_alloc ?_ _)); exact BK313.out) hb); have n4_ := Aside0.mk (below_step (by repeat (first | (with_reducible first | exact HB.out | apply below_alloc | apply pw_below_drewN | apply below_drew1 | refine below_set ?_ GE313.out) | exact HB.out)) hb); clear HO_7; clear HO_10; clear HO_314002; clear BK313; clear HB; have HO_7 := n0_; have HO_10 := n1_; have HO_314002 := n2_; have BK313 := n3_; have HB := n4_; clear n0_ n1_ n2_ n3_ n4_; (try clear hb); (try clear hb2); (try clear hk); (try clear hi)))
            have n0_ := Aside0.mk (Kd.S_drew HO_7.out)
            have n1_ := Aside0.mk (Kd.R_drew HO_10.out)
            have n2_ := Aside0.mk (Kd.R_drew HO_314002.out)
            have n3_ := Aside0.mk (blk_drew BK313.out)
            have n4_ := Aside0.mk (below_drew1 HB.out)
            clear HO_7 HO_10 HO_314002 BK313 HB
            have HO_7 := n0_
            have HO_10 := n1_
            have HO_314002 := n2_
            have BK313 := n3_
            have HB := n4_
            clear n0_ n1_ n2_ n3_ n4_
            have p321 : 0 ≤ (x12_2 : Int) := of_decide_eq_true (by first | (with_reducible assumption) | assumption)
            have q321 : x12_2 < (t315.length : Int) := of_decide_eq_true (by first | (with_reducible assumption) | assumption)
            obtain ⟨ad321, e321, hx321_0, hx321_1⟩ := at_T42 (Kd.R_reads' HO_10.out).2.2 x12_2 p321 q321
            obtain rfl : ad319 = ad321 := (by injection e321)
            replace p321 := eq_true p321
            replace q321 := eq_true q321
            refine start_ (n := 10) (S := fun w' => w'.cell? ⟨gb313, 0, none⟩ = some (.string ((rd_T42 l0 x8_1).f0)) ∧ w'.cell? ⟨gb313, 1, none⟩ = some (.string ((rd_T42 l0 x8_1).f1)) ∧ w'.cell? ⟨gb313, 2, none⟩ = some (u314002) ∧ w'.cell? ⟨gb313, 3, none⟩ = some (.bool t318) ∧ w'.cell? (ad319.add ((x12_2).toNat * 2)) = some (.string ((rd_T42 t315 x12_2).f0)) ∧ w'.cell? ⟨(ad319.add ((x12_2).toNat * 2)).block, (ad319.add ((x12_2).toNat * 2)).off + 1, none⟩ = some (.string ((rd_T42 t315 x12_2).f1))) (ds := [7, 9]) #[false, false, false, false, false, false, false, false, false, false] (by kernel_rfl) rfl rfl ⟨(blk_cell BK313.out 0).trans rfl, (blk_cell BK313.out 1).trans rfl, (blk_cell BK313.out 2).trans rfl, (blk_cell BK313.out 3).trans rfl, hx321_0, hx321_1⟩ (fun hHeld => ?_); refine with_tabW graftwoodref18_Of.tab13 graftwoodref18_Of.bits13 (fun HT_ HW_ => ?_)
            generalize w21.drew = w22 at HO_7 HO_10 HO_314002 BK313 HB hx321_0 hx321_1 hHeld ⊢
            refine pz_ 0 53 HT_.out ?_
            refine pz_ 2 55 HT_.out ?_
            refine pz_ 3 56 HT_.out ?_
            refine pz_ 4 57 HT_.out ?_
            refine tz_ 1 54 HT_.out HW_.out hHeld ?_
            refine tz_ 5 58 HT_.out HW_.out hHeld ?_
            refine one_ (i := 6) (N := some 59) #[true, true, true, true, true, true, true, false, false, false] rfl rfl (one_of HT_.out (by kernel_rfl)) (by decide) (fun K hK => ?_)
            refine value_ (w1 := ?_) (v := ?_) (by rfl) rfl ?_ ?_
            rotate_left 2
            ·go_simp
             constructor
             ·rfl
             ·rfl
            refine hK.out _ _ ⟨(blk_cell (blk_alloc BK313.out _) 0).trans rfl, (blk_cell (blk_alloc BK313.out _) 1).trans rfl, (blk_cell (blk_alloc BK313.out _) 2).trans rfl, (blk_cell (blk_alloc BK313.out _) 3).trans rfl, (World.cell?_alloc_lt _ _ _ (World.block_lt_of_cell? _ _ (hHeld.2.2.2.2.1))).trans (hHeld.2.2.2.2.1), (World.cell?_alloc_lt _ _ _ (World.block_lt_of_cell? _ _ (hHeld.2.2.2.2.2))).trans (hHeld.2.2.2.2.2)⟩ (fun hHeld => ?_)
            clear hK K
            refine nz_ 59 ?_
            refine last_ (i := 7) (N := some 60) #[true, true, true, true, true, true, true, true, false, false] rfl rfl (one_of HT_.out (by kernel_rfl)) (by decide) (fun K hK => ?_)
            refine Kd.R_append_step k42 (w0 := w) w.heap.size (by rfl) (.tmp 54) (.tmp 59) 22 42 (.agg #[(.string ⟨#[]⟩), (.string ⟨#[]⟩)]) 32 rfl Tryz.underlying22 info42 rfl (by decide) (by omega) u314002 x314002_2 (⟨(rd_T42 t315 x12_2).f0, (rd_T42 t315 x12_2).f1⟩ : S42) [.string ((rd_T42 t315 x12_2).f0), .string ((rd_T42 t315 x12_2).f1)] (fun k_ => some k_ ≠ (.slice (some ad319) t315.length co20 : Value).ownBlock) (fun _ => False) rfl rfl ?aP (fun _ hk => hk.elim) ?aF ?aO ?aB ?aS ?aL ?_
            (case aP => exact k42_mkM _ _ _ (⟨(rd_T42 t315 x12_2).f0, (rd_T42 t315 x12_2).f1⟩ : S42))
            (case aB => exact (by repeat (first | (with_reducible first | exact HB.out | apply below_alloc | apply pw_below_drewN | apply below_drew1 | refine below_set ?_ GE313.out) | exact HB.out)))
            (case aF => exact (fun k_ hk => Kd.fresh' (Kd.R_lt (by (with_reducible repeat (first | apply Kd.R_alloc | apply Kd.R_drewN | apply Kd.R_drew)); exact HO_10.out)) k_ hk))
            (case aO => exact (by (with_reducible repeat (first | apply Kd.R_alloc | apply Kd.R_drewN | apply Kd.R_drew)); exact HO_314002.out))
            (case aS => exact (below_size (by repeat (first | (with_reducible first | exact HB.out | apply below_alloc | apply pw_below_drewN | apply below_drew1 | refine below_set ?_ GE313.out) | exact HB.out))))
            (case aL => have := LMc19.out; omega)
            intro v323 w23 ho hb hg hat
            rw [← Ny322.out] at ho
            have n0_ := Aside0.mk (Kd.S_after (ok := (fun k_ => some k_ ≠ (.slice (some ad319) t315.length co20 : Value).ownBlock ∧ k_ ≠ gb313)) (by (with_reducible repeat (first | apply Kd.S_alloc | apply Kd.S_drewN | apply Kd.S_drew)); exact Kd.S_mono HO_7.out (fun _ hk => ⟨⟨hk.1, hk.2.2⟩, hk.2.1⟩)) hg hat)
            have n1_ := Aside0.mk (Kd.R_after (ok := (fun _ => True)) (by (with_reducible repeat (first | apply Kd.R_alloc | apply Kd.R_drewN | apply Kd.R_drew)); exact Kd.R_mono HO_10.out (fun _ hk => ⟨trivial, hk⟩)) hg hat)
            have n2_ := Aside0.mk (blk_grown (g := gb313) (o := .cells #[.string ((rd_T42 l0 x8_1).f0), .string ((rd_T42 l0 x8_1).f1), u314002, .bool t318] 55 (0, 0)) (by (with_reducible repeat (first | refine blk_drewN ?_ _ | refine blk_drew ?_ | refine blk_alloc ?_ _)); exact BK313.out) hg (Kd.R_ne HO_314002.out BK313.out (by decide)))
            have n3_ := Aside0.mk (hb)
            have n4_ := Aside0.mk (ho)
            clear HO_7 HO_10 BK313 HB HO_314002
            have HO_7 := n0_
            have HO_10 := n1_
            have BK313 := n2_
            have HB := n3_
            have HO324 := n4_
            clear n0_ n1_ n2_ n3_ n4_
            clear ho hb hg hat
            obtain ⟨Ao24, co24, eo24⟩ := Kd.R_slice HO324.out
            (first | subst eo24 | (injection eo24 with f1_ f2_ f3_; have f4_ := f1_.symm; have f5_ := f3_.symm; clear f1_ f2_ f3_; subst f4_; subst f5_))
            refine hK.out _ _ ?_
            clear hK K
            refine nz_ 60 ?_
            refine pz_ 8 61 HT_.out ?_
            refine last_ (i := 9) (N := none) #[true, true, true, true, true, true, true, true, true, true] rfl rfl (one_of HT_.out (by kernel_rfl)) (by decide) (fun K hK => ?_)
            have hs25 : w23.cell? ⟨gb313, 2, none⟩ = some (u314002) := (blk_cell BK313.out 2).trans rfl
            have hfs25 := blk_frozen BK313.out 2
            refine skip_ (w1 := ?_) (by rfl) rfl ?_ ?_
            rotate_left
            ·go_simp
             rfl
            refine hK.out _ _ ?_
            clear hK K
            refine done_ (done_of HT_.out (by kernel_rfl)) ?_
            try go_wp2
            go_roundg k2
            case measure => have := HK1.out; have := HK2.out; omega
            case rel => exact ⟨(wrap64 (x12_2 + 1)), (y322), (.slice Ao24 y322.length co24), (by first | rfl | (simp; done) | (simp [*]; done)), H', ⟨by have := HK1.out; have := HK2.out; omega⟩, ⟨by (with_reducible repeat (first | apply Kd.S_alloc | apply Kd.S_drewN | apply Kd.S_drew)); exact Kd.S_mono (Kd.S_far (p := ⟨gb313, 2, none⟩) (Kd.S_mono HO_7.out (fun k_ hk => (⟨hk, hk.1.2⟩ : _ ∧ k_ ≠ gb313))) (fun _ hk => hk.2) (.slice Ao24 y322.length co24)) (fun _ hk => ⟨hk.1.1.1, ⟨hk.1.2, hk.1.1.2⟩⟩)⟩, ⟨by (with_reducible repeat (first | apply Kd.R_alloc | apply Kd.R_drewN | apply Kd.R_drew)); exact Kd.R_mono (Kd.R_far (p := ⟨gb313, 2, none⟩) (Kd.R_types HO_10.out BK313.out (by decide)) (fun _ hk => hk.2) (.slice Ao24 y322.length co24)) (fun _ hk => hk.1.2)⟩, ⟨by (with_reducible repeat (first | apply Kd.R_alloc | apply Kd.R_drewN | apply Kd.R_drew)); exact Kd.R_mono (Kd.R_far (p := ⟨gb313, 2, none⟩) (Kd.R_types HO324.out BK313.out (by decide)) (fun _ hk => hk.2) (.slice Ao24 y322.length co24)) (fun _ hk => hk.1)⟩, ⟨by (with_reducible repeat (first | refine blk_drewN ?_ _ | refine blk_drew ?_ | refine blk_alloc ?_ _)); refine blk_put (cs := #[.string ((rd_T42 l0 x8_1).f0), .string ((rd_T42 l0 x8_1).f1), u314002, .bool t318]) ?_ 2 _ rfl; (with_reducible repeat (first | refine blk_drewN ?_ _ | refine blk_drew ?_ | refine blk_alloc ?_ _)); exact BK313.out⟩, ⟨by repeat (first | (with_reducible first | exact HB.out | apply below_alloc | apply pw_below_drewN | apply below_drew1 | refine below_set ?_ GE313.out) | exact HB.out)⟩⟩
           ·rw [if_neg c19] at H
            exact absurd H (by simp)
          ·replace c18 := Bool.eq_false_iff.mpr c18
           subst c18
           have H1 : (graftwoodref18_Of.l1 k2 l0 l1 l2 x7_1 x8_1 t315 (wrap64 (x12_2 + 1)) ((rd_T42 l0 x8_1).f0) ((rd_T42 l0 x8_1).f1) x314002_2 t318) = some r := by rw [if_neg (show ¬ (false = true) by decide)] at H; exact H
           clear H
           have H := H1
           clear H1
           have H' := Aside0.mk H
           clear H
           obtain ⟨Ao26, co26, eo26⟩ := Kd.R_slice HO_10.out
           subst eo26
           have p319 : 0 ≤ (x12_2 : Int) := of_decide_eq_true (by first | (with_reducible assumption) | assumption)
           have q319 : x12_2 < (t315.length : Int) := of_decide_eq_true (by first | (with_reducible assumption) | assumption)
           obtain ⟨ad319, e319, hx319_0, hx319_1⟩ := at_T42 (Kd.R_reads' HO_10.out).2.2 x12_2 p319 q319
           cases e319
           replace p319 := eq_true p319
           replace q319 := eq_true q319
           go_wp2_with (first | ((with_reducible refine gate_callee (f := 29) rfl ?_); refine goesL_ (some 52) rfl rfl Tryz.func29 (by kernel_rfl) rfl #[.slice (some ad310) l0.length c0, .agg #[.string ((rd_T42 t315 x12_2).f0), .string ((rd_T42 t315 x12_2).f1)]] rfl (by (try simp only [List.map_toArray, List.map_cons, List.map_nil]); first | done | rfl | (simp only [List.length_drop, List.length_take]; rfl)) ?_; (with_reducible refine (graftwoodref05_Has.calls k2 _ _ l0 ((rd_T42 t315 x12_2).f0) ((rd_T42 t315 x12_2).f1) false _ ?side1 ?side2 A17.out).mono ?_); (case side1 => repeat (first | exact (Kd.C_below HR0.out HB.out) | (with_reducible refine Kd.C_alloc ?_ _) | (with_reducible refine Kd.C_drewN ?_ _) | (with_reducible refine Kd.C_drew ?_))); (case side2 => exact HC0.out); rintro e w27 ⟨rfl, hb⟩; refine ⟨_, rfl, ?_⟩; have n0_ := Aside0.mk (Kd.S_below (by (with_reducible repeat (first | apply Kd.S_alloc | apply Kd.S_drewN | apply Kd.S_drew)); exact HO_7.out) hb); have n1_ := Aside0.mk (Kd.R_below (by (with_reducible repeat (first | apply Kd.R_alloc | apply Kd.R_drewN | apply Kd.R_drew)); exact HO_10.out) hb); have n2_ := Aside0.mk (Kd.R_below (by (with_reducible repeat (first | apply Kd.R_alloc | apply Kd.R_drewN | apply Kd.R_drew)); exact HO_314002.out) hb); have n3_ := Aside0.mk (blk_below (g := gb313) (o := .cells #[.string ((rd_T42 l0 x8_1).f0), .string ((rd_T42 l0 x8_1).f1), u314002, .bool t318] 55 (0, 0)) (by (with_reducible repeat (first | refine blk_drewN ?_ _ | refine blk_drew ?_ | refine blk_alloc ?_ _)); exact BK313.out) hb); have n4_ := Aside0.mk (below_step (by repeat (first | (with_reducible first | exact HB.out | apply below_alloc | apply pw_below_drewN | apply below_drew1 | refine below_set ?_ GE313.out) | exact HB.out)) hb); clear HO_7; clear HO_10; clear HO_314002; clear BK313; clear HB; have HO_7 := n0_; have HO_10 := n1_; have HO_314002 := n2_; have BK313 := n3_; have HB := n4_; clear n0_ n1_ n2_ n3_ n4_; (try clear hb); (try clear hb2); (try clear hk); (try clear hi)))
           go_roundg k2
           case measure => have := HK1.out; have := HK2.out; omega
           case rel => exact ⟨(wrap64 (x12_2 + 1)), (x314002_2), (u314002), (by first | rfl | (simp; done) | (simp [*]; done)), H', ⟨by have := HK1.out; have := HK2.out; omega⟩, ⟨by (with_reducible repeat (first | apply Kd.S_alloc | apply Kd.S_drewN | apply Kd.S_drew)); exact HO_7.out⟩, ⟨by (with_reducible repeat (first | apply Kd.R_alloc | apply Kd.R_drewN | apply Kd.R_drew)); exact HO_10.out⟩, ⟨by (with_reducible repeat (first | apply Kd.R_alloc | apply Kd.R_drewN | apply Kd.R_drew)); exact HO_314002.out⟩, ⟨by (with_reducible repeat (first | refine blk_drewN ?_ _ | refine blk_drew ?_ | refine blk_alloc ?_ _)); exact BK313.out⟩, ⟨by repeat (first | (with_reducible first | exact HB.out | apply below_alloc | apply pw_below_drewN | apply below_drew1 | refine below_set ?_ GE313.out) | exact HB.out)⟩⟩
         ·rw [if_neg c16] at H
          exact absurd H (by simp)
        ·rw [if_neg c15] at H
         have c15b0 : decide (x12_2 < (t315.length : Int)) = false := decide_eq_false c15
         clear c15
         by_cases c28 : x7_1.length < 2199023255552
         ·rw [if_pos c28] at H
          have LMc28 := Aside0.mk c28
          clear c28
          obtain ⟨y325, hy325⟩ : ∃ y_ : List (S55), y_ = (x7_1 ++ [(⟨(⟨((rd_T42 l0 x8_1).f0), ((rd_T42 l0 x8_1).f1)⟩ : S42), x314002_2, t318⟩ : S55)]) := ⟨_, rfl⟩
          replace H : (graftwoodref18_Of.l0 k2 l0 l1 l2 y325 (wrap64 (x8_1 + 1))) = some r := by first | (rw [hy325]; with_reducible exact H) | (have H2_ := (Option.bind_some _ _).symm.trans H; rw [hy325]; with_reducible exact H2_) | (have H2_ := (Option.bind_some _ _).symm.trans H; with_reducible exact H2_) | with_reducible exact H | (rw [hy325]; exact H) | exact H
          have Ny325 := Aside0.mk hy325
          clear hy325
          have H' := Aside0.mk H
          clear H
          obtain ⟨Ao29, co29, eo29⟩ := Kd.R_slice HO_10.out
          subst eo29
          have hcz30_0 : wr.cell? ⟨gb313, 0, none⟩ = some (.string ((rd_T42 l0 x8_1).f0)) := (blk_cell BK313.out 0).trans rfl
          have hcz30_1 : wr.cell? ⟨gb313, 1, none⟩ = some (.string ((rd_T42 l0 x8_1).f1)) := (blk_cell BK313.out 1).trans rfl
          have hcz30_2 : wr.cell? ⟨gb313, 2, none⟩ = some (u314002) := (blk_cell BK313.out 2).trans rfl
          have hcz30_3 : wr.cell? ⟨gb313, 3, none⟩ = some (.bool t318) := (blk_cell BK313.out 3).trans rfl
          have hfz30_0 := blk_frozen BK313.out 0
          have hfz30_1 := blk_frozen BK313.out 1
          have hfz30_2 := blk_frozen BK313.out 2
          have hfz30_3 := blk_frozen BK313.out 3
          obtain ⟨Ao32, co32, eo32⟩ := Kd.R_slice HO_314002.out
          subst eo32
          go_wp2_with (first | ((with_reducible refine gate_builtin (b := .append) (xs := #[.tmp 62, .tmp 64]) rfl ?_); at_builtin; refine Kd.S_append k55 (w0 := w) w.heap.size rfl (.tmp 62) (.tmp 64) 29 55 (.agg #[(.string ⟨#[]⟩), (.string ⟨#[]⟩), (.slice none 0 0), (.bool false)]) 64 rfl Tryz.underlying29 info55 rfl (by decide) (by omega) u7 x7_1 (⟨(⟨((rd_T42 l0 x8_1).f0), ((rd_T42 l0 x8_1).f1)⟩ : S42), x314002_2, t318⟩ : S55) [.string ((rd_T42 l0 x8_1).f0), .string ((rd_T42 l0 x8_1).f1), .slice Ao32 x314002_2.length co32, .bool t318] (fun k_ => some k_ ≠ (.slice Ao29 t315.length co29 : Value).ownBlock ∧ k_ ≠ gb313) (fun k_ => some k_ = (.slice Ao32 x314002_2.length co32 : Value).ownBlock) rfl rfl ?aP (fun k_ hk_ => ((Kd.R_mono (ok' := fun k_ => ((fun k_ => some k_ ≠ (.slice Ao29 t315.length co29 : Value).ownBlock ∧ k_ ≠ gb313)) k_ ∧ some k_ ≠ (u7 : Value).ownBlock) (Kd.R_types (Kd.R_apart' (HO_314002.out) (Kd.S_typed HO_7.out) (by decide)) BK313.out (by decide)) (fun k_ hk => ⟨⟨hk.1.1, hk.2⟩, hk.1.2⟩))).1 k_ hk_.symm) ?aF ?aO ?aB ?aS ?aL ?_; (case aP => exact k55_mkM _ _ _ (⟨(⟨((rd_T42 l0 x8_1).f0), ((rd_T42 l0 x8_1).f1)⟩ : S42), x314002_2, t318⟩ : S55) (Kd.R_mono (Kd.R_tight rfl (Kd.R_mono (ok' := fun k_ => ((fun k_ => some k_ ≠ (.slice Ao29 t315.length co29 : Value).ownBlock ∧ k_ ≠ gb313)) k_ ∧ some k_ ≠ (u7 : Value).ownBlock) (Kd.R_types (Kd.R_apart' (HO_314002.out) (Kd.S_typed HO_7.out) (by decide)) BK313.out (by decide)) (fun k_ hk => ⟨⟨hk.1.1, hk.2⟩, hk.1.2⟩))) (fun _ h_ => h_))); (case aB => exact (by repeat (first | (with_reducible first | exact HB.out | apply below_alloc | apply pw_below_drewN | apply below_drew1 | refine below_set ?_ GE313.out) | exact HB.out))); (case aF => exact (fun k_ hk => ⟨Kd.fresh' (Kd.R_lt (by (with_reducible repeat (first | apply Kd.R_alloc | apply Kd.R_drewN | apply Kd.R_drew)); exact HO_10.out)) k_ hk, Kd.freshB (g := gb313) (o := .cells #[.string ((rd_T42 l0 x8_1).f0), .string ((rd_T42 l0 x8_1).f1), .slice Ao32 x314002_2.length co32, .bool t318] 55 (0, 0)) (by (with_reducible repeat (first | refine blk_drewN ?_ _ | refine blk_drew ?_ | refine blk_alloc ?_ _)); exact BK313.out) k_ hk⟩)); (case aO => exact (by (with_reducible repeat (first | apply Kd.S_alloc | apply Kd.S_drewN | apply Kd.S_drew)); exact Kd.S_mono HO_7.out (fun k_ hk => ⟨⟨hk.1, hk.2.2⟩, fun e_ => hk.2.1 e_⟩))); (case aS => exact (below_size (by repeat (first | (with_reducible first | exact HB.out | apply below_alloc | apply pw_below_drewN | apply below_drew1 | refine below_set ?_ GE313.out) | exact HB.out)))); (case aL => have := LMc28.out; omega); intro v326 w31 ho hb hg hat; rw [← Ny325.out] at ho; have n0_ := Aside0.mk (Kd.R_over' (by (with_reducible repeat (first | apply Kd.R_alloc | apply Kd.R_drewN | apply Kd.R_drew)); exact HO_10.out) (Kd.S_typed (by (with_reducible repeat (first | apply Kd.S_alloc | apply Kd.S_drewN | apply Kd.S_drew)); exact HO_7.out)) (by decide) hg); have n1_ := Aside0.mk (blk_grown (g := gb313) (o := .cells #[.string ((rd_T42 l0 x8_1).f0), .string ((rd_T42 l0 x8_1).f1), .slice Ao32 x314002_2.length co32, .bool t318] 55 (0, 0)) (by (with_reducible repeat (first | refine blk_drewN ?_ _ | refine blk_drew ?_ | refine blk_alloc ?_ _)); exact BK313.out) hg (Kd.S_away HO_7.out (fun _ hk => hk.2.2))); have n2_ := Aside0.mk (hb); have n3_ := Aside0.mk (ho); clear HO_10; clear BK313; clear HB; clear HO_7; clear HO_314002; have HO_10 := n0_; have BK313 := n1_; have HB := n2_; have HO327 := n3_; clear n0_ n1_ n2_ n3_; clear ho hb hg hat))
          go_roundg k2
          case measure => have := HK1.out; have := HK2.out; omega
          case rel => exact ⟨(y325), (wrap64 (x8_1 + 1)), (by first | rfl | (simp; done) | (simp [*]; done)), H', ⟨by have := HK1.out; have := HK2.out; omega⟩, ⟨by (with_reducible repeat (first | apply Kd.S_alloc | apply Kd.S_drewN | apply Kd.S_drew)); exact Kd.S_mono HO327.out (fun _ hk => trivial)⟩, ⟨by repeat (first | (with_reducible first | exact HB.out | apply below_alloc | apply pw_below_drewN | apply below_drew1 | refine below_set ?_ GE313.out) | exact HB.out)⟩⟩
         ·rw [if_neg c28] at H
          exact absurd H (by simp)
    ·rw [if_neg c5] at H
     exact absurd H (by simp)
   ·rw [if_neg c4] at H
    have c4b0 : decide (x8_1 < (l0.length : Int)) = false := decide_eq_false c4
    clear c4
    obtain rfl := Option.some.inj H
    go_wp2
    go_ret
    exact ⟨_, by first | rfl | (simp [errW_none, errW_some] <;> rfl) | (simp [*, errW_none, errW_some] <;> rfl), by (with_reducible repeat (first | apply Kd.S_alloc | apply Kd.S_drewN | apply Kd.S_drew)); exact HO_7.out, by repeat (first | (with_reducible first | exact HB.out | apply below_alloc | apply pw_below_drewN | apply below_drew1) | exact HB.out)⟩
/-! ### graftwoodlaw18_LackTells: function 3 -/
mutual
def graftwoodlaw18_LackTells.j0 : Nat → List (S42) → List (S42) → List (S51) → List (S42) → Int → List (S55) → Int → Bool → Option (Bool)
 | 0, _, _, _, _, _, _, _, _ => none
 | k + 1, x0, x1, x2, x7, x8, x9, x10, x43 => if x43 = true then (if (x7.length : Int) = 0 then (if x8 = 1 then (if (x9.length : Int) = 0 then (if x10 = 1 then ((graftwoodlaw18_awake.f).bind fun t349 => (some t349)) else (some false)) else (some false)) else (some false)) else (some false)) else ((graftwoodref05_Minus.f k x0 x1).bind fun t350 => ((graftwoodref05_Same.f k x7 t350).bind fun t353 => (if t353 = true then (graftwoodlaw18_LackTells.j1 k x0 x1 x2 x9 x10 (x8 != 0)) else (graftwoodlaw18_LackTells.j1 k x0 x1 x2 x9 x10 true))))
def graftwoodlaw18_LackTells.j1 : Nat → List (S42) → List (S42) → List (S51) → List (S55) → Int → Bool → Option (Bool)
 | 0, _, _, _, _, _, _ => none
 | k + 1, x0, x1, x2, x9, x10, x72 => if x72 = true then (some false) else ((graftwoodref18_May.f k x2).bind fun t354 => (if t354 = true then ((graftwoodref18_Of.f k x0 x1 x2).bind fun t355 => ((graftwoodref18_Same.f k x9 t355).bind fun t358 => (if t358 = true then (if x10 = 0 then ((graftwoodlaw18_awake.f).bind fun t359 => (some t359)) else (some false)) else (some false)))) else (if (x9.length : Int) = 0 then (if x10 = 1 then ((graftwoodlaw18_awake.f).bind fun t360 => (some t360)) else (some false)) else (some false))))
end
def graftwoodlaw18_LackTells.f (k : Nat) (l0 : List (S42)) (l1 : List (S42)) (l2 : List (S51)) : Option (Bool) := (graftwoodlaw05_Few.f k l0).bind fun t328 => ((graftwoodlaw05_Few.f k l1).bind fun t331 => ((graftwoodlaw18_Few.f k l2).bind fun t334 => ((lack_Missing.f t328 t331).bind fun bt337 => ((lack_Of.f t328 t331 t334).bind fun bt341 => ((lack_Check.f t334).bind fun t345 => ((graftwoodref18_May.f k t334).bind fun t346 => (if ((t345 == 0) != t346) = true then (some false) else ((graftwoodref05_Check.f k t328).bind fun t347 => (if t347 = true then ((graftwoodref05_Check.f k t331).bind fun t348 => (graftwoodlaw18_LackTells.j0 k t328 t331 t334 bt337.1 bt337.2 bt341.1 bt341.2 (!t348))) else (graftwoodlaw18_LackTells.j0 k t328 t331 t334 bt337.1 bt337.2 bt341.1 bt341.2 true))))))))))
set_option maxHeartbeats 8000000 in
set_option maxRecDepth 100000 in
theorem graftwoodlaw18_LackTells.calls (k : Nat) (A0 : Option Addr) (c0 : Nat) (l0 : List (S42)) (A1 : Option Addr) (c1 : Nat) (l1 : List (S42)) (A2 : Option Addr) (c2 : Nat) (l2 : List (S51)) (r : Bool) (w : World) (hr0 : Kd.C k42 w A0 l0.length l0) (hc0 : l0.length ≤ c0) (hr1 : Kd.C k42 w A1 l1.length l1) (hc1 : l1.length ≤ c1) (hr2 : Kd.C k51 w A2 l2.length l2) (hc2 : l2.length ≤ c2) (h : graftwoodlaw18_LackTells.f k l0 l1 l2 = some r) (HR_ : Aside0 (r = true)) :
  Calls Tryz.prog 3 #[.slice A0 l0.length c0, .slice A1 l1.length c1, .slice A2 l2.length c2] w fun e w' => e = .returned (.bool r) ∧ Below w.heap.size w w' := by
 have HR0 := Aside0.mk hr0
 have HC0 := Aside0.mk hc0
 clear hr0 hc0
 have HR1 := Aside0.mk hr1
 have HC1 := Aside0.mk hc1
 clear hr1 hc1
 have HR2 := Aside0.mk hr2
 have HC2 := Aside0.mk hc2
 clear hr2 hc2
 have HB := Aside0.mk (Below.refl w.heap.size w)
 have H : ((graftwoodlaw05_Few.f k l0).bind fun t328 => ((graftwoodlaw05_Few.f k l1).bind fun t331 => ((graftwoodlaw18_Few.f k l2).bind fun t334 => ((lack_Missing.f t328 t331).bind fun bt337 => ((lack_Of.f t328 t331 t334).bind fun bt341 => ((lack_Check.f t334).bind fun t345 => ((graftwoodref18_May.f k t334).bind fun t346 => (if ((t345 == 0) != t346) = true then (some false) else ((graftwoodref05_Check.f k t328).bind fun t347 => (if t347 = true then ((graftwoodref05_Check.f k t331).bind fun t348 => (graftwoodlaw18_LackTells.j0 k t328 t331 t334 bt337.1 bt337.2 bt341.1 bt341.2 (!t348))) else (graftwoodlaw18_LackTells.j0 k t328 t331 t334 bt337.1 bt337.2 bt341.1 bt341.2 true))))))))))) = some r := h
 clear h
 replace H := Option.bind_eq_some_iff.mp H
 obtain ⟨t328, A40, H⟩ := H
 replace H : ((graftwoodlaw05_Few.f k l1).bind fun t331 => ((graftwoodlaw18_Few.f k l2).bind fun t334 => ((lack_Missing.f t328 t331).bind fun bt337 => ((lack_Of.f t328 t331 t334).bind fun bt341 => ((lack_Check.f t334).bind fun t345 => ((graftwoodref18_May.f k t334).bind fun t346 => (if ((t345 == 0) != t346) = true then (some false) else ((graftwoodref05_Check.f k t328).bind fun t347 => (if t347 = true then ((graftwoodref05_Check.f k t331).bind fun t348 => (graftwoodlaw18_LackTells.j0 k t328 t331 t334 bt337.1 bt337.2 bt341.1 bt341.2 (!t348))) else (graftwoodlaw18_LackTells.j0 k t328 t331 t334 bt337.1 bt337.2 bt341.1 bt341.2 true)))))))))) = some r := H
 have A4 := Aside0.mk A40
 clear A40
 replace H := Option.bind_eq_some_iff.mp H
 obtain ⟨t331, A50, H⟩ := H
 replace H : ((graftwoodlaw18_Few.f k l2).bind fun t334 => ((lack_Missing.f t328 t331).bind fun bt337 => ((lack_Of.f t328 t331 t334).bind fun bt341 => ((lack_Check.f t334).bind fun t345 => ((graftwoodref18_May.f k t334).bind fun t346 => (if ((t345 == 0) != t346) = true then (some false) else ((graftwoodref05_Check.f k t328).bind fun t347 => (if t347 = true then ((graftwoodref05_Check.f k t331).bind fun t348 => (graftwoodlaw18_LackTells.j0 k t328 t331 t334 bt337.1 bt337.2 bt341.1 bt341.2 (!t348))) else (graftwoodlaw18_LackTells.j0 k t328 t331 t334 bt337.1 bt337.2 bt341.1 bt341.2 true))))))))) = some r := H
 have A5 := Aside0.mk A50
 clear A50
 replace H := Option.bind_eq_some_iff.mp H
 obtain ⟨t334, A60, H⟩ := H
 replace H : ((lack_Missing.f t328 t331).bind fun bt337 => ((lack_Of.f t328 t331 t334).bind fun bt341 => ((lack_Check.f t334).bind fun t345 => ((graftwoodref18_May.f k t334).bind fun t346 => (if ((t345 == 0) != t346) = true then (some false) else ((graftwoodref05_Check.f k t328).bind fun t347 => (if t347 = true then ((graftwoodref05_Check.f k t331).bind fun t348 => (graftwoodlaw18_LackTells.j0 k t328 t331 t334 bt337.1 bt337.2 bt341.1 bt341.2 (!t348))) else (graftwoodlaw18_LackTells.j0 k t328 t331 t334 bt337.1 bt337.2 bt341.1 bt341.2 true)))))))) = some r := H
 have A6 := Aside0.mk A60
 clear A60
 replace H := Option.bind_eq_some_iff.mp H
 obtain ⟨⟨t337, t338⟩, A70, H⟩ := H
 replace H : ((lack_Of.f t328 t331 t334).bind fun bt341 => ((lack_Check.f t334).bind fun t345 => ((graftwoodref18_May.f k t334).bind fun t346 => (if ((t345 == 0) != t346) = true then (some false) else ((graftwoodref05_Check.f k t328).bind fun t347 => (if t347 = true then ((graftwoodref05_Check.f k t331).bind fun t348 => (graftwoodlaw18_LackTells.j0 k t328 t331 t334 t337 t338 bt341.1 bt341.2 (!t348))) else (graftwoodlaw18_LackTells.j0 k t328 t331 t334 t337 t338 bt341.1 bt341.2 true))))))) = some r := H
 have A7 := Aside0.mk A70
 clear A70
 replace H := Option.bind_eq_some_iff.mp H
 obtain ⟨⟨t341, t342⟩, A80, H⟩ := H
 replace H : ((lack_Check.f t334).bind fun t345 => ((graftwoodref18_May.f k t334).bind fun t346 => (if ((t345 == 0) != t346) = true then (some false) else ((graftwoodref05_Check.f k t328).bind fun t347 => (if t347 = true then ((graftwoodref05_Check.f k t331).bind fun t348 => (graftwoodlaw18_LackTells.j0 k t328 t331 t334 t337 t338 t341 t342 (!t348))) else (graftwoodlaw18_LackTells.j0 k t328 t331 t334 t337 t338 t341 t342 true)))))) = some r := H
 have A8 := Aside0.mk A80
 clear A80
 replace H := Option.bind_eq_some_iff.mp H
 obtain ⟨t345, A90, H⟩ := H
 replace H : ((graftwoodref18_May.f k t334).bind fun t346 => (if ((t345 == 0) != t346) = true then (some false) else ((graftwoodref05_Check.f k t328).bind fun t347 => (if t347 = true then ((graftwoodref05_Check.f k t331).bind fun t348 => (graftwoodlaw18_LackTells.j0 k t328 t331 t334 t337 t338 t341 t342 (!t348))) else (graftwoodlaw18_LackTells.j0 k t328 t331 t334 t337 t338 t341 t342 true))))) = some r := H
 have A9 := Aside0.mk A90
 clear A90
 replace H := Option.bind_eq_some_iff.mp H
 obtain ⟨t346, A100, H⟩ := H
 replace H : (if ((t345 == 0) != t346) = true then (some false) else ((graftwoodref05_Check.f k t328).bind fun t347 => (if t347 = true then ((graftwoodref05_Check.f k t331).bind fun t348 => (graftwoodlaw18_LackTells.j0 k t328 t331 t334 t337 t338 t341 t342 (!t348))) else (graftwoodlaw18_LackTells.j0 k t328 t331 t334 t337 t338 t341 t342 true)))) = some r := H
 have A10 := Aside0.mk A100
 clear A100
 by_cases c11 : ((t345 == 0) != t346) = true
 ·rw [if_pos c11] at H
  have c11b0 : ((t345 == 0) != t346) = true := c11
  (try (have c11b1 : decide ((t345 == 0) = t346) = false := by simpa using c11))
  (try (have c11b2 : ((t345 == 0) == t346) = false := by simpa using c11))
  (try (have c11b3 : ¬ ((t345 == 0) = t346) := by simpa using c11))
  clear c11
  exact absurd ((Option.some.inj H).trans HR_.out) (by decide)
 ·rw [if_neg c11] at H
  have c11b0 : ((t345 == 0) != t346) = false := by simpa using c11
  (try (have c11b1 : decide ((t345 == 0) = t346) = true := by simpa using c11))
  (try (have c11b2 : ((t345 == 0) == t346) = true := by simpa using c11))
  clear c11
  have HC12 := Aside0.mk H
  clear H
  go_enter Tryz.func3, Tryz.ntmps3
  go_upto_region 6 with (first | ((with_reducible refine gate_callee (f := 5) rfl ?_); refine goesL_ (some 12) rfl rfl Tryz.func5 (by kernel_rfl) rfl #[.slice A0 l0.length c0] rfl (by (try simp only [List.map_toArray, List.map_cons, List.map_nil]); first | done | rfl | (simp only [List.length_drop, List.length_take]; rfl)) ?_; (with_reducible refine (graftwoodlaw05_Few.calls k _ _ l0 t328 _ ?side1 ?side2 A4.out).mono ?_); (case side1 => repeat (first | exact HR0.out | (with_reducible refine Kd.C_alloc ?_ _) | (with_reducible refine Kd.C_drewN ?_ _) | (with_reducible refine Kd.C_drew ?_))); (case side2 => exact HC0.out); rintro e w13 ⟨v329, rfl, ho0, hb⟩; refine ⟨_, rfl, ?_⟩; have n0_ := Aside0.mk (Kd.R_lower ho0 (below_size (by repeat (first | (with_reducible first | exact HB.out | apply below_alloc | apply pw_below_drewN | apply below_drew1) | exact HB.out)))); have n1_ := Aside0.mk (below_step (by repeat (first | (with_reducible first | exact HB.out | apply below_alloc | apply pw_below_drewN | apply below_drew1) | exact HB.out)) hb); clear HB; have HO330 := n0_; have HB := n1_; clear n0_ n1_; (try clear hb); (try clear hb2); (try clear hk); (try clear hi); (try clear ho0)) | ((with_reducible refine gate_callee (f := 5) rfl ?_); refine goesL_ (some 14) rfl rfl Tryz.func5 (by kernel_rfl) rfl #[.slice A1 l1.length c1] rfl (by (try simp only [List.map_toArray, List.map_cons, List.map_nil]); first | done | rfl | (simp only [List.length_drop, List.length_take]; rfl)) ?_; (with_reducible refine (graftwoodlaw05_Few.calls k _ _ l1 t331 _ ?side1 ?side2 A5.out).mono ?_); (case side1 => repeat (first | exact (Kd.C_below HR1.out HB.out) | (with_reducible refine Kd.C_alloc ?_ _) | (with_reducible refine Kd.C_drewN ?_ _) | (with_reducible refine Kd.C_drew ?_))); (case side2 => exact HC1.out); rintro e w14 ⟨v332, rfl, ho0, hb⟩; refine ⟨_, rfl, ?_⟩; have n0_ := Aside0.mk (Kd.R_elder' (by (with_reducible repeat (first | apply Kd.R_alloc | apply Kd.R_drewN | apply Kd.R_drew)); exact HO330.out) (Kd.R_base ho0) hb); have n1_ := Aside0.mk (Kd.R_lower (Kd.R_new' ho0 (Kd.R_lt (by (with_reducible repeat (first | apply Kd.R_alloc | apply Kd.R_drewN | apply Kd.R_drew)); exact HO330.out))) (below_size (by repeat (first | (with_reducible first | exact HB.out | apply below_alloc | apply pw_below_drewN | apply below_drew1) | exact HB.out)))); have n2_ := Aside0.mk (below_step (by repeat (first | (with_reducible first | exact HB.out | apply below_alloc | apply pw_below_drewN | apply below_drew1) | exact HB.out)) hb); clear HO330; clear HB; have HO330 := n0_; have HO333 := n1_; have HB := n2_; clear n0_ n1_ n2_; (try clear hb); (try clear hb2); (try clear hk); (try clear hi); (try clear ho0)) | ((with_reducible refine gate_callee (f := 6) rfl ?_); refine goesL_ (some 16) rfl rfl Tryz.func6 (by kernel_rfl) rfl #[.slice A2 l2.length c2] rfl (by (try simp only [List.map_toArray, List.map_cons, List.map_nil]); first | done | rfl | (simp only [List.length_drop, List.length_take]; rfl)) ?_; (with_reducible refine (graftwoodlaw18_Few.calls k _ _ l2 t334 _ ?side1 ?side2 A6.out).mono ?_); (case side1 => repeat (first | exact (Kd.C_below HR2.out HB.out) | (with_reducible refine Kd.C_alloc ?_ _) | (with_reducible refine Kd.C_drewN ?_ _) | (with_reducible refine Kd.C_drew ?_))); (case side2 => exact HC2.out); rintro e w15 ⟨v335, rfl, ho0, hb⟩; refine ⟨_, rfl, ?_⟩; have n0_ := Aside0.mk (Kd.R_below (by (with_reducible repeat (first | apply Kd.R_alloc | apply Kd.R_drewN | apply Kd.R_drew)); exact HO330.out) hb); have n1_ := Aside0.mk (Kd.R_below (by (with_reducible repeat (first | apply Kd.R_alloc | apply Kd.R_drewN | apply Kd.R_drew)); exact HO333.out) hb); have n2_ := Aside0.mk (Kd.R_lower ho0 (below_size (by repeat (first | (with_reducible first | exact HB.out | apply below_alloc | apply pw_below_drewN | apply below_drew1) | exact HB.out)))); have n3_ := Aside0.mk (below_step (by repeat (first | (with_reducible first | exact HB.out | apply below_alloc | apply pw_below_drewN | apply below_drew1) | exact HB.out)) hb); clear HO330; clear HO333; clear HB; have HO330 := n0_; have HO333 := n1_; have HO336 := n2_; have HB := n3_; clear n0_ n1_ n2_ n3_; (try clear hb); (try clear hb2); (try clear hk); (try clear hi); (try clear ho0); obtain ⟨Ao16, co16, eo16⟩ := Kd.R_slice HO330.out; subst eo16; obtain ⟨Ao17, co17, eo17⟩ := Kd.R_slice HO333.out; subst eo17) | ((with_reducible refine gate_callee (f := 7) rfl ?_); refine goesL_ (some 20) rfl rfl Tryz.func7 (by kernel_rfl) rfl #[.slice Ao16 t328.length co16, .slice Ao17 t331.length co17] rfl (by (try simp only [List.map_toArray, List.map_cons, List.map_nil]); first | done | rfl | (simp only [List.length_drop, List.length_take]; rfl)) ?_; (with_reducible refine (lack_Missing.calls _ _ t328 _ _ t331 t337 t338 _ ?side1 ?side2 ?side3 ?side4 A7.out).mono ?_); (case side1 => repeat (first | exact (Kd.R_reads' HO330.out).2.2 | (with_reducible refine Kd.C_alloc ?_ _) | (with_reducible refine Kd.C_drewN ?_ _) | (with_reducible refine Kd.C_drew ?_))); (case side2 => exact (Kd.R_reads' HO330.out).2.1); (case side3 => repeat (first | exact (Kd.R_reads' HO333.out).2.2 | (with_reducible refine Kd.C_alloc ?_ _) | (with_reducible refine Kd.C_drewN ?_ _) | (with_reducible refine Kd.C_drew ?_))); (case side4 => exact (Kd.R_reads' HO333.out).2.1); rintro e w18 ⟨v339, rfl, ho0, hb⟩; refine ⟨_, rfl, ?_⟩; have n0_ := Aside0.mk (Kd.R_elder' (by (with_reducible repeat (first | apply Kd.R_alloc | apply Kd.R_drewN | apply Kd.R_drew)); exact HO330.out) (Kd.R_base ho0) hb); have n1_ := Aside0.mk (Kd.R_elder' (by (with_reducible repeat (first | apply Kd.R_alloc | apply Kd.R_drewN | apply Kd.R_drew)); exact HO333.out) (Kd.R_base ho0) hb); have n2_ := Aside0.mk (Kd.R_below (by (with_reducible repeat (first | apply Kd.R_alloc | apply Kd.R_drewN | apply Kd.R_drew)); exact HO336.out) hb); have n3_ := Aside0.mk (Kd.R_lower (Kd.R_new' (Kd.R_new' ho0 (Kd.R_lt (by (with_reducible repeat (first | apply Kd.R_alloc | apply Kd.R_drewN | apply Kd.R_drew)); exact HO330.out))) (Kd.R_lt (by (with_reducible repeat (first | apply Kd.R_alloc | apply Kd.R_drewN | apply Kd.R_drew)); exact HO333.out))) (below_size (by repeat (first | (with_reducible first | exact HB.out | apply below_alloc | apply pw_below_drewN | apply below_drew1) | exact HB.out)))); have n4_ := Aside0.mk (below_step (by repeat (first | (with_reducible first | exact HB.out | apply below_alloc | apply pw_below_drewN | apply below_drew1) | exact HB.out)) hb); clear HO330; clear HO333; clear HO336; clear HB; have HO330 := n0_; have HO333 := n1_; have HO336 := n2_; have HO340 := n3_; have HB := n4_; clear n0_ n1_ n2_ n3_ n4_; (try clear hb); (try clear hb2); (try clear hk); (try clear hi); (try clear ho0); obtain ⟨Ao19, co19, eo19⟩ := Kd.R_slice HO336.out; subst eo19) | ((with_reducible refine gate_callee (f := 8) rfl ?_); refine goesL_ (some 27) rfl rfl Tryz.func8 (by kernel_rfl) rfl #[.slice Ao16 t328.length co16, .slice Ao17 t331.length co17, .slice Ao19 t334.length co19] rfl (by (try simp only [List.map_toArray, List.map_cons, List.map_nil]); first | done | rfl | (simp only [List.length_drop, List.length_take]; rfl)) ?_; (with_reducible refine (lack_Of.calls _ _ t328 _ _ t331 _ _ t334 t341 t342 _ ?side1 ?side2 ?side3 ?side4 ?side5 ?side6 A8.out).mono ?_); (case side1 => repeat (first | exact (Kd.R_reads' HO330.out).2.2 | (with_reducible refine Kd.C_alloc ?_ _) | (with_reducible refine Kd.C_drewN ?_ _) | (with_reducible refine Kd.C_drew ?_))); (case side2 => exact (Kd.R_reads' HO330.out).2.1); (case side3 => repeat (first | exact (Kd.R_reads' HO333.out).2.2 | (with_reducible refine Kd.C_alloc ?_ _) | (with_reducible refine Kd.C_drewN ?_ _) | (with_reducible refine Kd.C_drew ?_))); (case side4 => exact (Kd.R_reads' HO333.out).2.1); (case side5 => repeat (first | exact (Kd.R_reads' HO336.out).2.2 | (with_reducible refine Kd.C_alloc ?_ _) | (with_reducible refine Kd.C_drewN ?_ _) | (with_reducible refine Kd.C_drew ?_))); (case side6 => exact (Kd.R_reads' HO336.out).2.1); rintro e w20 ⟨v343, rfl, ho0, hb⟩; refine ⟨_, rfl, ?_⟩; have n0_ := Aside0.mk (Kd.R_below (by (with_reducible repeat (first | apply Kd.R_alloc | apply Kd.R_drewN | apply Kd.R_drew)); exact HO330.out) hb); have n1_ := Aside0.mk (Kd.R_below (by (with_reducible repeat (first | apply Kd.R_alloc | apply Kd.R_drewN | apply Kd.R_drew)); exact HO333.out) hb); have n2_ := Aside0.mk (Kd.R_below (by (with_reducible repeat (first | apply Kd.R_alloc | apply Kd.R_drewN | apply Kd.R_drew)); exact HO336.out) hb); have n3_ := Aside0.mk (Kd.R_below (by (with_reducible repeat (first | apply Kd.R_alloc | apply Kd.R_drewN | apply Kd.R_drew)); exact HO340.out) hb); have n4_ := Aside0.mk (Kd.S_lower (Kd.S_new' (Kd.S_new' (Kd.S_new' ho0 (Kd.R_lt (by (with_reducible repeat (first | apply Kd.R_alloc | apply Kd.R_drewN | apply Kd.R_drew)); exact HO330.out))) (Kd.R_lt (by (with_reducible repeat (first | apply Kd.R_alloc | apply Kd.R_drewN | apply Kd.R_drew)); exact HO333.out))) (Kd.R_lt (by (with_reducible repeat (first | apply Kd.R_alloc | apply Kd.R_drewN | apply Kd.R_drew)); exact HO340.out))) (below_size (by repeat (first | (with_reducible first | exact HB.out | apply below_alloc | apply pw_below_drewN | apply below_drew1) | exact HB.out)))); have n5_ := Aside0.mk (below_step (by repeat (first | (with_reducible first | exact HB.out | apply below_alloc | apply pw_below_drewN | apply below_drew1) | exact HB.out)) hb); clear HO330; clear HO333; clear HO336; clear HO340; clear HB; have HO330 := n0_; have HO333 := n1_; have HO336 := n2_; have HO340 := n3_; have HO344 := n4_; have HB := n5_; clear n0_ n1_ n2_ n3_ n4_ n5_; (try clear hb); (try clear hb2); (try clear hk); (try clear hi); (try clear ho0)) | ((with_reducible refine gate_callee (f := 9) rfl ?_); refine goesL_ (some 31) rfl rfl Tryz.func9 (by kernel_rfl) rfl #[.slice Ao19 t334.length co19] rfl (by (try simp only [List.map_toArray, List.map_cons, List.map_nil]); first | done | rfl | (simp only [List.length_drop, List.length_take]; rfl)) ?_; (with_reducible refine (lack_Check.calls _ _ t334 t345 _ ?side1 ?side2 A9.out).mono ?_); (case side1 => repeat (first | exact (Kd.R_reads' HO336.out).2.2 | (with_reducible refine Kd.C_alloc ?_ _) | (with_reducible refine Kd.C_drewN ?_ _) | (with_reducible refine Kd.C_drew ?_))); (case side2 => exact (Kd.R_reads' HO336.out).2.1); rintro e w21 ⟨rfl, hb⟩; refine ⟨_, rfl, ?_⟩; have n0_ := Aside0.mk (Kd.R_below (by (with_reducible repeat (first | apply Kd.R_alloc | apply Kd.R_drewN | apply Kd.R_drew)); exact HO330.out) hb); have n1_ := Aside0.mk (Kd.R_below (by (with_reducible repeat (first | apply Kd.R_alloc | apply Kd.R_drewN | apply Kd.R_drew)); exact HO333.out) hb); have n2_ := Aside0.mk (Kd.R_below (by (with_reducible repeat (first | apply Kd.R_alloc | apply Kd.R_drewN | apply Kd.R_drew)); exact HO336.out) hb); have n3_ := Aside0.mk (Kd.R_below (by (with_reducible repeat (first | apply Kd.R_alloc | apply Kd.R_drewN | apply Kd.R_drew)); exact HO340.out) hb); have n4_ := Aside0.mk (Kd.S_below (by (with_reducible repeat (first | apply Kd.S_alloc | apply Kd.S_drewN | apply Kd.S_drew)); exact HO344.out) hb); have n5_ := Aside0.mk (below_step (by repeat (first | (with_reducible first | exact HB.out | apply below_alloc | apply pw_below_drewN | apply below_drew1) | exact HB.out)) hb); clear HO330; clear HO333; clear HO336; clear HO340; clear HO344; clear HB; have HO330 := n0_; have HO333 := n1_; have HO336 := n2_; have HO340 := n3_; have HO344 := n4_; have HB := n5_; clear n0_ n1_ n2_ n3_ n4_ n5_; (try clear hb); (try clear hb2); (try clear hk); (try clear hi)) | ((with_reducible refine gate_callee (f := 10) rfl ?_); refine goesL_ (some 34) rfl rfl Tryz.func10 (by kernel_rfl) rfl #[.slice Ao19 t334.length co19] rfl (by (try simp only [List.map_toArray, List.map_cons, List.map_nil]); first | done | rfl | (simp only [List.length_drop, List.length_take]; rfl)) ?_; (with_reducible refine (graftwoodref18_May.calls k _ _ t334 t346 _ ?side1 ?side2 A10.out).mono ?_); (case side1 => repeat (first | exact (Kd.R_reads' HO336.out).2.2 | (with_reducible refine Kd.C_alloc ?_ _) | (with_reducible refine Kd.C_drewN ?_ _) | (with_reducible refine Kd.C_drew ?_))); (case side2 => exact (Kd.R_reads' HO336.out).2.1); rintro e w22 ⟨rfl, hb⟩; refine ⟨_, rfl, ?_⟩; have n0_ := Aside0.mk (Kd.R_below (by (with_reducible repeat (first | apply Kd.R_alloc | apply Kd.R_drewN | apply Kd.R_drew)); exact HO330.out) hb); have n1_ := Aside0.mk (Kd.R_below (by (with_reducible repeat (first | apply Kd.R_alloc | apply Kd.R_drewN | apply Kd.R_drew)); exact HO333.out) hb); have n2_ := Aside0.mk (Kd.R_below (by (with_reducible repeat (first | apply Kd.R_alloc | apply Kd.R_drewN | apply Kd.R_drew)); exact HO336.out) hb); have n3_ := Aside0.mk (Kd.R_below (by (with_reducible repeat (first | apply Kd.R_alloc | apply Kd.R_drewN | apply Kd.R_drew)); exact HO340.out) hb); have n4_ := Aside0.mk (Kd.S_below (by (with_reducible repeat (first | apply Kd.S_alloc | apply Kd.S_drewN | apply Kd.S_drew)); exact HO344.out) hb); have n5_ := Aside0.mk (below_step (by repeat (first | (with_reducible first | exact HB.out | apply below_alloc | apply pw_below_drewN | apply below_drew1) | exact HB.out)) hb); clear HO330; clear HO333; clear HO336; clear HO340; clear HO344; clear HB; have HO330 := n0_; have HO333 := n1_; have HO336 := n2_; have HO340 := n3_; have HO344 := n4_; have HB := n5_; clear n0_ n1_ n2_ n3_ n4_ n5_; (try clear hb); (try clear hb2); (try clear hk); (try clear hi)))
  (try simp only [Act.put, List.setIfInBounds_toArray, List.set_cons_zero, List.set_cons_succ])
  go_cut [43] (fun v43 wc => ∃ (kq : Nat) (x43_11 : Bool), v43 = .bool x43_11 ∧ Aside0 (graftwoodlaw18_LackTells.j0 kq t328 t331 t334 t337 t338 t341 t342 x43_11 = some r) ∧ Aside0 (kq ≤ k) ∧ Aside0 (Kd.R k42 42 wc w.heap.size (fun k_ => some k_ ≠ ((.slice Ao17 t331.length co17) : Value).ownBlock ∧ some k_ ≠ (v339 : Value).ownBlock) (.slice Ao16 t328.length co16) t328) ∧ Aside0 (Kd.R k42 42 wc w.heap.size (fun k_ => some k_ ≠ ((.slice Ao16 t328.length co16) : Value).ownBlock ∧ some k_ ≠ (v339 : Value).ownBlock) (.slice Ao17 t331.length co17) t331) ∧ Aside0 (Kd.R k51 51 wc w.heap.size (fun _ => True) (.slice Ao19 t334.length co19) t334) ∧ Aside0 (Kd.R k42 42 wc w.heap.size (fun k_ => some k_ ≠ ((.slice Ao16 t328.length co16) : Value).ownBlock ∧ some k_ ≠ ((.slice Ao17 t331.length co17) : Value).ownBlock) v339 t337) ∧ Aside0 (Kd.S k55 55 wc w.heap.size (fun k_ => some k_ ≠ ((.slice Ao16 t328.length co16) : Value).ownBlock ∧ some k_ ≠ ((.slice Ao17 t331.length co17) : Value).ownBlock ∧ some k_ ≠ (v339 : Value).ownBlock) v343 t341) ∧ Aside0 (Below w.heap.size w wc))
  case first =>
   have H := HC12.out
   clear HC12
   replace H := Option.bind_eq_some_iff.mp H
   obtain ⟨t347, A230, H⟩ := H
   replace H : (if t347 = true then ((graftwoodref05_Check.f k t331).bind fun t348 => (graftwoodlaw18_LackTells.j0 k t328 t331 t334 t337 t338 t341 t342 (!t348))) else (graftwoodlaw18_LackTells.j0 k t328 t331 t334 t337 t338 t341 t342 true)) = some r := H
   have A23 := Aside0.mk A230
   clear A230
   by_cases c24 : t347 = true
   ·subst c24
    have H1 : ((graftwoodref05_Check.f k t331).bind fun t348 => (graftwoodlaw18_LackTells.j0 k t328 t331 t334 t337 t338 t341 t342 (!t348))) = some r := by rw [if_pos rfl] at H; exact H
    clear H
    have H := H1
    clear H1
    replace H := Option.bind_eq_some_iff.mp H
    obtain ⟨t348, A250, H⟩ := H
    replace H : (graftwoodlaw18_LackTells.j0 k t328 t331 t334 t337 t338 t341 t342 (!t348)) = some r := H
    have A25 := Aside0.mk A250
    clear A250
    have H' := Aside0.mk H
    clear H
    go_wp2_with (first | ((with_reducible refine gate_callee (f := 11) rfl ?_); refine goesL_ (some 37) rfl rfl Tryz.func11 (by kernel_rfl) rfl #[.slice Ao16 t328.length co16] rfl (by (try simp only [List.map_toArray, List.map_cons, List.map_nil]); first | done | rfl | (simp only [List.length_drop, List.length_take]; rfl)) ?_; (with_reducible refine (graftwoodref05_Check.calls k _ _ t328 true _ ?side1 ?side2 A23.out).mono ?_); (case side1 => repeat (first | exact (Kd.R_reads' HO330.out).2.2 | (with_reducible refine Kd.C_alloc ?_ _) | (with_reducible refine Kd.C_drewN ?_ _) | (with_reducible refine Kd.C_drew ?_))); (case side2 => exact (Kd.R_reads' HO330.out).2.1); rintro e w26 ⟨rfl, hb⟩; refine ⟨_, rfl, ?_⟩; have n0_ := Aside0.mk (Kd.R_below (by (with_reducible repeat (first | apply Kd.R_alloc | apply Kd.R_drewN | apply Kd.R_drew)); exact HO330.out) hb); have n1_ := Aside0.mk (Kd.R_below (by (with_reducible repeat (first | apply Kd.R_alloc | apply Kd.R_drewN | apply Kd.R_drew)); exact HO333.out) hb); have n2_ := Aside0.mk (Kd.R_below (by (with_reducible repeat (first | apply Kd.R_alloc | apply Kd.R_drewN | apply Kd.R_drew)); exact HO336.out) hb); have n3_ := Aside0.mk (Kd.R_below (by (with_reducible repeat (first | apply Kd.R_alloc | apply Kd.R_drewN | apply Kd.R_drew)); exact HO340.out) hb); have n4_ := Aside0.mk (Kd.S_below (by (with_reducible repeat (first | apply Kd.S_alloc | apply Kd.S_drewN | apply Kd.S_drew)); exact HO344.out) hb); have n5_ := Aside0.mk (below_step (by repeat (first | (with_reducible first | exact HB.out | apply below_alloc | apply pw_below_drewN | apply below_drew1) | exact HB.out)) hb); clear HO330; clear HO333; clear HO336; clear HO340; clear HO344; clear HB; have HO330 := n0_; have HO333 := n1_; have HO336 := n2_; have HO340 := n3_; have HO344 := n4_; have HB := n5_; clear n0_ n1_ n2_ n3_ n4_ n5_; (try clear hb); (try clear hb2); (try clear hk); (try clear hi)) | (go_at_call 11; (with_reducible refine (graftwoodref05_Check.calls k _ _ t331 t348 _ ?side1 ?side2 A25.out).mono ?_); (case side1 => repeat (first | exact (Kd.R_reads' HO333.out).2.2 | (with_reducible refine Kd.C_alloc ?_ _) | (with_reducible refine Kd.C_drewN ?_ _) | (with_reducible refine Kd.C_drew ?_))); (case side2 => exact (Kd.R_reads' HO333.out).2.1); rintro e w27 ⟨rfl, hb⟩; have n0_ := Aside0.mk (Kd.R_below (by (with_reducible repeat (first | apply Kd.R_alloc | apply Kd.R_drewN | apply Kd.R_drew)); exact HO330.out) hb); have n1_ := Aside0.mk (Kd.R_below (by (with_reducible repeat (first | apply Kd.R_alloc | apply Kd.R_drewN | apply Kd.R_drew)); exact HO333.out) hb); have n2_ := Aside0.mk (Kd.R_below (by (with_reducible repeat (first | apply Kd.R_alloc | apply Kd.R_drewN | apply Kd.R_drew)); exact HO336.out) hb); have n3_ := Aside0.mk (Kd.R_below (by (with_reducible repeat (first | apply Kd.R_alloc | apply Kd.R_drewN | apply Kd.R_drew)); exact HO340.out) hb); have n4_ := Aside0.mk (Kd.S_below (by (with_reducible repeat (first | apply Kd.S_alloc | apply Kd.S_drewN | apply Kd.S_drew)); exact HO344.out) hb); have n5_ := Aside0.mk (below_step (by repeat (first | (with_reducible first | exact HB.out | apply below_alloc | apply pw_below_drewN | apply below_drew1) | exact HB.out)) hb); clear HO330; clear HO333; clear HO336; clear HO340; clear HO344; clear HB; have HO330 := n0_; have HO333 := n1_; have HO336 := n2_; have HO340 := n3_; have HO344 := n4_; have HB := n5_; clear n0_ n1_ n2_ n3_ n4_ n5_; (try clear hb); (try clear hb2); (try clear hk); (try clear hi)))
    go_meet
    case rel => exact ⟨_, (!t348), (by first | rfl | (simp; done) | (simp [*]; done)), H', ⟨by first | omega | exact Nat.le_refl _⟩, ⟨by (with_reducible repeat (first | apply Kd.R_alloc | apply Kd.R_drewN | apply Kd.R_drew)); exact Kd.R_mono HO330.out (fun _ hk => ⟨hk.1.2, hk.2⟩)⟩, ⟨by (with_reducible repeat (first | apply Kd.R_alloc | apply Kd.R_drewN | apply Kd.R_drew)); exact Kd.R_mono HO333.out (fun _ hk => ⟨hk.1.2, hk.2⟩)⟩, ⟨by (with_reducible repeat (first | apply Kd.R_alloc | apply Kd.R_drewN | apply Kd.R_drew)); exact HO336.out⟩, ⟨by (with_reducible repeat (first | apply Kd.R_alloc | apply Kd.R_drewN | apply Kd.R_drew)); exact Kd.R_mono HO340.out (fun _ hk => ⟨hk.1.2, hk.2⟩)⟩, ⟨by (with_reducible repeat (first | apply Kd.S_alloc | apply Kd.S_drewN | apply Kd.S_drew)); exact Kd.S_mono HO344.out (fun _ hk => ⟨hk.1.1.2, ⟨hk.1.2, hk.2⟩⟩)⟩, ⟨by repeat (first | (with_reducible first | exact HB.out | apply below_alloc | apply pw_below_drewN | apply below_drew1) | exact HB.out)⟩⟩
   ·replace c24 := Bool.eq_false_iff.mpr c24
    subst c24
    have H1 : (graftwoodlaw18_LackTells.j0 k t328 t331 t334 t337 t338 t341 t342 true) = some r := by rw [if_neg (show ¬ (false = true) by decide)] at H; exact H
    clear H
    have H := H1
    clear H1
    have H' := Aside0.mk H
    clear H
    go_wp2_with (first | ((with_reducible refine gate_callee (f := 11) rfl ?_); refine goesL_ (some 37) rfl rfl Tryz.func11 (by kernel_rfl) rfl #[.slice Ao16 t328.length co16] rfl (by (try simp only [List.map_toArray, List.map_cons, List.map_nil]); first | done | rfl | (simp only [List.length_drop, List.length_take]; rfl)) ?_; (with_reducible refine (graftwoodref05_Check.calls k _ _ t328 false _ ?side1 ?side2 A23.out).mono ?_); (case side1 => repeat (first | exact (Kd.R_reads' HO330.out).2.2 | (with_reducible refine Kd.C_alloc ?_ _) | (with_reducible refine Kd.C_drewN ?_ _) | (with_reducible refine Kd.C_drew ?_))); (case side2 => exact (Kd.R_reads' HO330.out).2.1); rintro e w28 ⟨rfl, hb⟩; refine ⟨_, rfl, ?_⟩; have n0_ := Aside0.mk (Kd.R_below (by (with_reducible repeat (first | apply Kd.R_alloc | apply Kd.R_drewN | apply Kd.R_drew)); exact HO330.out) hb); have n1_ := Aside0.mk (Kd.R_below (by (with_reducible repeat (first | apply Kd.R_alloc | apply Kd.R_drewN | apply Kd.R_drew)); exact HO333.out) hb); have n2_ := Aside0.mk (Kd.R_below (by (with_reducible repeat (first | apply Kd.R_alloc | apply Kd.R_drewN | apply Kd.R_drew)); exact HO336.out) hb); have n3_ := Aside0.mk (Kd.R_below (by (with_reducible repeat (first | apply Kd.R_alloc | apply Kd.R_drewN | apply Kd.R_drew)); exact HO340.out) hb); have n4_ := Aside0.mk (Kd.S_below (by (with_reducible repeat (first | apply Kd.S_alloc | apply Kd.S_drewN | apply Kd.S_drew)); exact HO344.out) hb); have n5_ := Aside0.mk (below_step (by repeat (first | (with_reducible first | exact HB.out | apply below_alloc | apply pw_below_drewN | apply below_drew1) | exact HB.out)) hb); clear HO330; clear HO333; clear HO336; clear HO340; clear HO344; clear HB; have HO330 := n0_; have HO333 := n1_; have HO336 := n2_; have HO340 := n3_; have HO344 := n4_; have HB := n5_; clear n0_ n1_ n2_ n3_ n4_ n5_; (try clear hb); (try clear hb2); (try clear hk); (try clear hi)))
    go_meet
    case rel => exact ⟨_, (true), (by first | rfl | (simp; done) | (simp [*]; done)), H', ⟨by first | omega | exact Nat.le_refl _⟩, ⟨by (with_reducible repeat (first | apply Kd.R_alloc | apply Kd.R_drewN | apply Kd.R_drew)); exact Kd.R_mono HO330.out (fun _ hk => ⟨hk.1.2, hk.2⟩)⟩, ⟨by (with_reducible repeat (first | apply Kd.R_alloc | apply Kd.R_drewN | apply Kd.R_drew)); exact Kd.R_mono HO333.out (fun _ hk => ⟨hk.1.2, hk.2⟩)⟩, ⟨by (with_reducible repeat (first | apply Kd.R_alloc | apply Kd.R_drewN | apply Kd.R_drew)); exact HO336.out⟩, ⟨by (with_reducible repeat (first | apply Kd.R_alloc | apply Kd.R_drewN | apply Kd.R_drew)); exact Kd.R_mono HO340.out (fun _ hk => ⟨hk.1.2, hk.2⟩)⟩, ⟨by (with_reducible repeat (first | apply Kd.S_alloc | apply Kd.S_drewN | apply Kd.S_drew)); exact Kd.S_mono HO344.out (fun _ hk => ⟨hk.1.1.2, ⟨hk.1.2, hk.2⟩⟩)⟩, ⟨by repeat (first | (with_reducible first | exact HB.out | apply below_alloc | apply pw_below_drewN | apply below_drew1) | exact HB.out)⟩⟩
  case rest =>
   clear HC12
   try clear c1
   try clear c2
   try clear p2
   try clear c3
   try clear c5
   try clear c6
   try clear c7
   try clear c8
   try clear c9
   try clear c10
   try clear c11
   try clear c11b0
   try clear c11b1
   try clear c11b2
   try clear c24
   obtain ⟨kq, x43_11, rfl, HA, HJ11, HO_0, HO_1, HO_2, HO_7, HO_9, HB⟩ := hcut
   cases kq with
   | zero => exact absurd HA.out (by simp [graftwoodlaw18_LackTells.j0])
   | succ kj11 =>
    have H := HA.out
    clear HA
    simp only [graftwoodlaw18_LackTells.j0] at H
    by_cases c29 : x43_11 = true
    ·subst c29
     have H1 : (if (t337.length : Int) = 0 then (if t338 = 1 then (if (t341.length : Int) = 0 then (if t342 = 1 then ((graftwoodlaw18_awake.f).bind fun t349 => (some t349)) else (some false)) else (some false)) else (some false)) else (some false)) = some r := by rw [if_pos rfl] at H; exact H
     clear H
     have H := H1
     clear H1
     by_cases c30 : (t337.length : Int) = 0
     ·rw [if_pos c30] at H
      have c30b0 : ((t337.length : Int) == 0) = true := beq_iff_eq.mpr c30
      have c30b1 : ((t337.length : Int) != 0) = false := bne_eq_false_iff_eq.mpr c30
      clear c30
      by_cases c31 : t338 = 1
      ·rw [if_pos c31] at H
       have c31b0 : (t338 == 1) = true := beq_iff_eq.mpr c31
       have c31b1 : (t338 != 1) = false := bne_eq_false_iff_eq.mpr c31
       clear c31
       by_cases c32 : (t341.length : Int) = 0
       ·rw [if_pos c32] at H
        have c32b0 : ((t341.length : Int) == 0) = true := beq_iff_eq.mpr c32
        have c32b1 : ((t341.length : Int) != 0) = false := bne_eq_false_iff_eq.mpr c32
        clear c32
        by_cases c33 : t342 = 1
        ·rw [if_pos c33] at H
         have c33b0 : (t342 == 1) = true := beq_iff_eq.mpr c33
         have c33b1 : (t342 != 1) = false := bne_eq_false_iff_eq.mpr c33
         clear c33
         replace H := Option.bind_eq_some_iff.mp H
         obtain ⟨t349, A340, H⟩ := H
         replace H : (some t349) = some r := H
         have A34 := Aside0.mk A340
         clear A340
         obtain rfl := Option.some.inj H
         obtain ⟨Ao35, co35, eo35⟩ := Kd.R_slice HO_7.out
         subst eo35
         obtain ⟨Ao36, co36, eo36⟩ := Kd.S_slice HO_9.out
         subst eo36
         go_wp2_with (first | (go_at_call 12; (with_reducible refine (graftwoodlaw18_awake.calls  t349 _ A34.out HR_).mono ?_); rintro e w37 ⟨rfl, hb⟩; have n0_ := Aside0.mk (Kd.R_below (by (with_reducible repeat (first | apply Kd.R_alloc | apply Kd.R_drewN | apply Kd.R_drew)); exact HO_0.out) hb); have n1_ := Aside0.mk (Kd.R_below (by (with_reducible repeat (first | apply Kd.R_alloc | apply Kd.R_drewN | apply Kd.R_drew)); exact HO_1.out) hb); have n2_ := Aside0.mk (Kd.R_below (by (with_reducible repeat (first | apply Kd.R_alloc | apply Kd.R_drewN | apply Kd.R_drew)); exact HO_2.out) hb); have n3_ := Aside0.mk (Kd.R_below (by (with_reducible repeat (first | apply Kd.R_alloc | apply Kd.R_drewN | apply Kd.R_drew)); exact HO_7.out) hb); have n4_ := Aside0.mk (Kd.S_below (by (with_reducible repeat (first | apply Kd.S_alloc | apply Kd.S_drewN | apply Kd.S_drew)); exact HO_9.out) hb); have n5_ := Aside0.mk (below_step (by repeat (first | (with_reducible first | exact HB.out | apply below_alloc | apply pw_below_drewN | apply below_drew1) | exact HB.out)) hb); clear HO_0; clear HO_1; clear HO_2; clear HO_7; clear HO_9; clear HB; have HO_0 := n0_; have HO_1 := n1_; have HO_2 := n2_; have HO_7 := n3_; have HO_9 := n4_; have HB := n5_; clear n0_ n1_ n2_ n3_ n4_ n5_; (try clear hb); (try clear hb2); (try clear hk); (try clear hi)))
         go_ret
         exact ⟨by first | rfl | (simp [errW_none, errW_some] <;> rfl) | (simp [*, errW_none, errW_some] <;> rfl), by repeat (first | (with_reducible first | exact HB.out | apply below_alloc | apply pw_below_drewN | apply below_drew1) | exact HB.out)⟩
        ·rw [if_neg c33] at H
         have c33b0 : (t342 == 1) = false := beq_eq_false_iff_ne.mpr c33
         have c33b1 : (t342 != 1) = true := bne_iff_ne.mpr c33
         exact absurd ((Option.some.inj H).trans HR_.out) (by decide)
       ·rw [if_neg c32] at H
        have c32b0 : ((t341.length : Int) == 0) = false := beq_eq_false_iff_ne.mpr c32
        have c32b1 : ((t341.length : Int) != 0) = true := bne_iff_ne.mpr c32
        have c32b2 : ¬ (t341 = []) := fun h_ => c32 (by rw [h_]; rfl)
        exact absurd ((Option.some.inj H).trans HR_.out) (by decide)
      ·rw [if_neg c31] at H
       have c31b0 : (t338 == 1) = false := beq_eq_false_iff_ne.mpr c31
       have c31b1 : (t338 != 1) = true := bne_iff_ne.mpr c31
       exact absurd ((Option.some.inj H).trans HR_.out) (by decide)
     ·rw [if_neg c30] at H
      have c30b0 : ((t337.length : Int) == 0) = false := beq_eq_false_iff_ne.mpr c30
      have c30b1 : ((t337.length : Int) != 0) = true := bne_iff_ne.mpr c30
      have c30b2 : ¬ (t337 = []) := fun h_ => c30 (by rw [h_]; rfl)
      exact absurd ((Option.some.inj H).trans HR_.out) (by decide)
    ·replace c29 := Bool.eq_false_iff.mpr c29
     subst c29
     have H1 : ((graftwoodref05_Minus.f kj11 t328 t331).bind fun t350 => ((graftwoodref05_Same.f kj11 t337 t350).bind fun t353 => (if t353 = true then (graftwoodlaw18_LackTells.j1 kj11 t328 t331 t334 t341 t342 (t338 != 0)) else (graftwoodlaw18_LackTells.j1 kj11 t328 t331 t334 t341 t342 true)))) = some r := by rw [if_neg (show ¬ (false = true) by decide)] at H; exact H
     clear H
     have H := H1
     clear H1
     have HC38 := Aside0.mk H
     clear H
     go_upto_region 8 with (fail)
     go_cut [72] (fun v72 wc => ∃ (kq : Nat) (x72_37 : Bool), v72 = .bool x72_37 ∧ Aside0 (graftwoodlaw18_LackTells.j1 kq t328 t331 t334 t341 t342 x72_37 = some r) ∧ Aside0 (kq ≤ kj11) ∧ Aside0 (Kd.R k42 42 wc w.heap.size (fun k_ => some k_ ≠ ((.slice Ao17 t331.length co17) : Value).ownBlock) (.slice Ao16 t328.length co16) t328) ∧ Aside0 (Kd.R k42 42 wc w.heap.size (fun k_ => some k_ ≠ ((.slice Ao16 t328.length co16) : Value).ownBlock) (.slice Ao17 t331.length co17) t331) ∧ Aside0 (Kd.R k51 51 wc w.heap.size (fun _ => True) (.slice Ao19 t334.length co19) t334) ∧ Aside0 (Kd.S k55 55 wc w.heap.size (fun k_ => some k_ ≠ ((.slice Ao16 t328.length co16) : Value).ownBlock ∧ some k_ ≠ ((.slice Ao17 t331.length co17) : Value).ownBlock) v343 t341) ∧ Aside0 (Below w.heap.size w wc))
     case first =>
      have H := HC38.out
      clear HC38
      replace H := Option.bind_eq_some_iff.mp H
      obtain ⟨t350, A390, H⟩ := H
      replace H : ((graftwoodref05_Same.f kj11 t337 t350).bind fun t353 => (if t353 = true then (graftwoodlaw18_LackTells.j1 kj11 t328 t331 t334 t341 t342 (t338 != 0)) else (graftwoodlaw18_LackTells.j1 kj11 t328 t331 t334 t341 t342 true))) = some r := H
      have A39 := Aside0.mk A390
      clear A390
      replace H := Option.bind_eq_some_iff.mp H
      obtain ⟨t353, A400, H⟩ := H
      replace H : (if t353 = true then (graftwoodlaw18_LackTells.j1 kj11 t328 t331 t334 t341 t342 (t338 != 0)) else (graftwoodlaw18_LackTells.j1 kj11 t328 t331 t334 t341 t342 true)) = some r := H
      have A40 := Aside0.mk A400
      clear A400
      by_cases c41 : t353 = true
      ·subst c41
       have H1 : (graftwoodlaw18_LackTells.j1 kj11 t328 t331 t334 t341 t342 (t338 != 0)) = some r := by rw [if_pos rfl] at H; exact H
       clear H
       have H := H1
       clear H1
       have H' := Aside0.mk H
       clear H
       go_wp2_with (first | ((with_reducible refine gate_callee (f := 14) rfl ?_); refine goesL_ (some 66) rfl rfl Tryz.func14 (by kernel_rfl) rfl #[.slice Ao16 t328.length co16, .slice Ao17 t331.length co17] rfl (by (try simp only [List.map_toArray, List.map_cons, List.map_nil]); first | done | rfl | (simp only [List.length_drop, List.length_take]; rfl)) ?_; (with_reducible refine (graftwoodref05_Minus.calls kj11 _ _ t328 _ _ t331 t350 _ ?side1 ?side2 ?side3 ?side4 A39.out).mono ?_); (case side1 => repeat (first | exact (Kd.R_reads' HO_0.out).2.2 | (with_reducible refine Kd.C_alloc ?_ _) | (with_reducible refine Kd.C_drewN ?_ _) | (with_reducible refine Kd.C_drew ?_))); (case side2 => exact (Kd.R_reads' HO_0.out).2.1); (case side3 => repeat (first | exact (Kd.R_reads' HO_1.out).2.2 | (with_reducible refine Kd.C_alloc ?_ _) | (with_reducible refine Kd.C_drewN ?_ _) | (with_reducible refine Kd.C_drew ?_))); (case side4 => exact (Kd.R_reads' HO_1.out).2.1); rintro e w42 ⟨v351, rfl, ho0, hb⟩; refine ⟨_, rfl, ?_⟩; have n0_ := Aside0.mk (Kd.R_elder' (by (with_reducible repeat (first | apply Kd.R_alloc | apply Kd.R_drewN | apply Kd.R_drew)); exact HO_0.out) (Kd.R_base ho0) hb); have n1_ := Aside0.mk (Kd.R_elder' (by (with_reducible repeat (first | apply Kd.R_alloc | apply Kd.R_drewN | apply Kd.R_drew)); exact HO_1.out) (Kd.R_base ho0) hb); have n2_ := Aside0.mk (Kd.R_below (by (with_reducible repeat (first | apply Kd.R_alloc | apply Kd.R_drewN | apply Kd.R_drew)); exact HO_2.out) hb); have n3_ := Aside0.mk (Kd.R_elder' (by (with_reducible repeat (first | apply Kd.R_alloc | apply Kd.R_drewN | apply Kd.R_drew)); exact HO_7.out) (Kd.R_base ho0) hb); have n4_ := Aside0.mk (Kd.S_elder' (by (with_reducible repeat (first | apply Kd.S_alloc | apply Kd.S_drewN | apply Kd.S_drew)); exact HO_9.out) (Kd.R_base ho0) hb); have n5_ := Aside0.mk (Kd.R_lower (Kd.R_new' (Kd.R_new' (Kd.R_new' ho0 (Kd.R_lt (by (with_reducible repeat (first | apply Kd.R_alloc | apply Kd.R_drewN | apply Kd.R_drew)); exact HO_0.out))) (Kd.R_lt (by (with_reducible repeat (first | apply Kd.R_alloc | apply Kd.R_drewN | apply Kd.R_drew)); exact HO_1.out))) (Kd.R_lt (by (with_reducible repeat (first | apply Kd.R_alloc | apply Kd.R_drewN | apply Kd.R_drew)); exact HO_7.out))) (below_size (by repeat (first | (with_reducible first | exact HB.out | apply below_alloc | apply pw_below_drewN | apply below_drew1) | exact HB.out)))); have n6_ := Aside0.mk (below_step (by repeat (first | (with_reducible first | exact HB.out | apply below_alloc | apply pw_below_drewN | apply below_drew1) | exact HB.out)) hb); clear HO_0; clear HO_1; clear HO_2; clear HO_7; clear HO_9; clear HB; have HO_0 := n0_; have HO_1 := n1_; have HO_2 := n2_; have HO_7 := n3_; have HO_9 := n4_; have HO352 := n5_; have HB := n6_; clear n0_ n1_ n2_ n3_ n4_ n5_ n6_; (try clear hb); (try clear hb2); (try clear hk); (try clear hi); (try clear ho0); obtain ⟨Ao43, co43, eo43⟩ := Kd.R_slice HO_7.out; subst eo43; obtain ⟨Ao44, co44, eo44⟩ := Kd.R_slice HO352.out; subst eo44) | ((with_reducible refine gate_callee (f := 13) rfl ?_); refine goesL_ (some 67) rfl rfl Tryz.func13 (by kernel_rfl) rfl #[.slice Ao43 t337.length co43, .slice Ao44 t350.length co44] rfl (by (try simp only [List.map_toArray, List.map_cons, List.map_nil]); first | done | rfl | (simp only [List.length_drop, List.length_take]; rfl)) ?_; (with_reducible refine (graftwoodref05_Same.calls kj11 _ _ t337 _ _ t350 true _ ?side1 ?side2 ?side3 ?side4 A40.out).mono ?_); (case side1 => repeat (first | exact (Kd.R_reads' HO_7.out).2.2 | (with_reducible refine Kd.C_alloc ?_ _) | (with_reducible refine Kd.C_drewN ?_ _) | (with_reducible refine Kd.C_drew ?_))); (case side2 => exact (Kd.R_reads' HO_7.out).2.1); (case side3 => repeat (first | exact (Kd.R_reads' HO352.out).2.2 | (with_reducible refine Kd.C_alloc ?_ _) | (with_reducible refine Kd.C_drewN ?_ _) | (with_reducible refine Kd.C_drew ?_))); (case side4 => exact (Kd.R_reads' HO352.out).2.1); rintro e w' ⟨rfl, ⟨nd, rfl⟩⟩; refine ⟨_, rfl, ?_⟩))
       go_meet
       case rel => exact ⟨_, ((t338 != 0)), (by first | rfl | (simp; done) | (simp [*]; done)), H', ⟨by have := HJ11.out; first | omega | exact Nat.le_refl _⟩, ⟨by (with_reducible repeat (first | apply Kd.R_alloc | apply Kd.R_drewN | apply Kd.R_drew)); exact Kd.R_mono HO_0.out (fun _ hk => hk.1.1)⟩, ⟨by (with_reducible repeat (first | apply Kd.R_alloc | apply Kd.R_drewN | apply Kd.R_drew)); exact Kd.R_mono HO_1.out (fun _ hk => hk.1.1)⟩, ⟨by (with_reducible repeat (first | apply Kd.R_alloc | apply Kd.R_drewN | apply Kd.R_drew)); exact HO_2.out⟩, ⟨by (with_reducible repeat (first | apply Kd.S_alloc | apply Kd.S_drewN | apply Kd.S_drew)); exact Kd.S_mono HO_9.out (fun _ hk => ⟨hk.1.1, hk.1.2.1⟩)⟩, ⟨by repeat (first | (with_reducible first | exact HB.out | apply below_alloc | apply pw_below_drewN | apply below_drew1) | exact HB.out)⟩⟩
      ·replace c41 := Bool.eq_false_iff.mpr c41
       subst c41
       have H1 : (graftwoodlaw18_LackTells.j1 kj11 t328 t331 t334 t341 t342 true) = some r := by rw [if_neg (show ¬ (false = true) by decide)] at H; exact H
       clear H
       have H := H1
       clear H1
       have H' := Aside0.mk H
       clear H
       go_wp2_with (first | ((with_reducible refine gate_callee (f := 14) rfl ?_); refine goesL_ (some 66) rfl rfl Tryz.func14 (by kernel_rfl) rfl #[.slice Ao16 t328.length co16, .slice Ao17 t331.length co17] rfl (by (try simp only [List.map_toArray, List.map_cons, List.map_nil]); first | done | rfl | (simp only [List.length_drop, List.length_take]; rfl)) ?_; (with_reducible refine (graftwoodref05_Minus.calls kj11 _ _ t328 _ _ t331 t350 _ ?side1 ?side2 ?side3 ?side4 A39.out).mono ?_); (case side1 => repeat (first | exact (Kd.R_reads' HO_0.out).2.2 | (with_reducible refine Kd.C_alloc ?_ _) | (with_reducible refine Kd.C_drewN ?_ _) | (with_reducible refine Kd.C_drew ?_))); (case side2 => exact (Kd.R_reads' HO_0.out).2.1); (case side3 => repeat (first | exact (Kd.R_reads' HO_1.out).2.2 | (with_reducible refine Kd.C_alloc ?_ _) | (with_reducible refine Kd.C_drewN ?_ _) | (with_reducible refine Kd.C_drew ?_))); (case side4 => exact (Kd.R_reads' HO_1.out).2.1); rintro e w45 ⟨v351, rfl, ho0, hb⟩; refine ⟨_, rfl, ?_⟩; have n0_ := Aside0.mk (Kd.R_elder' (by (with_reducible repeat (first | apply Kd.R_alloc | apply Kd.R_drewN | apply Kd.R_drew)); exact HO_0.out) (Kd.R_base ho0) hb); have n1_ := Aside0.mk (Kd.R_elder' (by (with_reducible repeat (first | apply Kd.R_alloc | apply Kd.R_drewN | apply Kd.R_drew)); exact HO_1.out) (Kd.R_base ho0) hb); have n2_ := Aside0.mk (Kd.R_below (by (with_reducible repeat (first | apply Kd.R_alloc | apply Kd.R_drewN | apply Kd.R_drew)); exact HO_2.out) hb); have n3_ := Aside0.mk (Kd.R_elder' (by (with_reducible repeat (first | apply Kd.R_alloc | apply Kd.R_drewN | apply Kd.R_drew)); exact HO_7.out) (Kd.R_base ho0) hb); have n4_ := Aside0.mk (Kd.S_elder' (by (with_reducible repeat (first | apply Kd.S_alloc | apply Kd.S_drewN | apply Kd.S_drew)); exact HO_9.out) (Kd.R_base ho0) hb); have n5_ := Aside0.mk (Kd.R_lower (Kd.R_new' (Kd.R_new' (Kd.R_new' ho0 (Kd.R_lt (by (with_reducible repeat (first | apply Kd.R_alloc | apply Kd.R_drewN | apply Kd.R_drew)); exact HO_0.out))) (Kd.R_lt (by (with_reducible repeat (first | apply Kd.R_alloc | apply Kd.R_drewN | apply Kd.R_drew)); exact HO_1.out))) (Kd.R_lt (by (with_reducible repeat (first | apply Kd.R_alloc | apply Kd.R_drewN | apply Kd.R_drew)); exact HO_7.out))) (below_size (by repeat (first | (with_reducible first | exact HB.out | apply below_alloc | apply pw_below_drewN | apply below_drew1) | exact HB.out)))); have n6_ := Aside0.mk (below_step (by repeat (first | (with_reducible first | exact HB.out | apply below_alloc | apply pw_below_drewN | apply below_drew1) | exact HB.out)) hb); clear HO_0; clear HO_1; clear HO_2; clear HO_7; clear HO_9; clear HB; have HO_0 := n0_; have HO_1 := n1_; have HO_2 := n2_; have HO_7 := n3_; have HO_9 := n4_; have HO352 := n5_; have HB := n6_; clear n0_ n1_ n2_ n3_ n4_ n5_ n6_; (try clear hb); (try clear hb2); (try clear hk); (try clear hi); (try clear ho0); obtain ⟨Ao46, co46, eo46⟩ := Kd.R_slice HO_7.out; subst eo46; obtain ⟨Ao47, co47, eo47⟩ := Kd.R_slice HO352.out; subst eo47) | ((with_reducible refine gate_callee (f := 13) rfl ?_); refine goesL_ (some 67) rfl rfl Tryz.func13 (by kernel_rfl) rfl #[.slice Ao46 t337.length co46, .slice Ao47 t350.length co47] rfl (by (try simp only [List.map_toArray, List.map_cons, List.map_nil]); first | done | rfl | (simp only [List.length_drop, List.length_take]; rfl)) ?_; (with_reducible refine (graftwoodref05_Same.calls kj11 _ _ t337 _ _ t350 false _ ?side1 ?side2 ?side3 ?side4 A40.out).mono ?_); (case side1 => repeat (first | exact (Kd.R_reads' HO_7.out).2.2 | (with_reducible refine Kd.C_alloc ?_ _) | (with_reducible refine Kd.C_drewN ?_ _) | (with_reducible refine Kd.C_drew ?_))); (case side2 => exact (Kd.R_reads' HO_7.out).2.1); (case side3 => repeat (first | exact (Kd.R_reads' HO352.out).2.2 | (with_reducible refine Kd.C_alloc ?_ _) | (with_reducible refine Kd.C_drewN ?_ _) | (with_reducible refine Kd.C_drew ?_))); (case side4 => exact (Kd.R_reads' HO352.out).2.1); rintro e w' ⟨rfl, ⟨nd, rfl⟩⟩; refine ⟨_, rfl, ?_⟩))
       go_meet
       case rel => exact ⟨_, (true), (by first | rfl | (simp; done) | (simp [*]; done)), H', ⟨by have := HJ11.out; first | omega | exact Nat.le_refl _⟩, ⟨by (with_reducible repeat (first | apply Kd.R_alloc | apply Kd.R_drewN | apply Kd.R_drew)); exact Kd.R_mono HO_0.out (fun _ hk => hk.1.1)⟩, ⟨by (with_reducible repeat (first | apply Kd.R_alloc | apply Kd.R_drewN | apply Kd.R_drew)); exact Kd.R_mono HO_1.out (fun _ hk => hk.1.1)⟩, ⟨by (with_reducible repeat (first | apply Kd.R_alloc | apply Kd.R_drewN | apply Kd.R_drew)); exact HO_2.out⟩, ⟨by (with_reducible repeat (first | apply Kd.S_alloc | apply Kd.S_drewN | apply Kd.S_drew)); exact Kd.S_mono HO_9.out (fun _ hk => ⟨hk.1.1, hk.1.2.1⟩)⟩, ⟨by repeat (first | (with_reducible first | exact HB.out | apply below_alloc | apply pw_below_drewN | apply below_drew1) | exact HB.out)⟩⟩
     case rest =>
      clear HC38
      try clear c1
      try clear c2
      try clear p2
      try clear c3
      try clear c4
      try clear c5
      try clear c6
      try clear c7
      try clear c8
      try clear c9
      try clear c10
      try clear c11
      try clear c11b0
      try clear c11b1
      try clear c11b2
      try clear c13
      try clear c14
      try clear c24
      try clear c29
      try clear c30
      try clear c30b0
      try clear c30b1
      try clear c30b2
      try clear c31
      try clear c31b0
      try clear c31b1
      try clear c32
      try clear c32b0
      try clear c32b1
      try clear c32b2
      try clear c33
      try clear c33b0
      try clear c33b1
      try clear c41
      try clear p2
      obtain ⟨kq, x72_37, rfl, HA, HJ37, HO_0, HO_1, HO_2, HO_9, HB⟩ := hcut
      cases kq with
      | zero => exact absurd HA.out (by simp [graftwoodlaw18_LackTells.j1])
      | succ kj37 =>
       have H := HA.out
       clear HA
       simp only [graftwoodlaw18_LackTells.j1] at H
       by_cases c48 : x72_37 = true
       ·subst c48
        have H1 : (some false) = some r := by rw [if_pos rfl] at H; exact H
        clear H
        have H := H1
        clear H1
        exact absurd ((Option.some.inj H).trans HR_.out) (by decide)
       ·replace c48 := Bool.eq_false_iff.mpr c48
        subst c48
        have H1 : ((graftwoodref18_May.f kj37 t334).bind fun t354 => (if t354 = true then ((graftwoodref18_Of.f kj37 t328 t331 t334).bind fun t355 => ((graftwoodref18_Same.f kj37 t341 t355).bind fun t358 => (if t358 = true then (if t342 = 0 then ((graftwoodlaw18_awake.f).bind fun t359 => (some t359)) else (some false)) else (some false)))) else (if (t341.length : Int) = 0 then (if t342 = 1 then ((graftwoodlaw18_awake.f).bind fun t360 => (some t360)) else (some false)) else (some false)))) = some r := by rw [if_neg (show ¬ (false = true) by decide)] at H; exact H
        clear H
        have H := H1
        clear H1
        replace H := Option.bind_eq_some_iff.mp H
        obtain ⟨t354, A490, H⟩ := H
        replace H : (if t354 = true then ((graftwoodref18_Of.f kj37 t328 t331 t334).bind fun t355 => ((graftwoodref18_Same.f kj37 t341 t355).bind fun t358 => (if t358 = true then (if t342 = 0 then ((graftwoodlaw18_awake.f).bind fun t359 => (some t359)) else (some false)) else (some false)))) else (if (t341.length : Int) = 0 then (if t342 = 1 then ((graftwoodlaw18_awake.f).bind fun t360 => (some t360)) else (some false)) else (some false))) = some r := H
        have A49 := Aside0.mk A490
        clear A490
        by_cases c50 : t354 = true
        ·subst c50
         have H1 : ((graftwoodref18_Of.f kj37 t328 t331 t334).bind fun t355 => ((graftwoodref18_Same.f kj37 t341 t355).bind fun t358 => (if t358 = true then (if t342 = 0 then ((graftwoodlaw18_awake.f).bind fun t359 => (some t359)) else (some false)) else (some false)))) = some r := by rw [if_pos rfl] at H; exact H
         clear H
         have H := H1
         clear H1
         replace H := Option.bind_eq_some_iff.mp H
         obtain ⟨t355, A510, H⟩ := H
         replace H : ((graftwoodref18_Same.f kj37 t341 t355).bind fun t358 => (if t358 = true then (if t342 = 0 then ((graftwoodlaw18_awake.f).bind fun t359 => (some t359)) else (some false)) else (some false))) = some r := H
         have A51 := Aside0.mk A510
         clear A510
         replace H := Option.bind_eq_some_iff.mp H
         obtain ⟨t358, A520, H⟩ := H
         replace H : (if t358 = true then (if t342 = 0 then ((graftwoodlaw18_awake.f).bind fun t359 => (some t359)) else (some false)) else (some false)) = some r := H
         have A52 := Aside0.mk A520
         clear A520
         by_cases c53 : t358 = true
         ·subst c53
          have H1 : (if t342 = 0 then ((graftwoodlaw18_awake.f).bind fun t359 => (some t359)) else (some false)) = some r := by rw [if_pos rfl] at H; exact H
          clear H
          have H := H1
          clear H1
          by_cases c54 : t342 = 0
          ·rw [if_pos c54] at H
           have c54b0 : (t342 == 0) = true := beq_iff_eq.mpr c54
           have c54b1 : (t342 != 0) = false := bne_eq_false_iff_eq.mpr c54
           clear c54
           replace H := Option.bind_eq_some_iff.mp H
           obtain ⟨t359, A550, H⟩ := H
           replace H : (some t359) = some r := H
           have A55 := Aside0.mk A550
           clear A550
           obtain rfl := Option.some.inj H
           go_wp2_with (first | ((with_reducible refine gate_callee (f := 10) rfl ?_); refine goesL_ (some 74) rfl rfl Tryz.func10 (by kernel_rfl) rfl #[.slice Ao19 t334.length co19] rfl (by (try simp only [List.map_toArray, List.map_cons, List.map_nil]); first | done | rfl | (simp only [List.length_drop, List.length_take]; rfl)) ?_; (with_reducible refine (graftwoodref18_May.calls kj37 _ _ t334 true _ ?side1 ?side2 A49.out).mono ?_); (case side1 => repeat (first | exact (Kd.R_reads' HO_2.out).2.2 | (with_reducible refine Kd.C_alloc ?_ _) | (with_reducible refine Kd.C_drewN ?_ _) | (with_reducible refine Kd.C_drew ?_))); (case side2 => exact (Kd.R_reads' HO_2.out).2.1); rintro e w56 ⟨rfl, hb⟩; refine ⟨_, rfl, ?_⟩; have n0_ := Aside0.mk (Kd.R_below (by (with_reducible repeat (first | apply Kd.R_alloc | apply Kd.R_drewN | apply Kd.R_drew)); exact HO_0.out) hb); have n1_ := Aside0.mk (Kd.R_below (by (with_reducible repeat (first | apply Kd.R_alloc | apply Kd.R_drewN | apply Kd.R_drew)); exact HO_1.out) hb); have n2_ := Aside0.mk (Kd.R_below (by (with_reducible repeat (first | apply Kd.R_alloc | apply Kd.R_drewN | apply Kd.R_drew)); exact HO_2.out) hb); have n3_ := Aside0.mk (Kd.S_below (by (with_reducible repeat (first | apply Kd.S_alloc | apply Kd.S_drewN | apply Kd.S_drew)); exact HO_9.out) hb); have n4_ := Aside0.mk (below_step (by repeat (first | (with_reducible first | exact HB.out | apply below_alloc | apply pw_below_drewN | apply below_drew1) | exact HB.out)) hb); clear HO_0; clear HO_1; clear HO_2; clear HO_9; clear HB; have HO_0 := n0_; have HO_1 := n1_; have HO_2 := n2_; have HO_9 := n3_; have HB := n4_; clear n0_ n1_ n2_ n3_ n4_; (try clear hb); (try clear hb2); (try clear hk); (try clear hi)) | ((with_reducible refine gate_callee (f := 16) rfl ?_); refine goesL_ (some 90) rfl rfl Tryz.func16 (by kernel_rfl) rfl #[.slice Ao16 t328.length co16, .slice Ao17 t331.length co17, .slice Ao19 t334.length co19] rfl (by (try simp only [List.map_toArray, List.map_cons, List.map_nil]); first | done | rfl | (simp only [List.length_drop, List.length_take]; rfl)) ?_; (with_reducible refine (graftwoodref18_Of.calls kj37 _ _ t328 _ _ t331 _ _ t334 t355 _ ?side1 ?side2 ?side3 ?side4 ?side5 ?side6 A51.out).mono ?_); (case side1 => repeat (first | exact (Kd.R_reads' HO_0.out).2.2 | (with_reducible refine Kd.C_alloc ?_ _) | (with_reducible refine Kd.C_drewN ?_ _) | (with_reducible refine Kd.C_drew ?_))); (case side2 => exact (Kd.R_reads' HO_0.out).2.1); (case side3 => repeat (first | exact (Kd.R_reads' HO_1.out).2.2 | (with_reducible refine Kd.C_alloc ?_ _) | (with_reducible refine Kd.C_drewN ?_ _) | (with_reducible refine Kd.C_drew ?_))); (case side4 => exact (Kd.R_reads' HO_1.out).2.1); (case side5 => repeat (first | exact (Kd.R_reads' HO_2.out).2.2 | (with_reducible refine Kd.C_alloc ?_ _) | (with_reducible refine Kd.C_drewN ?_ _) | (with_reducible refine Kd.C_drew ?_))); (case side6 => exact (Kd.R_reads' HO_2.out).2.1); rintro e w57 ⟨v356, rfl, ho0, hb⟩; refine ⟨_, rfl, ?_⟩; have n0_ := Aside0.mk (Kd.R_below (by (with_reducible repeat (first | apply Kd.R_alloc | apply Kd.R_drewN | apply Kd.R_drew)); exact HO_0.out) hb); have n1_ := Aside0.mk (Kd.R_below (by (with_reducible repeat (first | apply Kd.R_alloc | apply Kd.R_drewN | apply Kd.R_drew)); exact HO_1.out) hb); have n2_ := Aside0.mk (Kd.R_below (by (with_reducible repeat (first | apply Kd.R_alloc | apply Kd.R_drewN | apply Kd.R_drew)); exact HO_2.out) hb); have n3_ := Aside0.mk (Kd.S_elder' (by (with_reducible repeat (first | apply Kd.S_alloc | apply Kd.S_drewN | apply Kd.S_drew)); exact HO_9.out) (Kd.S_base ho0) hb); have n4_ := Aside0.mk (Kd.S_lower (Kd.S_new' (Kd.S_new' (Kd.S_new' ho0 (Kd.R_lt (by (with_reducible repeat (first | apply Kd.R_alloc | apply Kd.R_drewN | apply Kd.R_drew)); exact HO_0.out))) (Kd.R_lt (by (with_reducible repeat (first | apply Kd.R_alloc | apply Kd.R_drewN | apply Kd.R_drew)); exact HO_1.out))) (Kd.S_lt (by (with_reducible repeat (first | apply Kd.S_alloc | apply Kd.S_drewN | apply Kd.S_drew)); exact HO_9.out))) (below_size (by repeat (first | (with_reducible first | exact HB.out | apply below_alloc | apply pw_below_drewN | apply below_drew1) | exact HB.out)))); have n5_ := Aside0.mk (below_step (by repeat (first | (with_reducible first | exact HB.out | apply below_alloc | apply pw_below_drewN | apply below_drew1) | exact HB.out)) hb); clear HO_0; clear HO_1; clear HO_2; clear HO_9; clear HB; have HO_0 := n0_; have HO_1 := n1_; have HO_2 := n2_; have HO_9 := n3_; have HO357 := n4_; have HB := n5_; clear n0_ n1_ n2_ n3_ n4_ n5_; (try clear hb); (try clear hb2); (try clear hk); (try clear hi); (try clear ho0); obtain ⟨Ao58, co58, eo58⟩ := Kd.S_slice HO_9.out; subst eo58; obtain ⟨Ao59, co59, eo59⟩ := Kd.S_slice HO357.out; subst eo59) | ((with_reducible refine gate_callee (f := 15) rfl ?_); refine goesL_ (some 91) rfl rfl Tryz.func15 (by kernel_rfl) rfl #[.slice Ao58 t341.length co58, .slice Ao59 t355.length co59] rfl (by (try simp only [List.map_toArray, List.map_cons, List.map_nil]); first | done | rfl | (simp only [List.length_drop, List.length_take]; rfl)) ?_; (with_reducible refine (graftwoodref18_Same.calls kj37 _ _ t341 _ _ t355 true _ ?side1 ?side2 ?side3 ?side4 A52.out).mono ?_); (case side1 => repeat (first | exact (Kd.S_reads' HO_9.out).2.2 | (with_reducible refine Kd.C_alloc ?_ _) | (with_reducible refine Kd.C_drewN ?_ _) | (with_reducible refine Kd.C_drew ?_))); (case side2 => exact (Kd.S_reads' HO_9.out).2.1); (case side3 => repeat (first | exact (Kd.S_reads' HO357.out).2.2 | (with_reducible refine Kd.C_alloc ?_ _) | (with_reducible refine Kd.C_drewN ?_ _) | (with_reducible refine Kd.C_drew ?_))); (case side4 => exact (Kd.S_reads' HO357.out).2.1); rintro e w60 ⟨rfl, hb⟩; refine ⟨_, rfl, ?_⟩; have n0_ := Aside0.mk (Kd.R_below (by (with_reducible repeat (first | apply Kd.R_alloc | apply Kd.R_drewN | apply Kd.R_drew)); exact HO_0.out) hb); have n1_ := Aside0.mk (Kd.R_below (by (with_reducible repeat (first | apply Kd.R_alloc | apply Kd.R_drewN | apply Kd.R_drew)); exact HO_1.out) hb); have n2_ := Aside0.mk (Kd.R_below (by (with_reducible repeat (first | apply Kd.R_alloc | apply Kd.R_drewN | apply Kd.R_drew)); exact HO_2.out) hb); have n3_ := Aside0.mk (Kd.S_below (by (with_reducible repeat (first | apply Kd.S_alloc | apply Kd.S_drewN | apply Kd.S_drew)); exact HO_9.out) hb); have n4_ := Aside0.mk (Kd.S_below (by (with_reducible repeat (first | apply Kd.S_alloc | apply Kd.S_drewN | apply Kd.S_drew)); exact HO357.out) hb); have n5_ := Aside0.mk (below_step (by repeat (first | (with_reducible first | exact HB.out | apply below_alloc | apply pw_below_drewN | apply below_drew1) | exact HB.out)) hb); clear HO_0; clear HO_1; clear HO_2; clear HO_9; clear HO357; clear HB; have HO_0 := n0_; have HO_1 := n1_; have HO_2 := n2_; have HO_9 := n3_; have HO357 := n4_; have HB := n5_; clear n0_ n1_ n2_ n3_ n4_ n5_; (try clear hb); (try clear hb2); (try clear hk); (try clear hi)) | (go_at_call 12; (with_reducible refine (graftwoodlaw18_awake.calls  t359 _ A55.out HR_).mono ?_); rintro e w61 ⟨rfl, hb⟩; have n0_ := Aside0.mk (Kd.R_below (by (with_reducible repeat (first | apply Kd.R_alloc | apply Kd.R_drewN | apply Kd.R_drew)); exact HO_0.out) hb); have n1_ := Aside0.mk (Kd.R_below (by (with_reducible repeat (first | apply Kd.R_alloc | apply Kd.R_drewN | apply Kd.R_drew)); exact HO_1.out) hb); have n2_ := Aside0.mk (Kd.R_below (by (with_reducible repeat (first | apply Kd.R_alloc | apply Kd.R_drewN | apply Kd.R_drew)); exact HO_2.out) hb); have n3_ := Aside0.mk (Kd.S_below (by (with_reducible repeat (first | apply Kd.S_alloc | apply Kd.S_drewN | apply Kd.S_drew)); exact HO_9.out) hb); have n4_ := Aside0.mk (Kd.S_below (by (with_reducible repeat (first | apply Kd.S_alloc | apply Kd.S_drewN | apply Kd.S_drew)); exact HO357.out) hb); have n5_ := Aside0.mk (below_step (by repeat (first | (with_reducible first | exact HB.out | apply below_alloc | apply pw_below_drewN | apply below_drew1) | exact HB.out)) hb); clear HO_0; clear HO_1; clear HO_2; clear HO_9; clear HO357; clear HB; have HO_0 := n0_; have HO_1 := n1_; have HO_2 := n2_; have HO_9 := n3_; have HO357 := n4_; have HB := n5_; clear n0_ n1_ n2_ n3_ n4_ n5_; (try clear hb); (try clear hb2); (try clear hk); (try clear hi)))
           go_ret
           exact ⟨by first | rfl | (simp [errW_none, errW_some] <;> rfl) | (simp [*, errW_none, errW_some] <;> rfl), by repeat (first | (with_reducible first | exact HB.out | apply below_alloc | apply pw_below_drewN | apply below_drew1) | exact HB.out)⟩
          ·rw [if_neg c54] at H
           have c54b0 : (t342 == 0) = false := beq_eq_false_iff_ne.mpr c54
           have c54b1 : (t342 != 0) = true := bne_iff_ne.mpr c54
           exact absurd ((Option.some.inj H).trans HR_.out) (by decide)
         ·replace c53 := Bool.eq_false_iff.mpr c53
          subst c53
          have H1 : (some false) = some r := by rw [if_neg (show ¬ (false = true) by decide)] at H; exact H
          clear H
          have H := H1
          clear H1
          exact absurd ((Option.some.inj H).trans HR_.out) (by decide)
        ·replace c50 := Bool.eq_false_iff.mpr c50
         subst c50
         have H1 : (if (t341.length : Int) = 0 then (if t342 = 1 then ((graftwoodlaw18_awake.f).bind fun t360 => (some t360)) else (some false)) else (some false)) = some r := by rw [if_neg (show ¬ (false = true) by decide)] at H; exact H
         clear H
         have H := H1
         clear H1
         by_cases c62 : (t341.length : Int) = 0
         ·rw [if_pos c62] at H
          have c62b0 : ((t341.length : Int) == 0) = true := beq_iff_eq.mpr c62
          have c62b1 : ((t341.length : Int) != 0) = false := bne_eq_false_iff_eq.mpr c62
          clear c62
          by_cases c63 : t342 = 1
          ·rw [if_pos c63] at H
           have c63b0 : (t342 == 1) = true := beq_iff_eq.mpr c63
           have c63b1 : (t342 != 1) = false := bne_eq_false_iff_eq.mpr c63
           clear c63
           replace H := Option.bind_eq_some_iff.mp H
           obtain ⟨t360, A640, H⟩ := H
           replace H : (some t360) = some r := H
           have A64 := Aside0.mk A640
           clear A640
           obtain rfl := Option.some.inj H
           go_wp2_with (first | ((with_reducible refine gate_callee (f := 10) rfl ?_); refine goesL_ (some 74) rfl rfl Tryz.func10 (by kernel_rfl) rfl #[.slice Ao19 t334.length co19] rfl (by (try simp only [List.map_toArray, List.map_cons, List.map_nil]); first | done | rfl | (simp only [List.length_drop, List.length_take]; rfl)) ?_; (with_reducible refine (graftwoodref18_May.calls kj37 _ _ t334 false _ ?side1 ?side2 A49.out).mono ?_); (case side1 => repeat (first | exact (Kd.R_reads' HO_2.out).2.2 | (with_reducible refine Kd.C_alloc ?_ _) | (with_reducible refine Kd.C_drewN ?_ _) | (with_reducible refine Kd.C_drew ?_))); (case side2 => exact (Kd.R_reads' HO_2.out).2.1); rintro e w65 ⟨rfl, hb⟩; refine ⟨_, rfl, ?_⟩; have n0_ := Aside0.mk (Kd.R_below (by (with_reducible repeat (first | apply Kd.R_alloc | apply Kd.R_drewN | apply Kd.R_drew)); exact HO_0.out) hb); have n1_ := Aside0.mk (Kd.R_below (by (with_reducible repeat (first | apply Kd.R_alloc | apply Kd.R_drewN | apply Kd.R_drew)); exact HO_1.out) hb); have n2_ := Aside0.mk (Kd.R_below (by (with_reducible repeat (first | apply Kd.R_alloc | apply Kd.R_drewN | apply Kd.R_drew)); exact HO_2.out) hb); have n3_ := Aside0.mk (Kd.S_below (by (with_reducible repeat (first | apply Kd.S_alloc | apply Kd.S_drewN | apply Kd.S_drew)); exact HO_9.out) hb); have n4_ := Aside0.mk (below_step (by repeat (first | (with_reducible first | exact HB.out | apply below_alloc | apply pw_below_drewN | apply below_drew1) | exact HB.out)) hb); clear HO_0; clear HO_1; clear HO_2; clear HO_9; clear HB; have HO_0 := n0_; have HO_1 := n1_; have HO_2 := n2_; have HO_9 := n3_; have HB := n4_; clear n0_ n1_ n2_ n3_ n4_; (try clear hb); (try clear hb2); (try clear hk); (try clear hi); obtain ⟨Ao66, co66, eo66⟩ := Kd.S_slice HO_9.out; subst eo66) | (go_at_call 12; (with_reducible refine (graftwoodlaw18_awake.calls  t360 _ A64.out HR_).mono ?_); rintro e w67 ⟨rfl, hb⟩; have n0_ := Aside0.mk (Kd.R_below (by (with_reducible repeat (first | apply Kd.R_alloc | apply Kd.R_drewN | apply Kd.R_drew)); exact HO_0.out) hb); have n1_ := Aside0.mk (Kd.R_below (by (with_reducible repeat (first | apply Kd.R_alloc | apply Kd.R_drewN | apply Kd.R_drew)); exact HO_1.out) hb); have n2_ := Aside0.mk (Kd.R_below (by (with_reducible repeat (first | apply Kd.R_alloc | apply Kd.R_drewN | apply Kd.R_drew)); exact HO_2.out) hb); have n3_ := Aside0.mk (Kd.S_below (by (with_reducible repeat (first | apply Kd.S_alloc | apply Kd.S_drewN | apply Kd.S_drew)); exact HO_9.out) hb); have n4_ := Aside0.mk (below_step (by repeat (first | (with_reducible first | exact HB.out | apply below_alloc | apply pw_below_drewN | apply below_drew1) | exact HB.out)) hb); clear HO_0; clear HO_1; clear HO_2; clear HO_9; clear HB; have HO_0 := n0_; have HO_1 := n1_; have HO_2 := n2_; have HO_9 := n3_; have HB := n4_; clear n0_ n1_ n2_ n3_ n4_; (try clear hb); (try clear hb2); (try clear hk); (try clear hi)))
           go_ret
           exact ⟨by first | rfl | (simp [errW_none, errW_some] <;> rfl) | (simp [*, errW_none, errW_some] <;> rfl), by repeat (first | (with_reducible first | exact HB.out | apply below_alloc | apply pw_below_drewN | apply below_drew1) | exact HB.out)⟩
          ·rw [if_neg c63] at H
           have c63b0 : (t342 == 1) = false := beq_eq_false_iff_ne.mpr c63
           have c63b1 : (t342 != 1) = true := bne_iff_ne.mpr c63
           exact absurd ((Option.some.inj H).trans HR_.out) (by decide)
         ·rw [if_neg c62] at H
          have c62b0 : ((t341.length : Int) == 0) = false := beq_eq_false_iff_ne.mpr c62
          have c62b1 : ((t341.length : Int) != 0) = true := bne_iff_ne.mpr c62
          have c62b2 : ¬ (t341 = []) := fun h_ => c62 (by rw [h_]; rfl)
          exact absurd ((Option.some.inj H).trans HR_.out) (by decide)
end Go.Proofs.YtffcbfclpfchnaaGreatDoor.Q
end
