/- Part 11 of this claim: several texts one behind the other: Fgraftwoodref13Both, R13Both, HDEdits. What each shows stands in its theorems; conditions: sizes of texts and lists, as the functions' definitions say. -/
import Derived.Test.YtcfphieogalnbaaGreatDoorMDiffEdits0
import Derived.Test.YtcfphieogalnbaaGreatDoorMDiffEdits10
import Derived.Test.YtcfphieogalnbaaGreatDoorMDiffEdits3
import Derived.Test.YtcfphieogalnbaaGreatDoorMDiffEdits2
import Derived.Test.YtcfphieogalnbaaGreatDoorMDiffEdits8
import Derived.Test.YtcfphieogalnbaaGreatDoorMDiffEdits7
import Derived.Test.YtcfphieogalnbaaGreatDoorMDiffEdits6
section
namespace Go.Proofs.YtcfphieogalnbaaGreatDoor.Q
open Go.RowKit Go.Proofs.YtcfphieogalnbaaGreatDoorW.PrintWords Go.Proofs.YtcfphieogalnbaaGreatDoorW.PrintLast Go.Proofs.YtcfphieogalnbaaGreatDoorW.PrintMore
attribute [local go_sem] max2_int min2_int max_two min_two max_three min_three max_four min_four   -- for this text's walks alone
set_option linter.unusedVariables false
set_option linter.unusedSimpArgs false
attribute [local go_sem high] eqA24
-- NOT PRINTED: function 20 (graftwoodref13_May)

/-! ### graftwoodref13_Both: function 21 -/
mutual
def graftwoodref13_Both.l0 : Nat → List (S35) → List (S35) → List (S24) → Int → Option ((List (S35)))
  | 0, _, _, _, _ => none
  | k + 1, x0, x1, x5, x6 => if x6 < (x0.length : Int) then (if 0 ≤ x6 then (if x5.length < 4398046511104 then (graftwoodref13_Both.l0 k x0 x1 (x5 ++ [(⟨(rd_T35 x0 x6).f0.f0, (rd_T35 x0 x6).f0.f1⟩ : S24)]) (wrap64 (x6 + 1))) else (none)) else (none)) else (graftwoodref13_Both.l1 k x0 x1 x5 0)
def graftwoodref13_Both.l1 : Nat → List (S35) → List (S35) → List (S24) → Int → Option ((List (S35)))
  | 0, _, _, _, _ => none
  | k + 1, x0, x1, x5, x7 => if x7 < (x1.length : Int) then (if 0 ≤ x7 then (if x5.length < 4398046511104 then (graftwoodref13_Both.l1 k x0 x1 (x5 ++ [(⟨(rd_T35 x1 x7).f0.f0, (rd_T35 x1 x7).f0.f1⟩ : S24)]) (wrap64 (x7 + 1))) else (none)) else (none)) else ((graftwoodref05_Set.f k x5).bind fun t349 => (graftwoodref13_Both.l2 k x0 x1 t349 ([] : List (S35)) 0))
def graftwoodref13_Both.l2 : Nat → List (S35) → List (S35) → List (S24) → List (S35) → Int → Option ((List (S35)))
  | 0, _, _, _, _, _ => none
  | k + 1, x0, x1, x5, x8, x9 => if x9 < (x5.length : Int) then (if 0 ≤ x9 then ((graftwoodref13_By.f k x0 ((rd_T24 x5 x9).f0) ((rd_T24 x5 x9).f1)).bind fun t353 => ((graftwoodref13_By.f k x1 ((rd_T24 x5 x9).f0) ((rd_T24 x5 x9).f1)).bind fun t355 => (if (wrap64 (t353 + t355)) = 0 then (graftwoodref13_Both.l2 k x0 x1 x5 x8 (wrap64 (x9 + 1))) else (if x8.length < 3518437208883 then (graftwoodref13_Both.l2 k x0 x1 x5 (x8 ++ [(⟨(⟨(rd_T24 x5 x9).f0, (rd_T24 x5 x9).f1⟩ : S24), wrap64 (t353 + t355)⟩ : S35)]) (wrap64 (x9 + 1))) else (none))))) else (none)) else (some x8)
end
def graftwoodref13_Both.f (k : Nat) (l0 : List (S35)) (l1 : List (S35)) : Option ((List (S35))) := graftwoodref13_Both.l0 k l0 l1 ([] : List (S24)) 0
def graftwoodref13_Both.T15 : Bool × List (List Nat × List Nat) := (true, [([], []), ([], []), ([], []), ([1, 2], [1, 2]), ([3], [3]), ([0, 4], [0, 4]), ([], []), ([], []), ([], []), ([7, 8], [7, 8]), ([9], [9]), ([6, 10, 5], [6, 10]), ([5, 11], [5, 11]), ([12, 11, 0, 1, 2, 3, 4, 5, 6, 7, 8, 9, 10, 11, 12], [12])])
def graftwoodref13_Both.B15 : List Nat := [0, 0, 0, 6, 14, 31, 0, 0, 0, 384, 896, 2047, 4095, 8191]
theorem graftwoodref13_Both.tab15 : rtab .any (opsOf Tryz.f21 15) = graftwoodref13_Both.T15 := by kernel_rfl
theorem graftwoodref13_Both.bits15 : waitsOk graftwoodref13_Both.T15.2 graftwoodref13_Both.B15 = true := by kernel_rfl
set_option maxHeartbeats 8000000 in
set_option maxRecDepth 100000 in
theorem graftwoodref13_Both.calls (k : Nat) (A0 : Option Addr) (c0 : Nat) (l0 : List (S35)) (A1 : Option Addr) (c1 : Nat) (l1 : List (S35)) (r : List (S35)) (w : World) (hr0 : Kd.C k35 w A0 l0.length l0) (hc0 : l0.length ≤ c0) (hr1 : Kd.C k35 w A1 l1.length l1) (hc1 : l1.length ≤ c1) (h : graftwoodref13_Both.f k l0 l1 = some r) :
    Calls Tryz.prog 21 #[.slice A0 l0.length c0, .slice A1 l1.length c1] w fun e w' => ∃ v0_ : Value, e = .returned (v0_) ∧ Kd.R k35 35 w' w.heap.size (fun _ => True) v0_ r ∧ Below w.heap.size w w' := by
  have hu24 := Tryz.underlying24
  have hu35 := Tryz.underlying35
  have HR0 := Aside0.mk hr0
  have HC0 := Aside0.mk hc0
  clear hr0 hc0
  have HR1 := Aside0.mk hr1
  have HC1 := Aside0.mk hc1
  clear hr1 hc1
  have HB := Aside0.mk (Below.refl w.heap.size w)
  have H : (graftwoodref13_Both.l0 k l0 l1 ([] : List (S24)) 0) = some r := h
  clear h
  have H' := Aside0.mk H
  clear H
  go_enter Tryz.func21, Tryz.ntmps21
  go_wp2
  go_loopg [5, 6] k (fun kq v5 v6 w' => ∃ (x5_1 : List (S24)) (x6_1 : Int), v6 = .int .i64 x6_1 ∧ Aside0 (graftwoodref13_Both.l0 kq l0 l1 x5_1 x6_1 = some r) ∧ Aside0 (kq ≤ k) ∧ Aside0 (Kd.R k24 24 w' w.heap.size (fun _ => True) v5 x5_1) ∧ Aside0 (Below w.heap.size w w'))
  case atStart => exact ⟨(([] : List (S24))), (0), (by first | rfl | (simp; done) | (simp [*]; done)), H', ⟨Nat.le_refl _⟩, ⟨by first | exact Kd.R_nil _ _ _ _ _ | exact Kd.N_nil _ _ _ _ _ | exact Kd.V_nil _ _ _ _ _ | exact Kd.Q_nil _ _ _ _ _ | exact Kd.S_nil _ _ _ _ _⟩, ⟨by repeat (first | (with_reducible first | exact HB.out | apply below_alloc | apply pw_below_drewN | apply below_drew1) | exact HB.out)⟩⟩
  case round =>
    clear H'
    try clear c1
    try clear c2
    try clear p2
    obtain ⟨x5_1, x6_1, rfl, HA, HK1, HO_5, HB⟩ := hrel
    cases gk with
    | zero => exact absurd HA.out (by simp [graftwoodref13_Both.l0])
    | succ k1 =>
      have H := HA.out
      clear HA
      simp only [graftwoodref13_Both.l0] at H
      by_cases c3 : x6_1 < (l0.length : Int)
      · rw [if_pos c3] at H
        have c3b0 : decide (x6_1 < (l0.length : Int)) = true := decide_eq_true c3
        clear c3
        by_cases c4 : 0 ≤ x6_1
        · rw [if_pos c4] at H
          have c4b0 : decide (0 ≤ x6_1) = true := decide_eq_true c4
          clear c4
          by_cases c5 : x5_1.length < 4398046511104
          · rw [if_pos c5] at H
            have LMc5 := Aside0.mk c5
            clear c5
            obtain ⟨y342, hy342⟩ : ∃ y_ : List (S24), y_ = (x5_1 ++ [(⟨(rd_T35 l0 x6_1).f0.f0, (rd_T35 l0 x6_1).f0.f1⟩ : S24)]) := ⟨_, rfl⟩
            replace H : (graftwoodref13_Both.l0 k1 l0 l1 y342 (wrap64 (x6_1 + 1))) = some r := by first | (rw [hy342]; with_reducible exact H) | (have H2_ := (Option.bind_some _ _).symm.trans H; rw [hy342]; with_reducible exact H2_) | (have H2_ := (Option.bind_some _ _).symm.trans H; with_reducible exact H2_) | with_reducible exact H | (rw [hy342]; exact H) | exact H
            have Ny342 := Aside0.mk hy342
            clear hy342
            have H' := Aside0.mk H
            clear H
            have p341 : 0 ≤ (x6_1 : Int) := of_decide_eq_true (by first | (with_reducible assumption) | assumption)
            have q341 : x6_1 < (l0.length : Int) := of_decide_eq_true (by first | (with_reducible assumption) | assumption)
            obtain ⟨ad341, e341, hx341_0, hx341_1, hx341_2⟩ := at_T35 HR0.out x6_1 p341 q341
            cases e341
            replace hx341_0 := (HB.out.cell (World.block_lt_of_cell? w _ hx341_0)).trans hx341_0
            replace hx341_1 := (HB.out.cell (World.block_lt_of_cell? w _ hx341_1)).trans hx341_1
            replace hx341_2 := (HB.out.cell (World.block_lt_of_cell? w _ hx341_2)).trans hx341_2
            replace p341 := eq_true p341
            replace q341 := eq_true q341
            go_wp2_with (first | ((with_reducible refine gate_builtin (b := .append) (xs := #[.tmp 17, .tmp 23]) rfl ?_); at_builtin; refine Kd.R_append k24 (w0 := w) w.heap.size rfl (.tmp 17) (.tmp 23) 22 24 (.agg #[(.string ⟨#[]⟩), (.string ⟨#[]⟩)]) 32 rfl Tryz.underlying22 info24 rfl (by decide) (by omega) u5 x5_1 (⟨(rd_T35 l0 x6_1).f0.f0, (rd_T35 l0 x6_1).f0.f1⟩ : S24) [.string ((rd_T35 l0 x6_1).f0.f0), .string ((rd_T35 l0 x6_1).f0.f1)] (fun _ => True) (fun _ => False) rfl rfl ?aP (fun _ hk => hk.elim) ?aF ?aO ?aB ?aS ?aL ?_; (case aP => exact k24_mkM _ _ _ (⟨(rd_T35 l0 x6_1).f0.f0, (rd_T35 l0 x6_1).f0.f1⟩ : S24)); (case aB => exact (by repeat (first | (with_reducible first | exact HB.out | apply below_alloc | apply pw_below_drewN | apply below_drew1) | exact HB.out))); (case aF => exact (fun _ _ => trivial)); (case aO => exact (by (with_reducible repeat (first | apply Kd.R_alloc | apply Kd.R_drewN | apply Kd.R_drew)); exact HO_5.out)); (case aS => exact (below_size (by repeat (first | (with_reducible first | exact HB.out | apply below_alloc | apply pw_below_drewN | apply below_drew1) | exact HB.out)))); (case aL => have := LMc5.out; omega); intro v343 w6 ho hb hg hat; rw [← Ny342.out] at ho; have n0_ := Aside0.mk (hb); have n1_ := Aside0.mk (ho); clear HB; clear HO_5; have HB := n0_; have HO344 := n1_; clear n0_ n1_; clear ho hb hg hat))
            go_roundg k1
            case measure => have := HK1.out; omega
            case rel => exact ⟨(y342), (wrap64 (x6_1 + 1)), (by first | rfl | (simp; done) | (simp [*]; done)), H', ⟨by have := HK1.out; omega⟩, ⟨by (with_reducible repeat (first | apply Kd.R_alloc | apply Kd.R_drewN | apply Kd.R_drew)); exact HO344.out⟩, ⟨by repeat (first | (with_reducible first | exact HB.out | apply below_alloc | apply pw_below_drewN | apply below_drew1) | exact HB.out)⟩⟩
          · rw [if_neg c5] at H
            exact absurd H (by simp)
        · rw [if_neg c4] at H
          exact absurd H (by simp)
      · rw [if_neg c3] at H
        have c3b0 : decide (x6_1 < (l0.length : Int)) = false := decide_eq_false c3
        clear c3
        have H' := Aside0.mk H
        clear H
        go_wp2
        go_loopg [5, 7] k1 (fun kq v5 v7 w' => ∃ (x5_2 : List (S24)) (x7_2 : Int), v7 = .int .i64 x7_2 ∧ Aside0 (graftwoodref13_Both.l1 kq l0 l1 x5_2 x7_2 = some r) ∧ Aside0 (kq ≤ k1) ∧ Aside0 (Kd.R k24 24 w' w.heap.size (fun _ => True) v5 x5_2) ∧ Aside0 (Below w.heap.size w w'))
        case atStart => exact ⟨(x5_1), (0), (by first | rfl | (simp; done) | (simp [*]; done)), H', ⟨Nat.le_refl _⟩, ⟨by (with_reducible repeat (first | apply Kd.R_alloc | apply Kd.R_drewN | apply Kd.R_drew)); exact HO_5.out⟩, ⟨by repeat (first | (with_reducible first | exact HB.out | apply below_alloc | apply pw_below_drewN | apply below_drew1) | exact HB.out)⟩⟩
        case round =>
          clear H'
          try clear c1
          try clear c2
          try clear p2
          try clear c3
          try clear c3b0
          try clear p3
          try clear q3
          try clear hx3
          try clear c4
          try clear c4b0
          try clear c5
          try clear p6
          try clear hx341_0
          try clear hx341_1
          try clear hx341_2
          try clear p2
          try clear p341
          try clear q341
          obtain ⟨x5_2, x7_2, rfl, HA, HK2, HO_5, HB⟩ := hrel
          cases gk with
          | zero => exact absurd HA.out (by simp [graftwoodref13_Both.l1])
          | succ k2 =>
            have H := HA.out
            clear HA
            simp only [graftwoodref13_Both.l1] at H
            by_cases c7 : x7_2 < (l1.length : Int)
            · rw [if_pos c7] at H
              have c7b0 : decide (x7_2 < (l1.length : Int)) = true := decide_eq_true c7
              clear c7
              by_cases c8 : 0 ≤ x7_2
              · rw [if_pos c8] at H
                have c8b0 : decide (0 ≤ x7_2) = true := decide_eq_true c8
                clear c8
                by_cases c9 : x5_2.length < 4398046511104
                · rw [if_pos c9] at H
                  have LMc9 := Aside0.mk c9
                  clear c9
                  obtain ⟨y346, hy346⟩ : ∃ y_ : List (S24), y_ = (x5_2 ++ [(⟨(rd_T35 l1 x7_2).f0.f0, (rd_T35 l1 x7_2).f0.f1⟩ : S24)]) := ⟨_, rfl⟩
                  replace H : (graftwoodref13_Both.l1 k2 l0 l1 y346 (wrap64 (x7_2 + 1))) = some r := by first | (rw [hy346]; with_reducible exact H) | (have H2_ := (Option.bind_some _ _).symm.trans H; rw [hy346]; with_reducible exact H2_) | (have H2_ := (Option.bind_some _ _).symm.trans H; with_reducible exact H2_) | with_reducible exact H | (rw [hy346]; exact H) | exact H
                  have Ny346 := Aside0.mk hy346
                  clear hy346
                  have H' := Aside0.mk H
                  clear H
                  have p345 : 0 ≤ (x7_2 : Int) := of_decide_eq_true (by first | (with_reducible assumption) | assumption)
                  have q345 : x7_2 < (l1.length : Int) := of_decide_eq_true (by first | (with_reducible assumption) | assumption)
                  obtain ⟨ad345, e345, hx345_0, hx345_1, hx345_2⟩ := at_T35 HR1.out x7_2 p345 q345
                  cases e345
                  replace hx345_0 := (HB.out.cell (World.block_lt_of_cell? w _ hx345_0)).trans hx345_0
                  replace hx345_1 := (HB.out.cell (World.block_lt_of_cell? w _ hx345_1)).trans hx345_1
                  replace hx345_2 := (HB.out.cell (World.block_lt_of_cell? w _ hx345_2)).trans hx345_2
                  replace p345 := eq_true p345
                  replace q345 := eq_true q345
                  go_wp2_with (first | ((with_reducible refine gate_builtin (b := .append) (xs := #[.tmp 31, .tmp 37]) rfl ?_); at_builtin; refine Kd.R_append k24 (w0 := w) w.heap.size rfl (.tmp 31) (.tmp 37) 22 24 (.agg #[(.string ⟨#[]⟩), (.string ⟨#[]⟩)]) 32 rfl Tryz.underlying22 info24 rfl (by decide) (by omega) u5 x5_2 (⟨(rd_T35 l1 x7_2).f0.f0, (rd_T35 l1 x7_2).f0.f1⟩ : S24) [.string ((rd_T35 l1 x7_2).f0.f0), .string ((rd_T35 l1 x7_2).f0.f1)] (fun _ => True) (fun _ => False) rfl rfl ?aP (fun _ hk => hk.elim) ?aF ?aO ?aB ?aS ?aL ?_; (case aP => exact k24_mkM _ _ _ (⟨(rd_T35 l1 x7_2).f0.f0, (rd_T35 l1 x7_2).f0.f1⟩ : S24)); (case aB => exact (by repeat (first | (with_reducible first | exact HB.out | apply below_alloc | apply pw_below_drewN | apply below_drew1) | exact HB.out))); (case aF => exact (fun _ _ => trivial)); (case aO => exact (by (with_reducible repeat (first | apply Kd.R_alloc | apply Kd.R_drewN | apply Kd.R_drew)); exact HO_5.out)); (case aS => exact (below_size (by repeat (first | (with_reducible first | exact HB.out | apply below_alloc | apply pw_below_drewN | apply below_drew1) | exact HB.out)))); (case aL => have := LMc9.out; omega); intro v347 w10 ho hb hg hat; rw [← Ny346.out] at ho; have n0_ := Aside0.mk (hb); have n1_ := Aside0.mk (ho); clear HB; clear HO_5; have HB := n0_; have HO348 := n1_; clear n0_ n1_; clear ho hb hg hat))
                  go_roundg k2
                  case measure => have := HK1.out; have := HK2.out; omega
                  case rel => exact ⟨(y346), (wrap64 (x7_2 + 1)), (by first | rfl | (simp; done) | (simp [*]; done)), H', ⟨by have := HK1.out; have := HK2.out; omega⟩, ⟨by (with_reducible repeat (first | apply Kd.R_alloc | apply Kd.R_drewN | apply Kd.R_drew)); exact HO348.out⟩, ⟨by repeat (first | (with_reducible first | exact HB.out | apply below_alloc | apply pw_below_drewN | apply below_drew1) | exact HB.out)⟩⟩
                · rw [if_neg c9] at H
                  exact absurd H (by simp)
              · rw [if_neg c8] at H
                exact absurd H (by simp)
            · rw [if_neg c7] at H
              have c7b0 : decide (x7_2 < (l1.length : Int)) = false := decide_eq_false c7
              clear c7
              replace H := Option.bind_eq_some_iff.mp H
              obtain ⟨t349, A110, H⟩ := H
              replace H : (graftwoodref13_Both.l2 k2 l0 l1 t349 ([] : List (S35)) 0) = some r := H
              have A11 := Aside0.mk A110
              clear A110
              have H' := Aside0.mk H
              clear H
              obtain ⟨Ao12, co12, eo12⟩ := Kd.R_slice HO_5.out
              subst eo12
              go_wp2_with (first | ((with_reducible refine gate_callee (f := 27) rfl ?_); refine goesL_ (some 40) rfl rfl Tryz.func27 (by kernel_rfl) rfl #[.slice Ao12 x5_2.length co12] rfl (by (try simp only [List.map_toArray, List.map_cons, List.map_nil]); first | done | rfl | (simp only [List.length_drop, List.length_take]; rfl)) ?_; (with_reducible refine (graftwoodref05_Set.calls k2 _ _ x5_2 t349 _ ?side1 ?side2 A11.out).mono ?_); (case side1 => repeat (first | exact (Kd.R_reads' HO_5.out).2.2 | (with_reducible refine Kd.C_alloc ?_ _) | (with_reducible refine Kd.C_drewN ?_ _) | (with_reducible refine Kd.C_drew ?_))); (case side2 => exact (Kd.R_reads' HO_5.out).2.1); rintro e w13 ⟨v350, rfl, ho0, hb⟩; refine ⟨_, rfl, ?_⟩; have n0_ := Aside0.mk (Kd.R_elder' (by (with_reducible repeat (first | apply Kd.R_alloc | apply Kd.R_drewN | apply Kd.R_drew)); exact HO_5.out) (Kd.R_base ho0) hb); have n1_ := Aside0.mk (Kd.R_lower (Kd.R_new' ho0 (Kd.R_lt (by (with_reducible repeat (first | apply Kd.R_alloc | apply Kd.R_drewN | apply Kd.R_drew)); exact HO_5.out))) (below_size (by repeat (first | (with_reducible first | exact HB.out | apply below_alloc | apply pw_below_drewN | apply below_drew1) | exact HB.out)))); have n2_ := Aside0.mk (below_step (by repeat (first | (with_reducible first | exact HB.out | apply below_alloc | apply pw_below_drewN | apply below_drew1) | exact HB.out)) hb); clear HO_5; clear HB; have HO_5 := n0_; have HO351 := n1_; have HB := n2_; clear n0_ n1_ n2_; (try clear hb); (try clear hb2); (try clear hk); (try clear hi); (try clear ho0)))
              go_loopg [8, 9] k2 (fun kq v8 v9 w' => ∃ (x8_3 : List (S35)) (x9_3 : Int), v9 = .int .i64 x9_3 ∧ Aside0 (graftwoodref13_Both.l2 kq l0 l1 t349 x8_3 x9_3 = some r) ∧ Aside0 (kq ≤ k2) ∧ Aside0 (Kd.R k24 24 w' w.heap.size (fun _ => True) v350 t349) ∧ Aside0 (Kd.R k35 35 w' w.heap.size (fun _ => True) v8 x8_3) ∧ Aside0 (Below w.heap.size w w'))
              case atStart => exact ⟨(([] : List (S35))), (0), (by first | rfl | (simp; done) | (simp [*]; done)), H', ⟨Nat.le_refl _⟩, ⟨by (with_reducible repeat (first | apply Kd.R_alloc | apply Kd.R_drewN | apply Kd.R_drew)); exact Kd.R_mono HO351.out (fun _ hk => trivial)⟩, ⟨by first | exact Kd.R_nil _ _ _ _ _ | exact Kd.N_nil _ _ _ _ _ | exact Kd.V_nil _ _ _ _ _ | exact Kd.Q_nil _ _ _ _ _ | exact Kd.S_nil _ _ _ _ _⟩, ⟨by repeat (first | (with_reducible first | exact HB.out | apply below_alloc | apply pw_below_drewN | apply below_drew1) | exact HB.out)⟩⟩
              case round =>
                clear H'
                try clear c1
                try clear c2
                try clear p2
                try clear c3
                try clear c3b0
                try clear p3
                try clear q3
                try clear hx3
                try clear c4
                try clear c4b0
                try clear c5
                try clear p6
                try clear c7
                try clear c7b0
                try clear c8
                try clear c8b0
                try clear c9
                try clear hx341_0
                try clear hx341_1
                try clear hx341_2
                try clear hx345_0
                try clear hx345_1
                try clear hx345_2
                try clear p2
                try clear p3
                try clear p341
                try clear p345
                try clear p6
                try clear q3
                try clear q341
                try clear q345
                obtain ⟨x8_3, x9_3, rfl, HA, HK3, HO_5, HO_8, HB⟩ := hrel
                cases gk with
                | zero => exact absurd HA.out (by simp [graftwoodref13_Both.l2])
                | succ k3 =>
                  have H := HA.out
                  clear HA
                  simp only [graftwoodref13_Both.l2] at H
                  by_cases c14 : x9_3 < (t349.length : Int)
                  · rw [if_pos c14] at H
                    have c14b0 : decide (x9_3 < (t349.length : Int)) = true := decide_eq_true c14
                    clear c14
                    by_cases c15 : 0 ≤ x9_3
                    · rw [if_pos c15] at H
                      have c15b0 : decide (0 ≤ x9_3) = true := decide_eq_true c15
                      clear c15
                      replace H := Option.bind_eq_some_iff.mp H
                      obtain ⟨t353, A160, H⟩ := H
                      replace H : ((graftwoodref13_By.f k3 l1 ((rd_T24 t349 x9_3).f0) ((rd_T24 t349 x9_3).f1)).bind fun t355 => (if (wrap64 (t353 + t355)) = 0 then (graftwoodref13_Both.l2 k3 l0 l1 t349 x8_3 (wrap64 (x9_3 + 1))) else (if x8_3.length < 3518437208883 then (graftwoodref13_Both.l2 k3 l0 l1 t349 (x8_3 ++ [(⟨(⟨(rd_T24 t349 x9_3).f0, (rd_T24 t349 x9_3).f1⟩ : S24), wrap64 (t353 + t355)⟩ : S35)]) (wrap64 (x9_3 + 1))) else (none)))) = some r := H
                      have A16 := Aside0.mk A160
                      clear A160
                      replace H := Option.bind_eq_some_iff.mp H
                      obtain ⟨t355, A170, H⟩ := H
                      replace H : (if (wrap64 (t353 + t355)) = 0 then (graftwoodref13_Both.l2 k3 l0 l1 t349 x8_3 (wrap64 (x9_3 + 1))) else (if x8_3.length < 3518437208883 then (graftwoodref13_Both.l2 k3 l0 l1 t349 (x8_3 ++ [(⟨(⟨(rd_T24 t349 x9_3).f0, (rd_T24 t349 x9_3).f1⟩ : S24), wrap64 (t353 + t355)⟩ : S35)]) (wrap64 (x9_3 + 1))) else (none))) = some r := H
                      have A17 := Aside0.mk A170
                      clear A170
                      by_cases c18 : (wrap64 (t353 + t355)) = 0
                      · rw [if_pos c18] at H
                        have c18b0 : ((wrap64 (t353 + t355)) == 0) = true := beq_iff_eq.mpr c18
                        have c18b1 : ((wrap64 (t353 + t355)) != 0) = false := bne_eq_false_iff_eq.mpr c18
                        clear c18
                        have H' := Aside0.mk H
                        clear H
                        obtain ⟨Ao19, co19, eo19⟩ := Kd.R_slice HO_5.out
                        subst eo19
                        try go_wp2
                        have n0_ := Aside0.mk (Kd.R_drew HO_5.out)
                        have n1_ := Aside0.mk (Kd.R_drew HO_8.out)
                        have n2_ := Aside0.mk (below_drew1 HB.out)
                        clear HO_5 HO_8 HB
                        have HO_5 := n0_
                        have HO_8 := n1_
                        have HB := n2_
                        clear n0_ n1_ n2_
                        have p352 : 0 ≤ (x9_3 : Int) := of_decide_eq_true (by first | (with_reducible assumption) | assumption)
                        have q352 : x9_3 < (t349.length : Int) := of_decide_eq_true (by first | (with_reducible assumption) | assumption)
                        obtain ⟨ad352, e352, hx352_0, hx352_1⟩ := at_T24 (Kd.R_reads' HO_5.out).2.2 x9_3 p352 q352
                        cases e352
                        replace p352 := eq_true p352
                        replace q352 := eq_true q352
                        have p354 : 0 ≤ (x9_3 : Int) := of_decide_eq_true (by first | (with_reducible assumption) | assumption)
                        have q354 : x9_3 < (t349.length : Int) := of_decide_eq_true (by first | (with_reducible assumption) | assumption)
                        obtain ⟨ad354, e354, hx354_0, hx354_1⟩ := at_T24 (Kd.R_reads' HO_5.out).2.2 x9_3 p354 q354
                        obtain rfl : ad352 = ad354 := (by injection e354)
                        replace p354 := eq_true p354
                        replace q354 := eq_true q354
                        refine start_ (n := 14) (S := fun w' => w'.cell? (ad352.add ((x9_3).toNat * 2)) = some (.string ((rd_T24 t349 x9_3).f0)) ∧ w'.cell? ⟨(ad352.add ((x9_3).toNat * 2)).block, (ad352.add ((x9_3).toNat * 2)).off + 1, none⟩ = some (.string ((rd_T24 t349 x9_3).f1)) ∧ w'.cell? (ad352.add ((x9_3).toNat * 2)) = some (.string ((rd_T24 t349 x9_3).f0)) ∧ w'.cell? ⟨(ad352.add ((x9_3).toNat * 2)).block, (ad352.add ((x9_3).toNat * 2)).off + 1, none⟩ = some (.string ((rd_T24 t349 x9_3).f1))) (ds := []) #[false, false, false, false, false, false, false, false, false, false, false, false, false, false] (by kernel_rfl) rfl rfl ⟨hx352_0, hx352_1, hx354_0, hx354_1⟩ (fun hHeld => ?_); refine with_tabW graftwoodref13_Both.tab15 graftwoodref13_Both.bits15 (fun HT_ HW_ => ?_)
                        generalize wr.drew = w20 at HO_5 HO_8 HB hx352_0 hx352_1 hx354_0 hx354_1 hHeld ⊢
                        refine pz_ 0 47 HT_.out ?_
                        refine pz_ 1 48 HT_.out ?_
                        refine pz_ 2 49 HT_.out ?_
                        refine pz_ 3 50 HT_.out ?_
                        refine pz_ 6 53 HT_.out ?_
                        refine pz_ 7 54 HT_.out ?_
                        refine pz_ 8 55 HT_.out ?_
                        refine pz_ 9 56 HT_.out ?_
                        refine tz_ 4 51 HT_.out HW_.out hHeld ?_
                        refine tz_ 10 57 HT_.out HW_.out hHeld ?_
                        refine one_ (i := 5) (N := some 52) #[true, true, true, true, true, true, true, true, true, true, true, false, false, false] rfl rfl (one_of HT_.out (by kernel_rfl)) (by decide) (fun K hK => ?_)
                        refine goes_ Tryz.func33 (by kernel_rfl) rfl #[.slice A0 l0.length c0, .agg #[.string ((rd_T24 t349 x9_3).f0), .string ((rd_T24 t349 x9_3).f1)]] (by rfl) rfl rfl (by (try simp only [List.map_toArray, List.map_cons, List.map_nil]); first | done | rfl | (simp only [List.length_drop, List.length_take]; rfl)) ?_
                        with_reducible refine (graftwoodref13_By.calls k3 _ _ l0 ((rd_T24 t349 x9_3).f0) ((rd_T24 t349 x9_3).f1) t353 _ ?side1 ?side2 A16.out).mono ?_
                        (case side1 => repeat (first | exact (Kd.C_below HR0.out HB.out) | (with_reducible refine Kd.C_alloc ?_ _) | (with_reducible refine Kd.C_drewN ?_ _) | (with_reducible refine Kd.C_drew ?_)))
                        (case side2 => exact HC0.out)
                        rintro e w21 ⟨rfl, hb⟩
                        have HS0_ := (hb.cell (World.block_lt_of_cell? _ _ (hHeld.1))).trans (hHeld.1)
                        have HS1_ := (hb.cell (World.block_lt_of_cell? _ _ (hHeld.2.1))).trans (hHeld.2.1)
                        have HS2_ := (hb.cell (World.block_lt_of_cell? _ _ (hHeld.2.2.1))).trans (hHeld.2.2.1)
                        have HS3_ := (hb.cell (World.block_lt_of_cell? _ _ (hHeld.2.2.2))).trans (hHeld.2.2.2)
                        refine ⟨_, rfl, ?_⟩
                        have n0_ := Aside0.mk (Kd.R_below (by (with_reducible repeat (first | apply Kd.R_alloc | apply Kd.R_drewN | apply Kd.R_drew)); exact HO_5.out) hb)
                        have n1_ := Aside0.mk (Kd.R_below (by (with_reducible repeat (first | apply Kd.R_alloc | apply Kd.R_drewN | apply Kd.R_drew)); exact HO_8.out) hb)
                        have n2_ := Aside0.mk (below_step (by repeat (first | (with_reducible first | exact HB.out | apply below_alloc | apply pw_below_drewN | apply below_drew1) | exact HB.out)) hb)
                        clear HO_5 HO_8 HB
                        have HO_5 := n0_
                        have HO_8 := n1_
                        have HB := n2_
                        clear n0_ n1_ n2_
                        (try clear hb)
                        (try clear hb2)
                        (try clear hk)
                        (try clear hi)
                        refine hK.out _ _ ⟨HS0_, HS1_, HS2_, HS3_⟩ (fun hHeld => ?_)
                        clear hK K
                        refine nz_ 52 ?_
                        refine one_ (i := 11) (N := some 58) #[true, true, true, true, true, true, true, true, true, true, true, true, false, false] rfl rfl (one_of HT_.out (by kernel_rfl)) (by decide) (fun K hK => ?_)
                        refine goes_ Tryz.func33 (by kernel_rfl) rfl #[.slice A1 l1.length c1, .agg #[.string ((rd_T24 t349 x9_3).f0), .string ((rd_T24 t349 x9_3).f1)]] (by rfl) rfl rfl (by (try simp only [List.map_toArray, List.map_cons, List.map_nil]); first | done | rfl | (simp only [List.length_drop, List.length_take]; rfl)) ?_
                        with_reducible refine (graftwoodref13_By.calls k3 _ _ l1 ((rd_T24 t349 x9_3).f0) ((rd_T24 t349 x9_3).f1) t355 _ ?side1 ?side2 A17.out).mono ?_
                        (case side1 => repeat (first | exact (Kd.C_below HR1.out HB.out) | (with_reducible refine Kd.C_alloc ?_ _) | (with_reducible refine Kd.C_drewN ?_ _) | (with_reducible refine Kd.C_drew ?_)))
                        (case side2 => exact HC1.out)
                        rintro e w22 ⟨rfl, hb⟩
                        have HS0_ := (hb.cell (World.block_lt_of_cell? _ _ (hHeld.1))).trans (hHeld.1)
                        have HS1_ := (hb.cell (World.block_lt_of_cell? _ _ (hHeld.2.1))).trans (hHeld.2.1)
                        have HS2_ := (hb.cell (World.block_lt_of_cell? _ _ (hHeld.2.2.1))).trans (hHeld.2.2.1)
                        have HS3_ := (hb.cell (World.block_lt_of_cell? _ _ (hHeld.2.2.2))).trans (hHeld.2.2.2)
                        refine ⟨_, rfl, ?_⟩
                        have n0_ := Aside0.mk (Kd.R_below (by (with_reducible repeat (first | apply Kd.R_alloc | apply Kd.R_drewN | apply Kd.R_drew)); exact HO_5.out) hb)
                        have n1_ := Aside0.mk (Kd.R_below (by (with_reducible repeat (first | apply Kd.R_alloc | apply Kd.R_drewN | apply Kd.R_drew)); exact HO_8.out) hb)
                        have n2_ := Aside0.mk (below_step (by repeat (first | (with_reducible first | exact HB.out | apply below_alloc | apply pw_below_drewN | apply below_drew1) | exact HB.out)) hb)
                        clear HO_5 HO_8 HB
                        have HO_5 := n0_
                        have HO_8 := n1_
                        have HB := n2_
                        clear n0_ n1_ n2_
                        (try clear hb)
                        (try clear hb2)
                        (try clear hk)
                        (try clear hi)
                        refine hK.out _ _ ⟨HS0_, HS1_, HS2_, HS3_⟩ (fun hHeld => ?_)
                        clear hK K
                        refine nz_ 58 ?_
                        refine pz_ 12 59 HT_.out ?_
                        refine pz_ 13 10 HT_.out ?_
                        refine done_ (done_of HT_.out (by kernel_rfl)) ?_
                        try go_wp2
                        go_roundg k3
                        case measure => have := HK1.out; have := HK2.out; have := HK3.out; omega
                        case rel => exact ⟨(x8_3), (wrap64 (x9_3 + 1)), (by first | rfl | (simp; done) | (simp [*]; done)), H', ⟨by have := HK1.out; have := HK2.out; have := HK3.out; omega⟩, ⟨by (with_reducible repeat (first | apply Kd.R_alloc | apply Kd.R_drewN | apply Kd.R_drew)); exact HO_5.out⟩, ⟨by (with_reducible repeat (first | apply Kd.R_alloc | apply Kd.R_drewN | apply Kd.R_drew)); exact HO_8.out⟩, ⟨by repeat (first | (with_reducible first | exact HB.out | apply below_alloc | apply pw_below_drewN | apply below_drew1) | exact HB.out)⟩⟩
                      · rw [if_neg c18] at H
                        have c18b0 : ((wrap64 (t353 + t355)) == 0) = false := beq_eq_false_iff_ne.mpr c18
                        have c18b1 : ((wrap64 (t353 + t355)) != 0) = true := bne_iff_ne.mpr c18
                        by_cases c23 : x8_3.length < 3518437208883
                        · rw [if_pos c23] at H
                          have LMc23 := Aside0.mk c23
                          clear c23
                          obtain ⟨y357, hy357⟩ : ∃ y_ : List (S35), y_ = (x8_3 ++ [(⟨(⟨(rd_T24 t349 x9_3).f0, (rd_T24 t349 x9_3).f1⟩ : S24), wrap64 (t353 + t355)⟩ : S35)]) := ⟨_, rfl⟩
                          replace H : (graftwoodref13_Both.l2 k3 l0 l1 t349 y357 (wrap64 (x9_3 + 1))) = some r := by first | (rw [hy357]; with_reducible exact H) | (have H2_ := (Option.bind_some _ _).symm.trans H; rw [hy357]; with_reducible exact H2_) | (have H2_ := (Option.bind_some _ _).symm.trans H; with_reducible exact H2_) | with_reducible exact H | (rw [hy357]; exact H) | exact H
                          have Ny357 := Aside0.mk hy357
                          clear hy357
                          have H' := Aside0.mk H
                          clear H
                          obtain ⟨Ao24, co24, eo24⟩ := Kd.R_slice HO_5.out
                          subst eo24
                          try go_wp2
                          have n0_ := Aside0.mk (Kd.R_drew HO_5.out)
                          have n1_ := Aside0.mk (Kd.R_drew HO_8.out)
                          have n2_ := Aside0.mk (below_drew1 HB.out)
                          clear HO_5 HO_8 HB
                          have HO_5 := n0_
                          have HO_8 := n1_
                          have HB := n2_
                          clear n0_ n1_ n2_
                          have p352 : 0 ≤ (x9_3 : Int) := of_decide_eq_true (by first | (with_reducible assumption) | assumption)
                          have q352 : x9_3 < (t349.length : Int) := of_decide_eq_true (by first | (with_reducible assumption) | assumption)
                          obtain ⟨ad352, e352, hx352_0, hx352_1⟩ := at_T24 (Kd.R_reads' HO_5.out).2.2 x9_3 p352 q352
                          cases e352
                          replace p352 := eq_true p352
                          replace q352 := eq_true q352
                          have p354 : 0 ≤ (x9_3 : Int) := of_decide_eq_true (by first | (with_reducible assumption) | assumption)
                          have q354 : x9_3 < (t349.length : Int) := of_decide_eq_true (by first | (with_reducible assumption) | assumption)
                          obtain ⟨ad354, e354, hx354_0, hx354_1⟩ := at_T24 (Kd.R_reads' HO_5.out).2.2 x9_3 p354 q354
                          obtain rfl : ad352 = ad354 := (by injection e354)
                          replace p354 := eq_true p354
                          replace q354 := eq_true q354
                          refine start_ (n := 14) (S := fun w' => w'.cell? (ad352.add ((x9_3).toNat * 2)) = some (.string ((rd_T24 t349 x9_3).f0)) ∧ w'.cell? ⟨(ad352.add ((x9_3).toNat * 2)).block, (ad352.add ((x9_3).toNat * 2)).off + 1, none⟩ = some (.string ((rd_T24 t349 x9_3).f1)) ∧ w'.cell? (ad352.add ((x9_3).toNat * 2)) = some (.string ((rd_T24 t349 x9_3).f0)) ∧ w'.cell? ⟨(ad352.add ((x9_3).toNat * 2)).block, (ad352.add ((x9_3).toNat * 2)).off + 1, none⟩ = some (.string ((rd_T24 t349 x9_3).f1))) (ds := []) #[false, false, false, false, false, false, false, false, false, false, false, false, false, false] (by kernel_rfl) rfl rfl ⟨hx352_0, hx352_1, hx354_0, hx354_1⟩ (fun hHeld => ?_); refine with_tabW graftwoodref13_Both.tab15 graftwoodref13_Both.bits15 (fun HT_ HW_ => ?_)
                          generalize wr.drew = w25 at HO_5 HO_8 HB hx352_0 hx352_1 hx354_0 hx354_1 hHeld ⊢
                          refine pz_ 0 47 HT_.out ?_
                          refine pz_ 1 48 HT_.out ?_
                          refine pz_ 2 49 HT_.out ?_
                          refine pz_ 3 50 HT_.out ?_
                          refine pz_ 6 53 HT_.out ?_
                          refine pz_ 7 54 HT_.out ?_
                          refine pz_ 8 55 HT_.out ?_
                          refine pz_ 9 56 HT_.out ?_
                          refine tz_ 4 51 HT_.out HW_.out hHeld ?_
                          refine tz_ 10 57 HT_.out HW_.out hHeld ?_
                          refine one_ (i := 5) (N := some 52) #[true, true, true, true, true, true, true, true, true, true, true, false, false, false] rfl rfl (one_of HT_.out (by kernel_rfl)) (by decide) (fun K hK => ?_)
                          refine goes_ Tryz.func33 (by kernel_rfl) rfl #[.slice A0 l0.length c0, .agg #[.string ((rd_T24 t349 x9_3).f0), .string ((rd_T24 t349 x9_3).f1)]] (by rfl) rfl rfl (by (try simp only [List.map_toArray, List.map_cons, List.map_nil]); first | done | rfl | (simp only [List.length_drop, List.length_take]; rfl)) ?_
                          with_reducible refine (graftwoodref13_By.calls k3 _ _ l0 ((rd_T24 t349 x9_3).f0) ((rd_T24 t349 x9_3).f1) t353 _ ?side1 ?side2 A16.out).mono ?_
                          (case side1 => repeat (first | exact (Kd.C_below HR0.out HB.out) | (with_reducible refine Kd.C_alloc ?_ _) | (with_reducible refine Kd.C_drewN ?_ _) | (with_reducible refine Kd.C_drew ?_)))
                          (case side2 => exact HC0.out)
                          rintro e w26 ⟨rfl, hb⟩
                          have HS0_ := (hb.cell (World.block_lt_of_cell? _ _ (hHeld.1))).trans (hHeld.1)
                          have HS1_ := (hb.cell (World.block_lt_of_cell? _ _ (hHeld.2.1))).trans (hHeld.2.1)
                          have HS2_ := (hb.cell (World.block_lt_of_cell? _ _ (hHeld.2.2.1))).trans (hHeld.2.2.1)
                          have HS3_ := (hb.cell (World.block_lt_of_cell? _ _ (hHeld.2.2.2))).trans (hHeld.2.2.2)
                          refine ⟨_, rfl, ?_⟩
                          have n0_ := Aside0.mk (Kd.R_below (by (with_reducible repeat (first | apply Kd.R_alloc | apply Kd.R_drewN | apply Kd.R_drew)); exact HO_5.out) hb)
                          have n1_ := Aside0.mk (Kd.R_below (by (with_reducible repeat (first | apply Kd.R_alloc | apply Kd.R_drewN | apply Kd.R_drew)); exact HO_8.out) hb)
                          have n2_ := Aside0.mk (below_step (by repeat (first | (with_reducible first | exact HB.out | apply below_alloc | apply pw_below_drewN | apply below_drew1) | exact HB.out)) hb)
                          clear HO_5 HO_8 HB
                          have HO_5 := n0_
                          have HO_8 := n1_
                          have HB := n2_
                          clear n0_ n1_ n2_
                          (try clear hb)
                          (try clear hb2)
                          (try clear hk)
                          (try clear hi)
                          refine hK.out _ _ ⟨HS0_, HS1_, HS2_, HS3_⟩ (fun hHeld => ?_)
                          clear hK K
                          refine nz_ 52 ?_
                          refine one_ (i := 11) (N := some 58) #[true, true, true, true, true, true, true, true, true, true, true, true, false, false] rfl rfl (one_of HT_.out (by kernel_rfl)) (by decide) (fun K hK => ?_)
                          refine goes_ Tryz.func33 (by kernel_rfl) rfl #[.slice A1 l1.length c1, .agg #[.string ((rd_T24 t349 x9_3).f0), .string ((rd_T24 t349 x9_3).f1)]] (by rfl) rfl rfl (by (try simp only [List.map_toArray, List.map_cons, List.map_nil]); first | done | rfl | (simp only [List.length_drop, List.length_take]; rfl)) ?_
                          with_reducible refine (graftwoodref13_By.calls k3 _ _ l1 ((rd_T24 t349 x9_3).f0) ((rd_T24 t349 x9_3).f1) t355 _ ?side1 ?side2 A17.out).mono ?_
                          (case side1 => repeat (first | exact (Kd.C_below HR1.out HB.out) | (with_reducible refine Kd.C_alloc ?_ _) | (with_reducible refine Kd.C_drewN ?_ _) | (with_reducible refine Kd.C_drew ?_)))
                          (case side2 => exact HC1.out)
                          rintro e w27 ⟨rfl, hb⟩
                          have HS0_ := (hb.cell (World.block_lt_of_cell? _ _ (hHeld.1))).trans (hHeld.1)
                          have HS1_ := (hb.cell (World.block_lt_of_cell? _ _ (hHeld.2.1))).trans (hHeld.2.1)
                          have HS2_ := (hb.cell (World.block_lt_of_cell? _ _ (hHeld.2.2.1))).trans (hHeld.2.2.1)
                          have HS3_ := (hb.cell (World.block_lt_of_cell? _ _ (hHeld.2.2.2))).trans (hHeld.2.2.2)
                          refine ⟨_, rfl, ?_⟩
                          have n0_ := Aside0.mk (Kd.R_below (by (with_reducible repeat (first | apply Kd.R_alloc | apply Kd.R_drewN | apply Kd.R_drew)); exact HO_5.out) hb)
                          have n1_ := Aside0.mk (Kd.R_below (by (with_reducible repeat (first | apply Kd.R_alloc | apply Kd.R_drewN | apply Kd.R_drew)); exact HO_8.out) hb)
                          have n2_ := Aside0.mk (below_step (by repeat (first | (with_reducible first | exact HB.out | apply below_alloc | apply pw_below_drewN | apply below_drew1) | exact HB.out)) hb)
                          clear HO_5 HO_8 HB
                          have HO_5 := n0_
                          have HO_8 := n1_
                          have HB := n2_
                          clear n0_ n1_ n2_
                          (try clear hb)
                          (try clear hb2)
                          (try clear hk)
                          (try clear hi)
                          refine hK.out _ _ ⟨HS0_, HS1_, HS2_, HS3_⟩ (fun hHeld => ?_)
                          clear hK K
                          refine nz_ 58 ?_
                          refine pz_ 12 59 HT_.out ?_
                          refine pz_ 13 10 HT_.out ?_
                          refine done_ (done_of HT_.out (by kernel_rfl)) ?_
                          have p356 : 0 ≤ (x9_3 : Int) := of_decide_eq_true (by first | (with_reducible assumption) | assumption)
                          have q356 : x9_3 < (t349.length : Int) := of_decide_eq_true (by first | (with_reducible assumption) | assumption)
                          obtain ⟨ad356, e356, hx356_0, hx356_1⟩ := at_T24 (Kd.R_reads' HO_5.out).2.2 x9_3 p356 q356
                          obtain rfl : ad352 = ad356 := (by injection e356)
                          replace p356 := eq_true p356
                          replace q356 := eq_true q356
                          try go_wp2_with (first | ((with_reducible refine gate_builtin (b := .append) (xs := #[.tmp 62, .tmp 69]) rfl ?_); at_builtin; refine Kd.R_append k35 (w0 := w) w.heap.size rfl (.tmp 62) (.tmp 69) 27 35 (.agg #[(.string ⟨#[]⟩), (.string ⟨#[]⟩), (.int .i64 0)]) 40 rfl Tryz.underlying27 info35 rfl (by decide) (by omega) u8 x8_3 (⟨(⟨(rd_T24 t349 x9_3).f0, (rd_T24 t349 x9_3).f1⟩ : S24), wrap64 (t353 + t355)⟩ : S35) [.string ((rd_T24 t349 x9_3).f0), .string ((rd_T24 t349 x9_3).f1), .int .i64 (wrap64 (t353 + t355))] (fun _ => True) (fun _ => False) rfl rfl ?aP (fun _ hk => hk.elim) ?aF ?aO ?aB ?aS ?aL ?_; (case aP => exact k35_mkM _ _ _ (⟨(⟨(rd_T24 t349 x9_3).f0, (rd_T24 t349 x9_3).f1⟩ : S24), wrap64 (t353 + t355)⟩ : S35)); (case aB => exact (by repeat (first | (with_reducible first | exact HB.out | apply below_alloc | apply pw_below_drewN | apply below_drew1) | exact HB.out))); (case aF => exact (fun _ _ => trivial)); (case aO => exact (by (with_reducible repeat (first | apply Kd.R_alloc | apply Kd.R_drewN | apply Kd.R_drew)); exact HO_8.out)); (case aS => exact (below_size (by repeat (first | (with_reducible first | exact HB.out | apply below_alloc | apply pw_below_drewN | apply below_drew1) | exact HB.out)))); (case aL => have := LMc23.out; omega); intro v358 w28 ho hb hg hat; rw [← Ny357.out] at ho; have n0_ := Aside0.mk (Kd.R_over' (by (with_reducible repeat (first | apply Kd.R_alloc | apply Kd.R_drewN | apply Kd.R_drew)); exact HO_5.out) (Kd.R_typed (by (with_reducible repeat (first | apply Kd.R_alloc | apply Kd.R_drewN | apply Kd.R_drew)); exact HO_8.out)) (by decide) hg); have n1_ := Aside0.mk (hb); have n2_ := Aside0.mk (ho); clear HO_5; clear HB; clear HO_8; have HO_5 := n0_; have HB := n1_; have HO359 := n2_; clear n0_ n1_ n2_; clear ho hb hg hat))
                          go_roundg k3
                          case measure => have := HK1.out; have := HK2.out; have := HK3.out; omega
                          case rel => exact ⟨(y357), (wrap64 (x9_3 + 1)), (by first | rfl | (simp; done) | (simp [*]; done)), H', ⟨by have := HK1.out; have := HK2.out; have := HK3.out; omega⟩, ⟨by (with_reducible repeat (first | apply Kd.R_alloc | apply Kd.R_drewN | apply Kd.R_drew)); exact HO_5.out⟩, ⟨by (with_reducible repeat (first | apply Kd.R_alloc | apply Kd.R_drewN | apply Kd.R_drew)); exact HO359.out⟩, ⟨by repeat (first | (with_reducible first | exact HB.out | apply below_alloc | apply pw_below_drewN | apply below_drew1) | exact HB.out)⟩⟩
                        · rw [if_neg c23] at H
                          exact absurd H (by simp)
                    · rw [if_neg c15] at H
                      exact absurd H (by simp)
                  · rw [if_neg c14] at H
                    have c14b0 : decide (x9_3 < (t349.length : Int)) = false := decide_eq_false c14
                    clear c14
                    obtain rfl := Option.some.inj H
                    obtain ⟨Ao29, co29, eo29⟩ := Kd.R_slice HO_5.out
                    subst eo29
                    go_wp2
                    go_ret
                    exact ⟨_, by first | rfl | (simp [errW_none, errW_some] <;> rfl) | (simp [*, errW_none, errW_some] <;> rfl), by (with_reducible repeat (first | apply Kd.R_alloc | apply Kd.R_drewN | apply Kd.R_drew)); exact HO_8.out, by repeat (first | (with_reducible first | exact HB.out | apply below_alloc | apply pw_below_drewN | apply below_drew1) | exact HB.out)⟩

-- NOT PRINTED: function 5 (graftwoodlaw13_DiffEdits)
end Go.Proofs.YtcfphieogalnbaaGreatDoor.Q
end

section
namespace Go.Proofs.YtcfphieogalnbaaGreatDoor.Q
open Go.Proofs.YtcfphieogalnbaaGreatDoor.QB.D
open Go Go.RowKit Go.Lib Go.Proofs.YtcfphieogalnbaaGreatDoorW.PrintWords Go.Proofs.YtcfphieogalnbaaGreatDoorW.PrintLast Go.Proofs.YtcfphieogalnbaaGreatDoorW.PrintMore Gw
set_option linter.unusedVariables false
set_option linter.unusedSimpArgs false
theorem by13_l0 (l : List S35) (hl : l.length ≤ 1000) (hin : InE l) (x : S24) : ∀ (r i k : Nat) (c : Int), i + r = l.length → r + 1 ≤ k → -1099511627776 * (i : Int) ≤ c → c ≤ 1099511627776 * (i : Int) → graftwoodref13_By.l0 k l c (i : Int) x.f0 x.f1 = some (c + byE (l.drop i) x) := by
  intro r
  induction r with
  | zero =>
    intro i k c hi hk h0 h1
    obtain ⟨j, rfl⟩ : ∃ j, k = j + 1 := ⟨k - 1, by omega⟩
    simp only [graftwoodref13_By.l0]
    rw [if_neg (by omega), List.drop_eq_nil_of_le (by omega)]
    simp [byE]
  | succ r ih =>
    intro i k c hi hk h0 h1
    obtain ⟨j, rfl⟩ : ∃ j, k = j + 1 := ⟨k - 1, by omega⟩
    have hil : i < l.length := by omega
    have hrd : rd_T35 l (i : Int) = l[i] := by simp [rd_T35, List.getD_eq_getElem?_getD, List.getElem?_eq_getElem hil]
    have hwr : wrap64 ((i : Int) + 1) = ((i + 1 : Nat) : Int) := by unfold wrap64; omega
    have hx := hin l[i] (List.getElem_mem hil)
    have hwc : wrap64 (c + l[i].f1) = c + l[i].f1 := by unfold wrap64; omega
    simp only [graftwoodref13_By.l0]
    rw [if_pos (by omega), if_pos (by omega), hrd, List.drop_eq_getElem_cons hil, byE_cons, hwr]
    by_cases e : l[i].f0 = x
    · rw [if_pos (by rw [e]; simp), if_pos e, hwc, ih (i + 1) j _ (by omega) (by omega) (by omega) (by omega)]
      congr 1
      omega
    · rw [if_neg (fun h => e (by
        rw [Bool.and_eq_true, beq_iff_eq, beq_iff_eq] at h
        have ex : ∀ a b : ByteArray, a.toList = b.toList → a = b := fun a b h => by rw [ByteArray.toList_eq, ByteArray.toList_eq] at h; cases a; cases b; congr; exact Array.ext' h
        have h1 := ex _ _ h.1
        have h2 := ex _ _ h.2
        generalize l[i].f0 = y at h1 h2
        cases y; cases x
        simp only at h1 h2
        rw [h1, h2])), if_neg e, ih (i + 1) j c (by omega) (by omega) (by omega) (by omega)]
      congr 1
      omega
theorem by13_val (l : List S35) (hl : l.length ≤ 1000) (hin : InE l) (x : S24) (k : Nat) (hk : l.length + 1 ≤ k) : graftwoodref13_By.f k l x.f0 x.f1 = some (byE l x) := by
  have h := by13_l0 l hl hin x l.length 0 k 0 (by omega) (by omega) (by omega) (by omega)
  rw [List.drop_zero, Int.zero_add] at h
  exact h
theorem byE_far {l : List S35} (h : InE l) (x : S24) : -1099511627776 * (l.length : Int) ≤ byE l x ∧ byE l x ≤ 1099511627776 * (l.length : Int) := by
  induction l with
  | nil => simp [byE]
  | cons y r ih =>
    have h1 := h y (.head _)
    have h2 := ih (fun z hz => h z (.tail _ hz))
    rw [byE_cons, List.length_cons]
    split <;> omega
theorem both13_l2 (a b : List S35) (S : List S24) (ha : a.length ≤ 1000) (hb : b.length ≤ 1000) (ia : InE a) (ib : InE b) (hS : S.length ≤ 100000) : ∀ (r i k : Nat), i + r = S.length → r + 3000 ≤ k →
    graftwoodref13_Both.l2 k a b S (editsF (countE [] (a ++ b)) (S.take i)) (i : Int) = some (editsF (countE [] (a ++ b)) S) := by
  intro r
  induction r with
  | zero =>
    intro i k hi hk
    obtain ⟨j, rfl⟩ : ∃ j, k = j + 1 := ⟨k - 1, by omega⟩
    simp only [graftwoodref13_Both.l2]
    rw [if_neg (by omega), List.take_of_length_le (by omega)]
  | succ r ih =>
    intro i k hi hk
    obtain ⟨j, rfl⟩ : ∃ j, k = j + 1 := ⟨k - 1, by omega⟩
    have hil : i < S.length := by omega
    have hrd : rd_T24 S (i : Int) = S[i] := by simp [rd_T24, List.getD_eq_getElem?_getD, List.getElem?_eq_getElem hil]
    have hwr : wrap64 ((i : Int) + 1) = ((i + 1 : Nat) : Int) := by unfold wrap64; omega
    have r1 := byE_far ia S[i]
    have r2 := byE_far ib S[i]
    have hwc : wrap64 (byE a S[i] + byE b S[i]) = byE a S[i] + byE b S[i] := by unfold wrap64; omega
    have htk : S.take (i + 1) = S.take i ++ [S[i]] := List.take_succ_eq_append_getElem hil
    have hsn := editsF_snoc (countE [] (a ++ b)) (S.take i) S[i]
    have h0 : (lookC [] S[i]).getD 0 = 0 := by simp [lookC]
    rw [← htk, look_countE, byE_append, h0, Int.zero_add] at hsn
    have ih' := ih (i + 1) j (by omega) (by omega)
    rw [hsn] at ih'
    have hel := editsF_len (countE [] (a ++ b)) (S.take i)
    rw [List.length_take] at hel
    simp only [graftwoodref13_Both.l2]
    rw [if_pos (by omega), if_pos (by omega), hrd, by13_val a ha ia S[i] j (by omega), by13_val b hb ib S[i] j (by omega)]
    simp only [Option.bind_some]
    rw [hwc, hwr]
    by_cases hz : byE a S[i] + byE b S[i] = 0
    · rw [if_pos hz]
      rw [if_pos hz] at ih'
      exact ih'
    · rw [if_neg hz, if_pos (by omega)]
      rw [if_neg hz] at ih'
      exact ih'
theorem both13_l1 (a b : List S35) (ha : a.length ≤ 1000) (hb : b.length ≤ 1000) (X : Option (List S35)) (K : Nat) (hX : ∀ k, K ≤ k → (graftwoodref05_Set.f k (a.map (·.f0) ++ b.map (·.f0))).bind (fun s => graftwoodref13_Both.l2 k a b s [] 0) = X) : ∀ (r i k : Nat), i + r = b.length → r + K + 1 ≤ k →
    graftwoodref13_Both.l1 k a b (a.map (·.f0) ++ (b.take i).map (·.f0)) (i : Int) = X := by
  intro r
  induction r with
  | zero =>
    intro i k hi hk
    obtain ⟨j, rfl⟩ : ∃ j, k = j + 1 := ⟨k - 1, by omega⟩
    simp only [graftwoodref13_Both.l1]
    rw [if_neg (by omega), List.take_of_length_le (by omega)]
    exact hX j (by omega)
  | succ r ih =>
    intro i k hi hk
    obtain ⟨j, rfl⟩ : ∃ j, k = j + 1 := ⟨k - 1, by omega⟩
    have hil : i < b.length := by omega
    have hrd : rd_T35 b (i : Int) = b[i] := by simp [rd_T35, List.getD_eq_getElem?_getD, List.getElem?_eq_getElem hil]
    have hwr : wrap64 ((i : Int) + 1) = ((i + 1 : Nat) : Int) := by unfold wrap64; omega
    have ih' := ih (i + 1) j (by omega) (by omega)
    rw [List.take_succ_eq_append_getElem hil, List.map_append, ← List.append_assoc] at ih'
    simp only [graftwoodref13_Both.l1]
    rw [if_pos (by omega), if_pos (by omega), if_pos (by rw [List.length_append, List.length_map, List.length_map, List.length_take]; omega), hrd, hwr]
    exact ih'
theorem both13_l0 (a b : List S35) (ha : a.length ≤ 1000) (X : Option (List S35)) (K : Nat) (hX : ∀ k, K ≤ k → graftwoodref13_Both.l1 k a b (a.map (·.f0)) 0 = X) : ∀ (r i k : Nat), i + r = a.length → r + K + 1 ≤ k →
    graftwoodref13_Both.l0 k a b ((a.take i).map (·.f0)) (i : Int) = X := by
  intro r
  induction r with
  | zero =>
    intro i k hi hk
    obtain ⟨j, rfl⟩ : ∃ j, k = j + 1 := ⟨k - 1, by omega⟩
    simp only [graftwoodref13_Both.l0]
    rw [if_neg (by omega), List.take_of_length_le (by omega)]
    exact hX j (by omega)
  | succ r ih =>
    intro i k hi hk
    obtain ⟨j, rfl⟩ : ∃ j, k = j + 1 := ⟨k - 1, by omega⟩
    have hil : i < a.length := by omega
    have hrd : rd_T35 a (i : Int) = a[i] := by simp [rd_T35, List.getD_eq_getElem?_getD, List.getElem?_eq_getElem hil]
    have hwr : wrap64 ((i : Int) + 1) = ((i + 1 : Nat) : Int) := by unfold wrap64; omega
    have ih' := ih (i + 1) j (by omega) (by omega)
    rw [List.take_succ_eq_append_getElem hil, List.map_append] at ih'
    simp only [graftwoodref13_Both.l0]
    rw [if_pos (by omega), if_pos (by omega), if_pos (by rw [List.length_map, List.length_take]; omega), hrd, hwr]
    exact ih'
theorem both13_val (a b : List S35) (oa : Oke a) (ob : Oke b) (ba : Oks a) (bb : Oks b) (k : Nat) (hk : 80000 ≤ k) : graftwoodref13_Both.f k a b = some (bothV a b) := by
  have ha := ba.1
  have hb := bb.1
  have hlm : ∀ x ∈ a.map (·.f0) ++ b.map (·.f0), Brief x ∧ mayN x = true := fun x hx => by
    rcases List.mem_append.1 hx with h | h
    · obtain ⟨y, hy, rfl⟩ := List.mem_map.1 h; exact ⟨ba.2 y hy, (oa.tiny y hy).2⟩
    · obtain ⟨y, hy, rfl⟩ := List.mem_map.1 h; exact ⟨bb.2 y hy, (ob.tiny y hy).2⟩
  have hr := rsetN_facts (a.map (·.f0) ++ b.map (·.f0)) (fun x hx => (hlm x hx).1.tiny) (fun x hx => (hlm x hx).2) [] IsSet.nil
  have hok := bothC_ok a b oa.len ob.len oa.tiny ob.tiny
  have hs : sortN ((countE [] (a ++ b)).map (·.1)) = rsetN (a.map (·.f0) ++ b.map (·.f0)) := by
    refine IsSet.ext (sorted_is hok.nodup (fun x hx => by obtain ⟨p, hp, rfl⟩ := List.mem_map.1 hx; exact hok.may p hp)) hr.1 (fun x => ?_)
    rw [(sortN_perm _).mem_iff, keys_countE, List.map_append]
    unfold rsetN
    rw [hr.2]
    simp
  have hsl : (rsetN (a.map (·.f0) ++ b.map (·.f0))).length ≤ 65536 := by rw [← hs, (sortN_perm _).length_eq, List.length_map]; exact hok.len
  unfold graftwoodref13_Both.f
  refine both13_l0 a b (by omega) _ 75000 (fun k1 h1 => ?_) a.length 0 k (by omega) (by omega)
  have := both13_l1 a b (by omega) (by omega) (some (bothV a b)) 70000 (fun k2 h2 => ?_) b.length 0 k1 (by omega) (by omega)
  · simpa using this
  · rw [rset_val _ (by simp; omega) (fun x h => (hlm x h).1) (fun x h => (hlm x h).2) k2 (by simp; omega), Option.bind_some]
    have h := both13_l2 a b (rsetN (a.map (·.f0) ++ b.map (·.f0))) (by omega) (by omega) oa.inn ob.inn (by omega) _ 0 k2 (Nat.zero_add _) (by omega)
    rw [List.take_zero] at h
    unfold bothV
    rw [hs]
    exact h
theorem both13_c {A0 : Option Addr} {c0 : Nat} {A1 : Option Addr} {c1 : Nat} {a b : List S35} {w : World} (h0 : SeeA k35 w A0 c0 a) (h1 : SeeA k35 w A1 c1 b) (oa : Oke a) (ob : Oke b) (ba : Oks a) (bb : Oks b) :
    Calls Tryz.prog 21 #[.slice A0 a.length c0, .slice A1 b.length c1] w fun x w' => ∃ A c, x = .returned (.slice A (bothV a b).length c) ∧ SeeA k35 w' A c (bothV a b) ∧ Aside0 (Below w.heap.size w w') :=
  cR (graftwoodref13_Both.calls 80000 A0 c0 a A1 c1 b _ w h0.out.2 h0.out.1 h1.out.2 h1.out.1 (both13_val a b oa ob ba bb 80000 (by omega)))
theorem may13_c {A : Option Addr} {c : Nat} {l : List S35} {w : World} {b : Bool} (h0 : SeeA k35 w A c l) (hl : l.length ≤ 1000) (hb : ∀ x ∈ l, Brief x.f0) (hbv : checkE l = b) :
    Calls Tryz.prog 20 #[.slice A l.length c] w fun e w' => e = .returned (.bool b) ∧ Aside0 (Below w.heap.size w w') := cB (may13_calls A c l w h0 hl hb b hbv)
theorem checkI_c {A0 : Option Addr} {c0 : Nat} {l : List S35} {w : World} {b : Bool} (h0 : SeeA k35 w A0 c0 l) (hl : Oks l) (hb : checkE l = b) :
    Calls Tryz.prog 19 #[.slice A0 l.length c0] w fun x w' => x = .returned (.int .i64 (okV b)) ∧ Aside0 (Below w.heap.size w w') := by
  obtain ⟨K, hK⟩ : ∃ K, 65536 + 4294967320 ≤ K := ⟨_, Nat.le_refl _⟩
  have e0 := checkE_val l (by have := hl.1; omega) (fun x h => (hl.2 x h).tiny) K (by have := hl.1; omega)
  rw [hb] at e0
  exact cB (diff_Check.calls K A0 c0 l _ w h0.out.2 h0.out.1 e0)
theorem bothV_brief (a b : List S35) (ba : ∀ x ∈ a, Brief x.f0) (bb : ∀ x ∈ b, Brief x.f0) : ∀ x ∈ bothV a b, Brief x.f0 := fun x hx => by
  unfold bothV editsF at hx
  obtain ⟨n, hn, rfl⟩ := List.mem_map.1 hx
  have h := (keys_countE (a ++ b) [] n).1 ((sortN_perm _).mem_iff.1 (List.mem_filter.1 hn).1)
  rw [List.map_append, List.mem_append] at h
  rcases h with h | h | h
  · cases h
  · obtain ⟨y, hy, rfl⟩ := List.mem_map.1 h; exact ba y hy
  · obtain ⟨y, hy, rfl⟩ := List.mem_map.1 h; exact bb y hy
set_option maxHeartbeats 16000000 in
set_option maxRecDepth 100000 in
theorem dedits_calls (A0 : Option Addr) (c0 : Nat) (l0 : List S35) (A1 : Option Addr) (c1 : Nat) (l1 : List S35) (w : World) (h0 : SeeA k35 w A0 c0 l0) (h1 : SeeA k35 w A1 c1 l1) :
    Calls Tryz.prog 5 #[.slice A0 l0.length c0, .slice A1 l1.length c1] w fun e w' => e = .returned (.bool true) ∧ Below w.heap.size w w' := by
  have hu24 := Tryz.underlying24
  have hu35 := Tryz.underlying35
  have o0 : Oks (fewE l0) := ⟨fewE_len l0, fewE_brief l0⟩
  have o1 : Oks (fewE l1) := ⟨fewE_len l1, fewE_brief l1⟩
  have C1 := few13_c h0
  have C2 := fun W (b : Aside0 (Below w.heap.size w W)) => few13_c (h1.to b)
  obtain ⟨F, hF⟩ : ∃ F, F = fewE l0 := ⟨_, rfl⟩
  obtain ⟨G, hG⟩ : ∃ F, F = fewE l1 := ⟨_, rfl⟩
  rw [← hF] at C1 o0
  rw [← hG] at C2 o1
  clear hF hG
  have O0 := Aside0.mk o0
  have O1 := Aside0.mk o1
  have hFl : (F.length : Int) ≤ 20 := by have := o0.1; omega
  clear o0 o1 h0 h1
  replace C2 := Aside0.mk C2
  go_enter Tryz.func5, Tryz.ntmps5
  go_wp2_with fail
  refine C1.mono ?_
  rintro e w1 ⟨A3, c3, rfl, K0, B1⟩
  go_wp2_with fail
  refine (C2.out w1 B1).mono ?_
  rintro e w2 ⟨A4, c4, rfl, K1, B2⟩
  replace K0 := K0.to B2
  have HB := bgo B1 B2
  clear B1 B2 C1 C2
  obtain ⟨x1, hx1⟩ : ∃ x, x = (bV F G).1 := ⟨_, rfl⟩
  obtain ⟨i1, hi1⟩ : ∃ x, x = (bV F G).2 := ⟨_, rfl⟩
  have C3 := bV_c K0 K1 O0.out O1.out
  rw [← hx1, ← hi1] at C3
  have hxl : x1.length ≤ 40 := by rw [hx1]; exact bV_len F G O0.out.1 O1.out.1
  have hno : ¬ (checkE F = true ∧ checkE G = true) → x1 = [] ∧ i1 = 1 := fun h => by rw [hx1, hi1]; unfold bV; rw [if_neg h]; exact ⟨rfl, rfl⟩
  have hbig : checkE F = true → checkE G = true → checkE (bothV F G) = false → x1 = [] ∧ i1 = 4 := fun h g k => by rw [hx1, hi1]; unfold bV; rw [if_pos ⟨h, g⟩, k, if_neg (by simp)]; exact ⟨rfl, rfl⟩
  have hyes : checkE F = true → checkE G = true → checkE (bothV F G) = true → x1 = bothV F G ∧ i1 = 0 := fun h g k => by rw [hx1, hi1]; unfold bV; rw [if_pos ⟨h, g⟩, k, if_pos rfl]; exact ⟨rfl, rfl⟩
  have HNO := Aside0.mk hno
  have HBIG := Aside0.mk hbig
  have HYES := Aside0.mk hyes
  have HXL := Aside0.mk hxl
  clear hx1 hi1 hno hbig hyes hxl
  cases hc : checkE F
  · obtain ⟨rfl, rfl⟩ := HNO.out (fun h => by rw [hc] at h; cases h.1)
    have C5 := fun W (b : Aside0 (Below w2.heap.size w2 W)) => turnI_c (K0.to b) O0.out hc
    simp only [if_false, Bool.false_eq_true] at C5
    have C6 := fun W (b : Aside0 (Below w2.heap.size w2 W)) => checkI_c (K0.to b) O0.out hc
    have C7 := fun W (b : Aside0 (Below w2.heap.size w2 W)) => may13_c (K0.to b) (by have := O0.out.1; omega) O0.out.2 hc
    replace C5 := Aside0.mk C5
    replace C6 := Aside0.mk C6
    replace C7 := Aside0.mk C7
    clear HNO HBIG HYES hc
    go_wp2_with fail
    refine C3.mono ?_
    rintro e w3 ⟨A5, c5, rfl, X1, B3⟩
    clear C3
    go_wp2_with fail
    refine (C5.out _ B3).mono ?_
    rintro e w4 ⟨A6, c6, rfl, X2, B4⟩
    replace B3 := bgo B3 B4
    go_wp2_with fail
    refine (C6.out _ B3).mono ?_
    rintro e w5 ⟨rfl, B5⟩
    replace B3 := bgo B3 B5
    simp only [okV]
    go_wp2_with fail
    refine (C7.out _ B3).mono ?_
    rintro e w6 ⟨rfl, B6⟩
    replace B3 := bgo B3 B6
    go_wp2_with fail
    refine (C7.out _ B3).mono ?_
    rintro e w7 ⟨rfl, B7⟩
    replace B3 := bgo B3 B7
    go_wp2_with fail
    refine (aw13_c _).mono ?_
    rintro e w8 ⟨rfl, B8⟩
    replace HB := bgo HB (bgo B3 B8)
    go_wp2
    go_ret
    exact ⟨rfl, HB.out⟩
  · have oa := O0.out.oke hc
    have C5 := fun W (b : Aside0 (Below w2.heap.size w2 W)) => turnI_c (K0.to b) O0.out hc
    simp only [if_true] at C5
    have C6 := fun W (b : Aside0 (Below w2.heap.size w2 W)) => checkI_c (K0.to b) O0.out hc
    have C7 := fun W (b : Aside0 (Below w2.heap.size w2 W)) => may13_c (K0.to b) (by have := O0.out.1; omega) O0.out.2 hc
    obtain ⟨t, ht⟩ : ∃ t, t = F.map turnE := ⟨_, rfl⟩
    rw [← ht] at C5
    have htl : t.length = F.length := by rw [ht, List.length_map]
    have HT := Aside0.mk ht
    have OA := Aside0.mk oa
    have HC := Aside0.mk hc
    replace C5 := Aside0.mk C5
    replace C6 := Aside0.mk C6
    replace C7 := Aside0.mk C7
    clear hc ht oa
    go_wp2_with fail
    refine C3.mono ?_
    rintro e w3 ⟨A5, c5, rfl, X1, B3⟩
    clear C3
    go_wp2_with fail
    refine (C5.out _ B3).mono ?_
    rintro e w4 ⟨A6, c6, rfl, X2, B4⟩
    replace B3 := bgo B3 B4
    replace X1 := X1.to B4
    go_wp2_with fail
    refine (C6.out _ B3).mono ?_
    rintro e w5 ⟨rfl, B5⟩
    replace B3 := bgo B3 B5
    simp only [okV]
    go_wp2_with fail
    refine (C7.out _ B3).mono ?_
    rintro e w6 ⟨rfl, B6⟩
    replace B3 := bgo B3 B6
    go_wp2_with fail
    refine (C7.out _ B3).mono ?_
    rintro e w7 ⟨rfl, B7⟩
    replace B3 := bgo B3 B7
    replace X1 := X1.to (bgo B5 (bgo B6 B7))
    replace X2 := X2.to (bgo B5 (bgo B6 B7))
    replace K0 := K0.to B3
    replace K1 := K1.to B3
    replace HB := bgo HB B3
    clear B3 B4 B5 B6 B7 C5 C6 C7
    go_wp2_with fail
    go_loopw [9] (fun v9 wr => ∃ i : Nat, i ≤ F.length ∧ v9 = .int .i64 (i : Int) ∧ Aside0 (Below w7.heap.size w7 wr)) (fun v9 _ => F.length - (RowKit.intOf v9).toNat)
    case atStart => exact ⟨0, Nat.zero_le _, rfl, ⟨Below.refl _ _⟩⟩
    case round =>
      obtain ⟨i, hi, rfl, HL⟩ := hrel
      by_cases hil : i < F.length
      · have j1 : (i : Int) < (F.length : Int) := by omega
        have j2 : (i : Int) < (t.length : Int) := by omega
        have hdi : decide ((i : Int) < (F.length : Int)) = true := decide_eq_true j1
        obtain ⟨ad, eA, x0, x1, x2⟩ := at_T35 (K0.to HL).out.2 (i : Int) (by omega) (by omega)
        obtain ⟨ad', eA', y0, y1, y2⟩ := at_T35 (X2.to HL).out.2 (i : Int) (by omega) (by omega)
        have hrd : rd_T35 F (i : Int) = F[i] := by simp [rd_T35, List.getD_eq_getElem?_getD, List.getElem?_eq_getElem hil]
        have hrd2 : rd_T35 t (i : Int) = ⟨F[i].f0, -F[i].f1⟩ := by rw [HT.out]; simp [rd_T35, List.getD_eq_getElem?_getD, List.getElem?_eq_getElem hil, turnE]
        rw [hrd, Int.toNat_natCast] at x0 x1 x2
        rw [hrd2, Int.toNat_natCast] at y0 y1 y2
        cases eA
        cases eA'
        have hin := OA.out.inn F[i] (List.getElem_mem hil)
        obtain ⟨z, hz⟩ : ∃ y, y = F[i] := ⟨_, rfl⟩
        rw [← hz] at x0 x1 x2 y0 y1 y2 hin
        have hwn : IntKind.i64.wrap (-z.f1) = -z.f1 := by rw [IntKind.wrap_i64]; omega
        have hwi : IntKind.i64.wrap ((i : Int) + 1) = (i : Int) + 1 := by rw [IntKind.wrap_i64]; omega
        clear hrd hrd2 hin hz
        go_wp2_with fail
        go_region
        all_goals
          go_wp2
          go_roundw
          case rel => exact ⟨i + 1, by omega, by go_num, ⟨below_drew HL.out⟩⟩
          case measure => simp [RowKit.intOf]; omega
      · obtain rfl : i = F.length := by omega
        have hdi : decide ((F.length : Int) < (F.length : Int)) = false := decide_eq_false (by omega)
        replace X1 := X1.to HL
        replace K0 := K0.to HL
        replace K1 := K1.to HL
        replace HB := bgo HB HL
        clear HL X2
        cases hg : checkE G
        · obtain ⟨rfl, rfl⟩ := HNO.out (fun h => by rw [hg] at h; cases h.2)
          have C8 := may13_c K1 (by have := O1.out.1; omega) O1.out.2 hg
          clear HNO HBIG HYES hg
          go_wp2_with fail
          refine C8.mono ?_
          rintro e w9 ⟨rfl, B9⟩
          clear C8
          go_wp2_with fail
          refine (aw13_c _).mono ?_
          rintro e w10 ⟨rfl, B10⟩
          replace HB := bgo HB (bgo B9 B10)
          go_wp2
          go_ret
          exact ⟨rfl, HB.out⟩
        · have ob := O1.out.oke hg
          have C8 := may13_c K1 (by have := O1.out.1; omega) O1.out.2 hg
          have C9 := fun W (b : Aside0 (Below wr.heap.size wr W)) => both13_c (K0.to b) (K1.to b) OA.out ob O0.out O1.out
          have hbl : (bothV F G).length ≤ 40 := by have := bothV_len2 F G; have := O0.out.1; have := O1.out.1; omega
          have hbb := bothV_brief F G O0.out.2 O1.out.2
          have hy := HYES.out HC.out hg
          have hn := HBIG.out HC.out hg
          obtain ⟨v, hv⟩ : ∃ v, v = bothV F G := ⟨_, rfl⟩
          rw [← hv] at C9 hbl hbb hy hn
          have HG := Aside0.mk hg
          have HBL := Aside0.mk hbl
          have HBB := Aside0.mk hbb
          have HY := Aside0.mk hy
          have HN := Aside0.mk hn
          replace C9 := Aside0.mk C9
          clear HNO HBIG HYES hg hv hbl hbb hy hn ob
          go_wp2_with fail
          refine C8.mono ?_
          rintro e w9 ⟨rfl, B9⟩
          clear C8
          go_wp2_with fail
          refine (C9.out _ B9).mono ?_
          rintro e w10 ⟨A7, c7, rfl, V, B10⟩
          replace B9 := bgo B9 B10
          clear C9
          cases hv : checkE v
          · obtain ⟨rfl, rfl⟩ := HN.out hv
            have CV := may13_c V (by have := HBL.out; omega) HBB.out hv
            clear HN HY hv
            go_wp2_with fail
            refine CV.mono ?_
            rintro e w11 ⟨rfl, B11⟩
            clear CV
            go_wp2_with fail
            refine (aw13_c _).mono ?_
            rintro e w12 ⟨rfl, B12⟩
            replace HB := bgo HB (bgo B9 (bgo B11 B12))
            go_wp2
            go_ret
            exact ⟨rfl, HB.out⟩
          · obtain ⟨e1, rfl⟩ := HY.out hv
            subst e1
            have CV := may13_c V (by have := HBL.out; omega) HBB.out hv
            clear HN HY hv
            go_wp2_with fail
            refine CV.mono ?_
            rintro e w11 ⟨rfl, B11⟩
            clear CV
            go_wp2_with fail
            refine (same13_c (X1.to (bgo B9 B11)) (V.to B11) (by have := HBL.out; omega)).mono ?_
            rintro e w12 ⟨rfl, B12⟩
            go_wp2_with fail
            refine (aw13_c _).mono ?_
            rintro e w13 ⟨rfl, B13⟩
            replace HB := bgo HB (bgo B9 (bgo B11 (bgo B12 B13)))
            go_wp2
            go_ret
            exact ⟨rfl, HB.out⟩
end Go.Proofs.YtcfphieogalnbaaGreatDoor.Q
end
