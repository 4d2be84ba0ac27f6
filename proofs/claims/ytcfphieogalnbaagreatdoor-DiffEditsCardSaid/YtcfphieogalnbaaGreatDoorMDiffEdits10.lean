/- Part 10 of this claim: several texts one behind the other: Fgraftwoodref05With, Fgraftwoodref05Set, RLess5, RMay5, R13May, RWith5, RSet5. What each shows stands in its theorems; conditions: sizes of texts and lists, as the functions' definitions say. -/
import Derived.Test.YtcfphieogalnbaaGreatDoorMDiffEdits0
import Derived.Test.YtcfphieogalnbaaGreatDoorMDiffEdits9
import Derived.Test.YtcfphieogalnbaaGreatDoorMDiffEdits6
import Derived.Test.YtcfphieogalnbaaGreatDoorMDiffEdits3
import Derived.Test.YtcfphieogalnbaaGreatDoorMDiffEdits8
import Derived.Test.YtcfphieogalnbaaGreatDoorMDiffEdits7
section
namespace Go.Proofs.YtcfphieogalnbaaGreatDoor.Q
open Go.RowKit Go.Proofs.YtcfphieogalnbaaGreatDoorW.PrintWords Go.Proofs.YtcfphieogalnbaaGreatDoorW.PrintLast Go.Proofs.YtcfphieogalnbaaGreatDoorW.PrintMore
attribute [local go_sem] max2_int min2_int max_two min_two max_three min_three max_four min_four   -- for this text's walks alone
set_option linter.unusedVariables false
set_option linter.unusedSimpArgs false
/-! ### graftwoodref05_With: function 39 -/
mutual
def graftwoodref05_With.l0 : Nat → List (S24) → List (S24) → Int → ByteArray → ByteArray → Option ((List (S24)))
  | 0, _, _, _, _, _ => none
  | k + 1, x0, x5, x6, x253000, x253001 => if x6 < (x0.length : Int) then (if 0 ≤ x6 then ((graftwoodref05_Less.f k ((rd_T24 x0 x6).f0) ((rd_T24 x0 x6).f1) x253000 x253001).bind fun t254 => (if t254 = true then (if x5.length < 4398046511104 then (graftwoodref05_With.l0 k x0 (x5 ++ [(⟨(rd_T24 x0 x6).f0, (rd_T24 x0 x6).f1⟩ : S24)]) (wrap64 (x6 + 1)) x253000 x253001) else (none)) else (graftwoodref05_With.l0 k x0 x5 (wrap64 (x6 + 1)) x253000 x253001))) else (none)) else (if x5.length < 4398046511104 then (graftwoodref05_With.l1 k x0 (x5 ++ [(⟨x253000, x253001⟩ : S24)]) 0 x253000 x253001) else (none))
def graftwoodref05_With.l1 : Nat → List (S24) → List (S24) → Int → ByteArray → ByteArray → Option ((List (S24)))
  | 0, _, _, _, _, _ => none
  | k + 1, x0, x5, x7, x253000, x253001 => if x7 < (x0.length : Int) then (if 0 ≤ x7 then ((graftwoodref05_Less.f k x253000 x253001 ((rd_T24 x0 x7).f0) ((rd_T24 x0 x7).f1)).bind fun t263 => (if t263 = true then (if x5.length < 4398046511104 then (graftwoodref05_With.l1 k x0 (x5 ++ [(⟨(rd_T24 x0 x7).f0, (rd_T24 x0 x7).f1⟩ : S24)]) (wrap64 (x7 + 1)) x253000 x253001) else (none)) else (graftwoodref05_With.l1 k x0 x5 (wrap64 (x7 + 1)) x253000 x253001))) else (none)) else (some x5)
end
def graftwoodref05_With.f (k : Nat) (l0 : List (S24)) (a1_0 : ByteArray) (a1_1 : ByteArray) : Option ((List (S24))) := graftwoodref05_With.l0 k l0 ([] : List (S24)) 0 a1_0 a1_1
set_option maxHeartbeats 8000000 in
set_option maxRecDepth 100000 in
theorem graftwoodref05_With.calls (k : Nat) (A0 : Option Addr) (c0 : Nat) (l0 : List (S24)) (a1_0 : ByteArray) (a1_1 : ByteArray) (r : List (S24)) (w : World) (hr0 : Kd.C k24 w A0 l0.length l0) (hc0 : l0.length ≤ c0) (h : graftwoodref05_With.f k l0 a1_0 a1_1 = some r) :
    Calls Tryz.prog 39 #[.slice A0 l0.length c0, .agg #[.string a1_0, .string a1_1]] w fun e w' => ∃ v0_ : Value, e = .returned (v0_) ∧ Kd.R k24 24 w' w.heap.size (fun _ => True) v0_ r ∧ Below w.heap.size w w' := by
  have hu24 := Tryz.underlying24
  have HR0 := Aside0.mk hr0
  have HC0 := Aside0.mk hc0
  clear hr0 hc0
  have HB := Aside0.mk (Below.refl w.heap.size w)
  have H : (graftwoodref05_With.l0 k l0 ([] : List (S24)) 0 a1_0 a1_1) = some r := h
  clear h
  have H' := Aside0.mk H
  clear H
  go_enter Tryz.func39, Tryz.ntmps39
  go_wp2_with (first | ((with_reducible refine gate_dst (N := 3) rfl ?_); refine box_event ?hg (N := 3) ?hd (cs := #[.string a1_0, .string a1_1]) (t := 24) ?hr ?_; (case hd => rfl); (case hg => rfl); (case hr => first | (go_simp; done) | (go_simp; rfl)); intro gb252 hg w3 hbox hb; have n0_ := Aside0.mk (below_step (by repeat (first | (with_reducible first | exact HB.out | apply below_alloc | apply pw_below_drewN | apply below_drew1) | exact HB.out)) hb); have n1_ := Aside0.mk (hbox); have n2_ := Aside0.mk ((by rw [hg]; exact (below_size (by repeat (first | (with_reducible first | exact HB.out | apply below_alloc | apply pw_below_drewN | apply below_drew1) | exact HB.out))) : w.heap.size ≤ gb252)); have n3_ := Aside0.mk ((by rw [hg]; exact (below_size (by repeat (first | (with_reducible first | exact HB.out | apply below_alloc | apply pw_below_drewN | apply below_drew1) | exact HB.out))) : w.heap.size ≤ gb252)); clear HB; have HB := n0_; have BK252 := n1_; have GW252 := n2_; have GE252 := n3_; clear n0_ n1_ n2_ n3_; clear hb hbox hg))
  go_loopg [5, 6] k (fun kq v5 v6 w' => ∃ (x5_1 : List (S24)) (x6_1 : Int), v6 = .int .i64 x6_1 ∧ Aside0 (graftwoodref05_With.l0 kq l0 x5_1 x6_1 a1_0 a1_1 = some r) ∧ Aside0 (kq ≤ k) ∧ Aside0 (Kd.R k24 24 w' w.heap.size (fun k_ => k_ ≠ gb252) v5 x5_1) ∧ Aside0 (w'.heap[gb252]? = some (.cells #[.string a1_0, .string a1_1] 24 (0, 0))) ∧ Aside0 (Below w.heap.size w w'))
  case atStart => exact ⟨(([] : List (S24))), (0), (by first | rfl | (simp; done) | (simp [*]; done)), H', ⟨Nat.le_refl _⟩, ⟨by first | exact Kd.R_nil _ _ _ _ _ | exact Kd.N_nil _ _ _ _ _ | exact Kd.V_nil _ _ _ _ _ | exact Kd.Q_nil _ _ _ _ _ | exact Kd.S_nil _ _ _ _ _⟩, ⟨by (with_reducible repeat (first | refine blk_drewN ?_ _ | refine blk_drew ?_ | refine blk_alloc ?_ _)); exact BK252.out⟩, ⟨by repeat (first | (with_reducible first | exact HB.out | apply below_alloc | apply pw_below_drewN | apply below_drew1 | refine below_set ?_ GE252.out) | exact HB.out)⟩⟩
  case round =>
    clear H'
    try clear p2
    try clear c3
    obtain ⟨x5_1, x6_1, rfl, HA, HK1, HO_5, BK252, HB⟩ := hrel
    cases gk with
    | zero => exact absurd HA.out (by simp [graftwoodref05_With.l0])
    | succ k1 =>
      have H := HA.out
      clear HA
      simp only [graftwoodref05_With.l0] at H
      by_cases c4 : x6_1 < (l0.length : Int)
      · rw [if_pos c4] at H
        have c4b0 : decide (x6_1 < (l0.length : Int)) = true := decide_eq_true c4
        clear c4
        by_cases c5 : 0 ≤ x6_1
        · rw [if_pos c5] at H
          have c5b0 : decide (0 ≤ x6_1) = true := decide_eq_true c5
          clear c5
          replace H := Option.bind_eq_some_iff.mp H
          obtain ⟨t254, A60, H⟩ := H
          replace H : (if t254 = true then (if x5_1.length < 4398046511104 then (graftwoodref05_With.l0 k1 l0 (x5_1 ++ [(⟨(rd_T24 l0 x6_1).f0, (rd_T24 l0 x6_1).f1⟩ : S24)]) (wrap64 (x6_1 + 1)) a1_0 a1_1) else (none)) else (graftwoodref05_With.l0 k1 l0 x5_1 (wrap64 (x6_1 + 1)) a1_0 a1_1)) = some r := H
          have A6 := Aside0.mk A60
          clear A60
          by_cases c7 : t254 = true
          · subst c7
            have H1 : (if x5_1.length < 4398046511104 then (graftwoodref05_With.l0 k1 l0 (x5_1 ++ [(⟨(rd_T24 l0 x6_1).f0, (rd_T24 l0 x6_1).f1⟩ : S24)]) (wrap64 (x6_1 + 1)) a1_0 a1_1) else (none)) = some r := by rw [if_pos rfl] at H; exact H
            clear H
            have H := H1
            clear H1
            by_cases c8 : x5_1.length < 4398046511104
            · rw [if_pos c8] at H
              have LMc8 := Aside0.mk c8
              clear c8
              obtain ⟨y256, hy256⟩ : ∃ y_ : List (S24), y_ = (x5_1 ++ [(⟨(rd_T24 l0 x6_1).f0, (rd_T24 l0 x6_1).f1⟩ : S24)]) := ⟨_, rfl⟩
              replace H : (graftwoodref05_With.l0 k1 l0 y256 (wrap64 (x6_1 + 1)) a1_0 a1_1) = some r := by first | (rw [hy256]; with_reducible exact H) | (have H2_ := (Option.bind_some _ _).symm.trans H; rw [hy256]; with_reducible exact H2_) | (have H2_ := (Option.bind_some _ _).symm.trans H; with_reducible exact H2_) | with_reducible exact H | (rw [hy256]; exact H) | exact H
              have Ny256 := Aside0.mk hy256
              clear hy256
              have H' := Aside0.mk H
              clear H
              try go_wp2
              have n0_ := Aside0.mk (Kd.R_drew HO_5.out)
              have n1_ := Aside0.mk (blk_drew BK252.out)
              have n2_ := Aside0.mk (below_drew1 HB.out)
              clear HO_5 BK252 HB
              have HO_5 := n0_
              have BK252 := n1_
              have HB := n2_
              clear n0_ n1_ n2_
              have p253 : 0 ≤ (x6_1 : Int) := of_decide_eq_true (by first | (with_reducible assumption) | assumption)
              have q253 : x6_1 < (l0.length : Int) := of_decide_eq_true (by first | (with_reducible assumption) | assumption)
              obtain ⟨ad253, e253, hx253_0, hx253_1⟩ := at_T24 HR0.out x6_1 p253 q253
              have hw253_1 := hx253_1
              have hw253_0 := hx253_0
              cases e253
              replace hx253_0 := (HB.out.cell (World.block_lt_of_cell? w _ hx253_0)).trans hx253_0
              replace hx253_1 := (HB.out.cell (World.block_lt_of_cell? w _ hx253_1)).trans hx253_1
              replace p253 := eq_true p253
              replace q253 := eq_true q253
              refine start_ (n := 6) (S := fun w' => w'.cell? ⟨gb252, 0, none⟩ = some (.string a1_0) ∧ w'.cell? ⟨gb252, 1, none⟩ = some (.string a1_1) ∧ w'.cell? (ad253.add ((x6_1).toNat * 2)) = some (.string ((rd_T24 l0 x6_1).f0)) ∧ w'.cell? ⟨(ad253.add ((x6_1).toNat * 2)).block, (ad253.add ((x6_1).toNat * 2)).off + 1, none⟩ = some (.string ((rd_T24 l0 x6_1).f1))) (ds := []) #[false, false, false, false, false, false] (by kernel_rfl) rfl rfl ⟨(blk_cell BK252.out 0).trans rfl, (blk_cell BK252.out 1).trans rfl, ((HB.out.cell (World.block_lt_of_cell? w _ hw253_0)).trans hw253_0), ((HB.out.cell (World.block_lt_of_cell? w _ hw253_1)).trans hw253_1)⟩ (fun hHeld => ?_)
              generalize wr.drew = w9 at HO_5 BK252 HB hx253_0 hx253_1 hHeld ⊢
              refine pure_ (i := 0) (N := some 14) (v := ?_) (a' := ?_) #[true, false, false, false, false, false] rfl rfl (by kernel_rfl) (fun _ _ _ h => h) (Or.inl ⟨by rfl, ?_⟩) ?_ ?_
              rotate_left
              · intro w'
                go_simp
                with_reducible rfl
              rotate_left
              · simp only [Act.put, List.setIfInBounds_toArray, List.set_cons_zero, List.set_cons_succ, i64_w, i32_w]
                rfl
              refine pure_ (i := 1) (N := some 15) (v := ?_) (a' := ?_) #[true, true, false, false, false, false] rfl rfl (by kernel_rfl) (fun _ _ _ h => h) (Or.inl ⟨by rfl, ?_⟩) ?_ ?_
              rotate_left
              · intro w'
                go_simp
                with_reducible rfl
              rotate_left
              · simp only [Act.put, List.setIfInBounds_toArray, List.set_cons_zero, List.set_cons_succ, i64_w, i32_w]
                rfl
              refine pure_ (i := 2) (N := some 16) (v := ?_) (a' := ?_) #[true, true, true, false, false, false] rfl rfl (by kernel_rfl) (fun _ _ _ h => h) (Or.inl ⟨by rfl, ?_⟩) ?_ ?_
              rotate_left
              · intro w'
                go_simp
                with_reducible rfl
              rotate_left
              · simp only [Act.put, List.setIfInBounds_toArray, List.set_cons_zero, List.set_cons_succ, i64_w, i32_w]
                rfl
              refine take_ (i := 3) (N := some 17) (v := ?_) (a' := ?_) #[true, true, true, true, false, false] rfl rfl (by kernel_rfl) (fun _ _ _ h => h) (Or.inl ⟨by rfl, ?_⟩) hHeld ?_ ?_
              rotate_left
              · rintro w' ⟨s0, s1, s2, s3⟩
                go_simp
                with_reducible rfl
              rotate_left
              · simp only [Act.put, List.setIfInBounds_toArray, List.set_cons_zero, List.set_cons_succ, i64_w, i32_w]
                rfl
              refine take_ (i := 4) (N := some 18) (v := ?_) (a' := ?_) #[true, true, true, true, true, false] rfl rfl (by kernel_rfl) (fun _ _ _ h => h) (Or.inl ⟨by rfl, ?_⟩) hHeld ?_ ?_
              rotate_left
              · rintro w' ⟨s0, s1, s2, s3⟩
                go_simp
                with_reducible rfl
              rotate_left
              · simp only [Act.put, List.setIfInBounds_toArray, List.set_cons_zero, List.set_cons_succ, i64_w, i32_w]
                rfl
              refine one_ (i := 5) (N := some 19) #[true, true, true, true, true, true] rfl rfl (by kernel_rfl) (by decide) (fun K hK => ?_)
              refine goes_ Tryz.func32 (by kernel_rfl) rfl #[.agg #[.string ((rd_T24 l0 x6_1).f0), .string ((rd_T24 l0 x6_1).f1)], .agg #[.string a1_0, .string a1_1]] (by rfl) rfl rfl (by (try simp only [List.map_toArray, List.map_cons, List.map_nil]); first | done | rfl | (simp only [List.length_drop, List.length_take]; rfl)) ?_
              with_reducible refine (graftwoodref05_Less.calls k1 ((rd_T24 l0 x6_1).f0) ((rd_T24 l0 x6_1).f1) a1_0 a1_1 true _ A6.out).mono ?_
              rintro e w10 ⟨rfl, hb⟩
              refine ⟨_, rfl, ?_⟩
              have n0_ := Aside0.mk (Kd.R_below (by (with_reducible repeat (first | apply Kd.R_alloc | apply Kd.R_drewN | apply Kd.R_drew)); exact HO_5.out) hb)
              have n1_ := Aside0.mk (blk_below (g := gb252) (o := .cells #[.string a1_0, .string a1_1] 24 (0, 0)) (by (with_reducible repeat (first | refine blk_drewN ?_ _ | refine blk_drew ?_ | refine blk_alloc ?_ _)); exact BK252.out) hb)
              have n2_ := Aside0.mk (below_step (by repeat (first | (with_reducible first | exact HB.out | apply below_alloc | apply pw_below_drewN | apply below_drew1 | refine below_set ?_ GE252.out) | exact HB.out)) hb)
              clear HO_5 BK252 HB
              have HO_5 := n0_
              have BK252 := n1_
              have HB := n2_
              clear n0_ n1_ n2_
              (try clear hb)
              (try clear hb2)
              (try clear hk)
              (try clear hi)
              refine hK.out _ _ ⟨(blk_cell BK252.out 0).trans rfl, (blk_cell BK252.out 1).trans rfl, ((HB.out.cell (World.block_lt_of_cell? w _ hw253_0)).trans hw253_0), ((HB.out.cell (World.block_lt_of_cell? w _ hw253_1)).trans hw253_1)⟩ (fun hHeld => ?_)
              clear hK K
              refine nz_ 19 ?_
              refine done_ (by kernel_rfl) ?_
              have p255 : 0 ≤ (x6_1 : Int) := of_decide_eq_true (by first | (with_reducible assumption) | assumption)
              have q255 : x6_1 < (l0.length : Int) := of_decide_eq_true (by first | (with_reducible assumption) | assumption)
              obtain ⟨ad255, e255, hx255_0, hx255_1⟩ := at_T24 HR0.out x6_1 p255 q255
              obtain rfl : ad253 = ad255 := (by injection e255)
              replace hx255_0 := (HB.out.cell (World.block_lt_of_cell? w _ hx255_0)).trans hx255_0
              replace hx255_1 := (HB.out.cell (World.block_lt_of_cell? w _ hx255_1)).trans hx255_1
              replace p255 := eq_true p255
              replace q255 := eq_true q255
              try go_wp2_with (first | ((with_reducible refine gate_builtin (b := .append) (xs := #[.tmp 20, .tmp 25]) rfl ?_); at_builtin; refine Kd.R_append k24 (w0 := w) w.heap.size rfl (.tmp 20) (.tmp 25) 22 24 (.agg #[(.string ⟨#[]⟩), (.string ⟨#[]⟩)]) 32 rfl Tryz.underlying22 info24 rfl (by decide) (by omega) u5 x5_1 (⟨(rd_T24 l0 x6_1).f0, (rd_T24 l0 x6_1).f1⟩ : S24) [.string ((rd_T24 l0 x6_1).f0), .string ((rd_T24 l0 x6_1).f1)] (fun k_ => k_ ≠ gb252) (fun _ => False) rfl rfl ?aP (fun _ hk => hk.elim) ?aF ?aO ?aB ?aS ?aL ?_; (case aP => exact k24_mkM _ _ _ (⟨(rd_T24 l0 x6_1).f0, (rd_T24 l0 x6_1).f1⟩ : S24)); (case aB => exact (by repeat (first | (with_reducible first | exact HB.out | apply below_alloc | apply pw_below_drewN | apply below_drew1 | refine below_set ?_ GE252.out) | exact HB.out))); (case aF => exact (fun k_ hk => Kd.freshB (g := gb252) (o := .cells #[.string a1_0, .string a1_1] 24 (0, 0)) (by (with_reducible repeat (first | refine blk_drewN ?_ _ | refine blk_drew ?_ | refine blk_alloc ?_ _)); exact BK252.out) k_ hk)); (case aO => exact (by (with_reducible repeat (first | apply Kd.R_alloc | apply Kd.R_drewN | apply Kd.R_drew)); exact HO_5.out)); (case aS => exact (below_size (by repeat (first | (with_reducible first | exact HB.out | apply below_alloc | apply pw_below_drewN | apply below_drew1 | refine below_set ?_ GE252.out) | exact HB.out)))); (case aL => have := LMc8.out; omega); intro v257 w11 ho hb hg hat; rw [← Ny256.out] at ho; have n0_ := Aside0.mk (blk_grown (g := gb252) (o := .cells #[.string a1_0, .string a1_1] 24 (0, 0)) (by (with_reducible repeat (first | refine blk_drewN ?_ _ | refine blk_drew ?_ | refine blk_alloc ?_ _)); exact BK252.out) hg (Kd.R_away HO_5.out (fun _ hk => hk))); have n1_ := Aside0.mk (hb); have n2_ := Aside0.mk (ho); clear BK252; clear HB; clear HO_5; have BK252 := n0_; have HB := n1_; have HO258 := n2_; clear n0_ n1_ n2_; clear ho hb hg hat))
              go_roundg k1
              case measure => have := HK1.out; omega
              case rel => exact ⟨(y256), (wrap64 (x6_1 + 1)), (by first | rfl | (simp; done) | (simp [*]; done)), H', ⟨by have := HK1.out; omega⟩, ⟨by (with_reducible repeat (first | apply Kd.R_alloc | apply Kd.R_drewN | apply Kd.R_drew)); exact HO258.out⟩, ⟨by (with_reducible repeat (first | refine blk_drewN ?_ _ | refine blk_drew ?_ | refine blk_alloc ?_ _)); exact BK252.out⟩, ⟨by repeat (first | (with_reducible first | exact HB.out | apply below_alloc | apply pw_below_drewN | apply below_drew1 | refine below_set ?_ GE252.out) | exact HB.out)⟩⟩
            · rw [if_neg c8] at H
              exact absurd H (by simp)
          · replace c7 := Bool.eq_false_iff.mpr c7
            subst c7
            have H1 : (graftwoodref05_With.l0 k1 l0 x5_1 (wrap64 (x6_1 + 1)) a1_0 a1_1) = some r := by rw [if_neg (show ¬ (false = true) by decide)] at H; exact H
            clear H
            have H := H1
            clear H1
            have H' := Aside0.mk H
            clear H
            try go_wp2
            have n0_ := Aside0.mk (Kd.R_drew HO_5.out)
            have n1_ := Aside0.mk (blk_drew BK252.out)
            have n2_ := Aside0.mk (below_drew1 HB.out)
            clear HO_5 BK252 HB
            have HO_5 := n0_
            have BK252 := n1_
            have HB := n2_
            clear n0_ n1_ n2_
            have p253 : 0 ≤ (x6_1 : Int) := of_decide_eq_true (by first | (with_reducible assumption) | assumption)
            have q253 : x6_1 < (l0.length : Int) := of_decide_eq_true (by first | (with_reducible assumption) | assumption)
            obtain ⟨ad253, e253, hx253_0, hx253_1⟩ := at_T24 HR0.out x6_1 p253 q253
            have hw253_1 := hx253_1
            have hw253_0 := hx253_0
            cases e253
            replace hx253_0 := (HB.out.cell (World.block_lt_of_cell? w _ hx253_0)).trans hx253_0
            replace hx253_1 := (HB.out.cell (World.block_lt_of_cell? w _ hx253_1)).trans hx253_1
            replace p253 := eq_true p253
            replace q253 := eq_true q253
            refine start_ (n := 6) (S := fun w' => w'.cell? ⟨gb252, 0, none⟩ = some (.string a1_0) ∧ w'.cell? ⟨gb252, 1, none⟩ = some (.string a1_1) ∧ w'.cell? (ad253.add ((x6_1).toNat * 2)) = some (.string ((rd_T24 l0 x6_1).f0)) ∧ w'.cell? ⟨(ad253.add ((x6_1).toNat * 2)).block, (ad253.add ((x6_1).toNat * 2)).off + 1, none⟩ = some (.string ((rd_T24 l0 x6_1).f1))) (ds := []) #[false, false, false, false, false, false] (by kernel_rfl) rfl rfl ⟨(blk_cell BK252.out 0).trans rfl, (blk_cell BK252.out 1).trans rfl, ((HB.out.cell (World.block_lt_of_cell? w _ hw253_0)).trans hw253_0), ((HB.out.cell (World.block_lt_of_cell? w _ hw253_1)).trans hw253_1)⟩ (fun hHeld => ?_)
            generalize wr.drew = w12 at HO_5 BK252 HB hx253_0 hx253_1 hHeld ⊢
            refine pure_ (i := 0) (N := some 14) (v := ?_) (a' := ?_) #[true, false, false, false, false, false] rfl rfl (by kernel_rfl) (fun _ _ _ h => h) (Or.inl ⟨by rfl, ?_⟩) ?_ ?_
            rotate_left
            · intro w'
              go_simp
              with_reducible rfl
            rotate_left
            · simp only [Act.put, List.setIfInBounds_toArray, List.set_cons_zero, List.set_cons_succ, i64_w, i32_w]
              rfl
            refine pure_ (i := 1) (N := some 15) (v := ?_) (a' := ?_) #[true, true, false, false, false, false] rfl rfl (by kernel_rfl) (fun _ _ _ h => h) (Or.inl ⟨by rfl, ?_⟩) ?_ ?_
            rotate_left
            · intro w'
              go_simp
              with_reducible rfl
            rotate_left
            · simp only [Act.put, List.setIfInBounds_toArray, List.set_cons_zero, List.set_cons_succ, i64_w, i32_w]
              rfl
            refine pure_ (i := 2) (N := some 16) (v := ?_) (a' := ?_) #[true, true, true, false, false, false] rfl rfl (by kernel_rfl) (fun _ _ _ h => h) (Or.inl ⟨by rfl, ?_⟩) ?_ ?_
            rotate_left
            · intro w'
              go_simp
              with_reducible rfl
            rotate_left
            · simp only [Act.put, List.setIfInBounds_toArray, List.set_cons_zero, List.set_cons_succ, i64_w, i32_w]
              rfl
            refine take_ (i := 3) (N := some 17) (v := ?_) (a' := ?_) #[true, true, true, true, false, false] rfl rfl (by kernel_rfl) (fun _ _ _ h => h) (Or.inl ⟨by rfl, ?_⟩) hHeld ?_ ?_
            rotate_left
            · rintro w' ⟨s0, s1, s2, s3⟩
              go_simp
              with_reducible rfl
            rotate_left
            · simp only [Act.put, List.setIfInBounds_toArray, List.set_cons_zero, List.set_cons_succ, i64_w, i32_w]
              rfl
            refine take_ (i := 4) (N := some 18) (v := ?_) (a' := ?_) #[true, true, true, true, true, false] rfl rfl (by kernel_rfl) (fun _ _ _ h => h) (Or.inl ⟨by rfl, ?_⟩) hHeld ?_ ?_
            rotate_left
            · rintro w' ⟨s0, s1, s2, s3⟩
              go_simp
              with_reducible rfl
            rotate_left
            · simp only [Act.put, List.setIfInBounds_toArray, List.set_cons_zero, List.set_cons_succ, i64_w, i32_w]
              rfl
            refine one_ (i := 5) (N := some 19) #[true, true, true, true, true, true] rfl rfl (by kernel_rfl) (by decide) (fun K hK => ?_)
            refine goes_ Tryz.func32 (by kernel_rfl) rfl #[.agg #[.string ((rd_T24 l0 x6_1).f0), .string ((rd_T24 l0 x6_1).f1)], .agg #[.string a1_0, .string a1_1]] (by rfl) rfl rfl (by (try simp only [List.map_toArray, List.map_cons, List.map_nil]); first | done | rfl | (simp only [List.length_drop, List.length_take]; rfl)) ?_
            with_reducible refine (graftwoodref05_Less.calls k1 ((rd_T24 l0 x6_1).f0) ((rd_T24 l0 x6_1).f1) a1_0 a1_1 false _ A6.out).mono ?_
            rintro e w13 ⟨rfl, hb⟩
            refine ⟨_, rfl, ?_⟩
            have n0_ := Aside0.mk (Kd.R_below (by (with_reducible repeat (first | apply Kd.R_alloc | apply Kd.R_drewN | apply Kd.R_drew)); exact HO_5.out) hb)
            have n1_ := Aside0.mk (blk_below (g := gb252) (o := .cells #[.string a1_0, .string a1_1] 24 (0, 0)) (by (with_reducible repeat (first | refine blk_drewN ?_ _ | refine blk_drew ?_ | refine blk_alloc ?_ _)); exact BK252.out) hb)
            have n2_ := Aside0.mk (below_step (by repeat (first | (with_reducible first | exact HB.out | apply below_alloc | apply pw_below_drewN | apply below_drew1 | refine below_set ?_ GE252.out) | exact HB.out)) hb)
            clear HO_5 BK252 HB
            have HO_5 := n0_
            have BK252 := n1_
            have HB := n2_
            clear n0_ n1_ n2_
            (try clear hb)
            (try clear hb2)
            (try clear hk)
            (try clear hi)
            refine hK.out _ _ ⟨(blk_cell BK252.out 0).trans rfl, (blk_cell BK252.out 1).trans rfl, ((HB.out.cell (World.block_lt_of_cell? w _ hw253_0)).trans hw253_0), ((HB.out.cell (World.block_lt_of_cell? w _ hw253_1)).trans hw253_1)⟩ (fun hHeld => ?_)
            clear hK K
            refine nz_ 19 ?_
            refine done_ (by kernel_rfl) ?_
            try go_wp2
            go_roundg k1
            case measure => have := HK1.out; omega
            case rel => exact ⟨(x5_1), (wrap64 (x6_1 + 1)), (by first | rfl | (simp; done) | (simp [*]; done)), H', ⟨by have := HK1.out; omega⟩, ⟨by (with_reducible repeat (first | apply Kd.R_alloc | apply Kd.R_drewN | apply Kd.R_drew)); exact HO_5.out⟩, ⟨by (with_reducible repeat (first | refine blk_drewN ?_ _ | refine blk_drew ?_ | refine blk_alloc ?_ _)); exact BK252.out⟩, ⟨by repeat (first | (with_reducible first | exact HB.out | apply below_alloc | apply pw_below_drewN | apply below_drew1 | refine below_set ?_ GE252.out) | exact HB.out)⟩⟩
        · rw [if_neg c5] at H
          exact absurd H (by simp)
      · rw [if_neg c4] at H
        have c4b0 : decide (x6_1 < (l0.length : Int)) = false := decide_eq_false c4
        clear c4
        by_cases c14 : x5_1.length < 4398046511104
        · rw [if_pos c14] at H
          have LMc14 := Aside0.mk c14
          clear c14
          obtain ⟨y259, hy259⟩ : ∃ y_ : List (S24), y_ = (x5_1 ++ [(⟨a1_0, a1_1⟩ : S24)]) := ⟨_, rfl⟩
          replace H : (graftwoodref05_With.l1 k1 l0 y259 0 a1_0 a1_1) = some r := by first | (rw [hy259]; with_reducible exact H) | (have H2_ := (Option.bind_some _ _).symm.trans H; rw [hy259]; with_reducible exact H2_) | (have H2_ := (Option.bind_some _ _).symm.trans H; with_reducible exact H2_) | with_reducible exact H | (rw [hy259]; exact H) | exact H
          have Ny259 := Aside0.mk hy259
          clear hy259
          have H' := Aside0.mk H
          clear H
          have hcz15_0 : wr.cell? ⟨gb252, 0, none⟩ = some (.string a1_0) := (blk_cell BK252.out 0).trans rfl
          have hcz15_1 : wr.cell? ⟨gb252, 1, none⟩ = some (.string a1_1) := (blk_cell BK252.out 1).trans rfl
          have hfz15_0 := blk_frozen BK252.out 0
          have hfz15_1 := blk_frozen BK252.out 1
          go_wp2_with (first | ((with_reducible refine gate_builtin (b := .append) (xs := #[.tmp 27, .tmp 29]) rfl ?_); at_builtin; refine Kd.R_append k24 (w0 := w) w.heap.size rfl (.tmp 27) (.tmp 29) 22 24 (.agg #[(.string ⟨#[]⟩), (.string ⟨#[]⟩)]) 32 rfl Tryz.underlying22 info24 rfl (by decide) (by omega) u5 x5_1 (⟨a1_0, a1_1⟩ : S24) [.string a1_0, .string a1_1] (fun k_ => k_ ≠ gb252) (fun _ => False) rfl rfl ?aP (fun _ hk => hk.elim) ?aF ?aO ?aB ?aS ?aL ?_; (case aP => exact k24_mkM _ _ _ (⟨a1_0, a1_1⟩ : S24)); (case aB => exact (by repeat (first | (with_reducible first | exact HB.out | apply below_alloc | apply pw_below_drewN | apply below_drew1 | refine below_set ?_ GE252.out) | exact HB.out))); (case aF => exact (fun k_ hk => Kd.freshB (g := gb252) (o := .cells #[.string a1_0, .string a1_1] 24 (0, 0)) (by (with_reducible repeat (first | refine blk_drewN ?_ _ | refine blk_drew ?_ | refine blk_alloc ?_ _)); exact BK252.out) k_ hk)); (case aO => exact (by (with_reducible repeat (first | apply Kd.R_alloc | apply Kd.R_drewN | apply Kd.R_drew)); exact HO_5.out)); (case aS => exact (below_size (by repeat (first | (with_reducible first | exact HB.out | apply below_alloc | apply pw_below_drewN | apply below_drew1 | refine below_set ?_ GE252.out) | exact HB.out)))); (case aL => have := LMc14.out; omega); intro v260 w16 ho hb hg hat; rw [← Ny259.out] at ho; have n0_ := Aside0.mk (blk_grown (g := gb252) (o := .cells #[.string a1_0, .string a1_1] 24 (0, 0)) (by (with_reducible repeat (first | refine blk_drewN ?_ _ | refine blk_drew ?_ | refine blk_alloc ?_ _)); exact BK252.out) hg (Kd.R_away HO_5.out (fun _ hk => hk))); have n1_ := Aside0.mk (hb); have n2_ := Aside0.mk (ho); clear BK252; clear HB; clear HO_5; have BK252 := n0_; have HB := n1_; have HO261 := n2_; clear n0_ n1_ n2_; clear ho hb hg hat))
          go_loopg [5, 7] k1 (fun kq v5 v7 w' => ∃ (x5_2 : List (S24)) (x7_2 : Int), v7 = .int .i64 x7_2 ∧ Aside0 (graftwoodref05_With.l1 kq l0 x5_2 x7_2 a1_0 a1_1 = some r) ∧ Aside0 (kq ≤ k1) ∧ Aside0 (Kd.R k24 24 w' w.heap.size (fun k_ => k_ ≠ gb252) v5 x5_2) ∧ Aside0 (w'.heap[gb252]? = some (.cells #[.string a1_0, .string a1_1] 24 (0, 0))) ∧ Aside0 (Below w.heap.size w w'))
          case atStart => exact ⟨(y259), (0), (by first | rfl | (simp; done) | (simp [*]; done)), H', ⟨Nat.le_refl _⟩, ⟨by (with_reducible repeat (first | apply Kd.R_alloc | apply Kd.R_drewN | apply Kd.R_drew)); exact HO261.out⟩, ⟨by (with_reducible repeat (first | refine blk_drewN ?_ _ | refine blk_drew ?_ | refine blk_alloc ?_ _)); exact BK252.out⟩, ⟨by repeat (first | (with_reducible first | exact HB.out | apply below_alloc | apply pw_below_drewN | apply below_drew1 | refine below_set ?_ GE252.out) | exact HB.out)⟩⟩
          case round =>
            clear H'
            try clear c1
            try clear p2
            try clear q2
            try clear hx2
            try clear c3
            try clear c4
            try clear c4b0
            try clear c5
            try clear c5b0
            try clear p6
            try clear c7
            try clear c8
            try clear c14
            try clear hcz15_0
            try clear hcz15_1
            try clear hfz15_0
            try clear hfz15_1
            try clear hx253_0
            try clear hx253_1
            try clear hx255_0
            try clear hx255_1
            try clear p2
            try clear p253
            try clear p255
            try clear q253
            try clear q255
            obtain ⟨x5_2, x7_2, rfl, HA, HK2, HO_5, BK252, HB⟩ := hrel
            cases gk with
            | zero => exact absurd HA.out (by simp [graftwoodref05_With.l1])
            | succ k2 =>
              have H := HA.out
              clear HA
              simp only [graftwoodref05_With.l1] at H
              by_cases c17 : x7_2 < (l0.length : Int)
              · rw [if_pos c17] at H
                have c17b0 : decide (x7_2 < (l0.length : Int)) = true := decide_eq_true c17
                clear c17
                by_cases c18 : 0 ≤ x7_2
                · rw [if_pos c18] at H
                  have c18b0 : decide (0 ≤ x7_2) = true := decide_eq_true c18
                  clear c18
                  replace H := Option.bind_eq_some_iff.mp H
                  obtain ⟨t263, A190, H⟩ := H
                  replace H : (if t263 = true then (if x5_2.length < 4398046511104 then (graftwoodref05_With.l1 k2 l0 (x5_2 ++ [(⟨(rd_T24 l0 x7_2).f0, (rd_T24 l0 x7_2).f1⟩ : S24)]) (wrap64 (x7_2 + 1)) a1_0 a1_1) else (none)) else (graftwoodref05_With.l1 k2 l0 x5_2 (wrap64 (x7_2 + 1)) a1_0 a1_1)) = some r := H
                  have A19 := Aside0.mk A190
                  clear A190
                  by_cases c20 : t263 = true
                  · subst c20
                    have H1 : (if x5_2.length < 4398046511104 then (graftwoodref05_With.l1 k2 l0 (x5_2 ++ [(⟨(rd_T24 l0 x7_2).f0, (rd_T24 l0 x7_2).f1⟩ : S24)]) (wrap64 (x7_2 + 1)) a1_0 a1_1) else (none)) = some r := by rw [if_pos rfl] at H; exact H
                    clear H
                    have H := H1
                    clear H1
                    by_cases c21 : x5_2.length < 4398046511104
                    · rw [if_pos c21] at H
                      have LMc21 := Aside0.mk c21
                      clear c21
                      obtain ⟨y265, hy265⟩ : ∃ y_ : List (S24), y_ = (x5_2 ++ [(⟨(rd_T24 l0 x7_2).f0, (rd_T24 l0 x7_2).f1⟩ : S24)]) := ⟨_, rfl⟩
                      replace H : (graftwoodref05_With.l1 k2 l0 y265 (wrap64 (x7_2 + 1)) a1_0 a1_1) = some r := by first | (rw [hy265]; with_reducible exact H) | (have H2_ := (Option.bind_some _ _).symm.trans H; rw [hy265]; with_reducible exact H2_) | (have H2_ := (Option.bind_some _ _).symm.trans H; with_reducible exact H2_) | with_reducible exact H | (rw [hy265]; exact H) | exact H
                      have Ny265 := Aside0.mk hy265
                      clear hy265
                      have H' := Aside0.mk H
                      clear H
                      try go_wp2
                      have n0_ := Aside0.mk (Kd.R_drew HO_5.out)
                      have n1_ := Aside0.mk (blk_drew BK252.out)
                      have n2_ := Aside0.mk (below_drew1 HB.out)
                      clear HO_5 BK252 HB
                      have HO_5 := n0_
                      have BK252 := n1_
                      have HB := n2_
                      clear n0_ n1_ n2_
                      have p262 : 0 ≤ (x7_2 : Int) := of_decide_eq_true (by first | (with_reducible assumption) | assumption)
                      have q262 : x7_2 < (l0.length : Int) := of_decide_eq_true (by first | (with_reducible assumption) | assumption)
                      obtain ⟨ad262, e262, hx262_0, hx262_1⟩ := at_T24 HR0.out x7_2 p262 q262
                      have hw262_1 := hx262_1
                      have hw262_0 := hx262_0
                      cases e262
                      replace hx262_0 := (HB.out.cell (World.block_lt_of_cell? w _ hx262_0)).trans hx262_0
                      replace hx262_1 := (HB.out.cell (World.block_lt_of_cell? w _ hx262_1)).trans hx262_1
                      replace p262 := eq_true p262
                      replace q262 := eq_true q262
                      refine start_ (n := 6) (S := fun w' => w'.cell? ⟨gb252, 0, none⟩ = some (.string a1_0) ∧ w'.cell? ⟨gb252, 1, none⟩ = some (.string a1_1) ∧ w'.cell? (ad262.add ((x7_2).toNat * 2)) = some (.string ((rd_T24 l0 x7_2).f0)) ∧ w'.cell? ⟨(ad262.add ((x7_2).toNat * 2)).block, (ad262.add ((x7_2).toNat * 2)).off + 1, none⟩ = some (.string ((rd_T24 l0 x7_2).f1))) (ds := []) #[false, false, false, false, false, false] (by kernel_rfl) rfl rfl ⟨(blk_cell BK252.out 0).trans rfl, (blk_cell BK252.out 1).trans rfl, ((HB.out.cell (World.block_lt_of_cell? w _ hw262_0)).trans hw262_0), ((HB.out.cell (World.block_lt_of_cell? w _ hw262_1)).trans hw262_1)⟩ (fun hHeld => ?_)
                      generalize wr.drew = w22 at HO_5 BK252 HB hx262_0 hx262_1 hHeld ⊢
                      refine pure_ (i := 1) (N := some 38) (v := ?_) (a' := ?_) #[false, true, false, false, false, false] rfl rfl (by kernel_rfl) (fun _ _ _ h => h) (Or.inl ⟨by rfl, ?_⟩) ?_ ?_
                      rotate_left
                      · intro w'
                        go_simp
                        with_reducible rfl
                      rotate_left
                      · simp only [Act.put, List.setIfInBounds_toArray, List.set_cons_zero, List.set_cons_succ, i64_w, i32_w]
                        rfl
                      refine pure_ (i := 2) (N := some 39) (v := ?_) (a' := ?_) #[false, true, true, false, false, false] rfl rfl (by kernel_rfl) (fun _ _ _ h => h) (Or.inl ⟨by rfl, ?_⟩) ?_ ?_
                      rotate_left
                      · intro w'
                        go_simp
                        with_reducible rfl
                      rotate_left
                      · simp only [Act.put, List.setIfInBounds_toArray, List.set_cons_zero, List.set_cons_succ, i64_w, i32_w]
                        rfl
                      refine pure_ (i := 3) (N := some 40) (v := ?_) (a' := ?_) #[false, true, true, true, false, false] rfl rfl (by kernel_rfl) (fun _ _ _ h => h) (Or.inl ⟨by rfl, ?_⟩) ?_ ?_
                      rotate_left
                      · intro w'
                        go_simp
                        with_reducible rfl
                      rotate_left
                      · simp only [Act.put, List.setIfInBounds_toArray, List.set_cons_zero, List.set_cons_succ, i64_w, i32_w]
                        rfl
                      refine take_ (i := 0) (N := some 37) (v := ?_) (a' := ?_) #[true, true, true, true, false, false] rfl rfl (by kernel_rfl) (fun _ _ _ h => h) (Or.inl ⟨by rfl, ?_⟩) hHeld ?_ ?_
                      rotate_left
                      · rintro w' ⟨s0, s1, s2, s3⟩
                        go_simp
                        with_reducible rfl
                      rotate_left
                      · simp only [Act.put, List.setIfInBounds_toArray, List.set_cons_zero, List.set_cons_succ, i64_w, i32_w]
                        rfl
                      refine take_ (i := 4) (N := some 41) (v := ?_) (a' := ?_) #[true, true, true, true, true, false] rfl rfl (by kernel_rfl) (fun _ _ _ h => h) (Or.inl ⟨by rfl, ?_⟩) hHeld ?_ ?_
                      rotate_left
                      · rintro w' ⟨s0, s1, s2, s3⟩
                        go_simp
                        with_reducible rfl
                      rotate_left
                      · simp only [Act.put, List.setIfInBounds_toArray, List.set_cons_zero, List.set_cons_succ, i64_w, i32_w]
                        rfl
                      refine one_ (i := 5) (N := some 42) #[true, true, true, true, true, true] rfl rfl (by kernel_rfl) (by decide) (fun K hK => ?_)
                      refine goes_ Tryz.func32 (by kernel_rfl) rfl #[.agg #[.string a1_0, .string a1_1], .agg #[.string ((rd_T24 l0 x7_2).f0), .string ((rd_T24 l0 x7_2).f1)]] (by rfl) rfl rfl (by (try simp only [List.map_toArray, List.map_cons, List.map_nil]); first | done | rfl | (simp only [List.length_drop, List.length_take]; rfl)) ?_
                      with_reducible refine (graftwoodref05_Less.calls k2 a1_0 a1_1 ((rd_T24 l0 x7_2).f0) ((rd_T24 l0 x7_2).f1) true _ A19.out).mono ?_
                      rintro e w23 ⟨rfl, hb⟩
                      refine ⟨_, rfl, ?_⟩
                      have n0_ := Aside0.mk (Kd.R_below (by (with_reducible repeat (first | apply Kd.R_alloc | apply Kd.R_drewN | apply Kd.R_drew)); exact HO_5.out) hb)
                      have n1_ := Aside0.mk (blk_below (g := gb252) (o := .cells #[.string a1_0, .string a1_1] 24 (0, 0)) (by (with_reducible repeat (first | refine blk_drewN ?_ _ | refine blk_drew ?_ | refine blk_alloc ?_ _)); exact BK252.out) hb)
                      have n2_ := Aside0.mk (below_step (by repeat (first | (with_reducible first | exact HB.out | apply below_alloc | apply pw_below_drewN | apply below_drew1 | refine below_set ?_ GE252.out) | exact HB.out)) hb)
                      clear HO_5 BK252 HB
                      have HO_5 := n0_
                      have BK252 := n1_
                      have HB := n2_
                      clear n0_ n1_ n2_
                      (try clear hb)
                      (try clear hb2)
                      (try clear hk)
                      (try clear hi)
                      refine hK.out _ _ ⟨(blk_cell BK252.out 0).trans rfl, (blk_cell BK252.out 1).trans rfl, ((HB.out.cell (World.block_lt_of_cell? w _ hw262_0)).trans hw262_0), ((HB.out.cell (World.block_lt_of_cell? w _ hw262_1)).trans hw262_1)⟩ (fun hHeld => ?_)
                      clear hK K
                      refine nz_ 42 ?_
                      refine done_ (by kernel_rfl) ?_
                      have p264 : 0 ≤ (x7_2 : Int) := of_decide_eq_true (by first | (with_reducible assumption) | assumption)
                      have q264 : x7_2 < (l0.length : Int) := of_decide_eq_true (by first | (with_reducible assumption) | assumption)
                      obtain ⟨ad264, e264, hx264_0, hx264_1⟩ := at_T24 HR0.out x7_2 p264 q264
                      obtain rfl : ad262 = ad264 := (by injection e264)
                      replace hx264_0 := (HB.out.cell (World.block_lt_of_cell? w _ hx264_0)).trans hx264_0
                      replace hx264_1 := (HB.out.cell (World.block_lt_of_cell? w _ hx264_1)).trans hx264_1
                      replace p264 := eq_true p264
                      replace q264 := eq_true q264
                      try go_wp2_with (first | ((with_reducible refine gate_builtin (b := .append) (xs := #[.tmp 43, .tmp 48]) rfl ?_); at_builtin; refine Kd.R_append k24 (w0 := w) w.heap.size rfl (.tmp 43) (.tmp 48) 22 24 (.agg #[(.string ⟨#[]⟩), (.string ⟨#[]⟩)]) 32 rfl Tryz.underlying22 info24 rfl (by decide) (by omega) u5 x5_2 (⟨(rd_T24 l0 x7_2).f0, (rd_T24 l0 x7_2).f1⟩ : S24) [.string ((rd_T24 l0 x7_2).f0), .string ((rd_T24 l0 x7_2).f1)] (fun k_ => k_ ≠ gb252) (fun _ => False) rfl rfl ?aP (fun _ hk => hk.elim) ?aF ?aO ?aB ?aS ?aL ?_; (case aP => exact k24_mkM _ _ _ (⟨(rd_T24 l0 x7_2).f0, (rd_T24 l0 x7_2).f1⟩ : S24)); (case aB => exact (by repeat (first | (with_reducible first | exact HB.out | apply below_alloc | apply pw_below_drewN | apply below_drew1 | refine below_set ?_ GE252.out) | exact HB.out))); (case aF => exact (fun k_ hk => Kd.freshB (g := gb252) (o := .cells #[.string a1_0, .string a1_1] 24 (0, 0)) (by (with_reducible repeat (first | refine blk_drewN ?_ _ | refine blk_drew ?_ | refine blk_alloc ?_ _)); exact BK252.out) k_ hk)); (case aO => exact (by (with_reducible repeat (first | apply Kd.R_alloc | apply Kd.R_drewN | apply Kd.R_drew)); exact HO_5.out)); (case aS => exact (below_size (by repeat (first | (with_reducible first | exact HB.out | apply below_alloc | apply pw_below_drewN | apply below_drew1 | refine below_set ?_ GE252.out) | exact HB.out)))); (case aL => have := LMc21.out; omega); intro v266 w24 ho hb hg hat; rw [← Ny265.out] at ho; have n0_ := Aside0.mk (blk_grown (g := gb252) (o := .cells #[.string a1_0, .string a1_1] 24 (0, 0)) (by (with_reducible repeat (first | refine blk_drewN ?_ _ | refine blk_drew ?_ | refine blk_alloc ?_ _)); exact BK252.out) hg (Kd.R_away HO_5.out (fun _ hk => hk))); have n1_ := Aside0.mk (hb); have n2_ := Aside0.mk (ho); clear BK252; clear HB; clear HO_5; have BK252 := n0_; have HB := n1_; have HO267 := n2_; clear n0_ n1_ n2_; clear ho hb hg hat))
                      go_roundg k2
                      case measure => have := HK1.out; have := HK2.out; omega
                      case rel => exact ⟨(y265), (wrap64 (x7_2 + 1)), (by first | rfl | (simp; done) | (simp [*]; done)), H', ⟨by have := HK1.out; have := HK2.out; omega⟩, ⟨by (with_reducible repeat (first | apply Kd.R_alloc | apply Kd.R_drewN | apply Kd.R_drew)); exact HO267.out⟩, ⟨by (with_reducible repeat (first | refine blk_drewN ?_ _ | refine blk_drew ?_ | refine blk_alloc ?_ _)); exact BK252.out⟩, ⟨by repeat (first | (with_reducible first | exact HB.out | apply below_alloc | apply pw_below_drewN | apply below_drew1 | refine below_set ?_ GE252.out) | exact HB.out)⟩⟩
                    · rw [if_neg c21] at H
                      exact absurd H (by simp)
                  · replace c20 := Bool.eq_false_iff.mpr c20
                    subst c20
                    have H1 : (graftwoodref05_With.l1 k2 l0 x5_2 (wrap64 (x7_2 + 1)) a1_0 a1_1) = some r := by rw [if_neg (show ¬ (false = true) by decide)] at H; exact H
                    clear H
                    have H := H1
                    clear H1
                    have H' := Aside0.mk H
                    clear H
                    try go_wp2
                    have n0_ := Aside0.mk (Kd.R_drew HO_5.out)
                    have n1_ := Aside0.mk (blk_drew BK252.out)
                    have n2_ := Aside0.mk (below_drew1 HB.out)
                    clear HO_5 BK252 HB
                    have HO_5 := n0_
                    have BK252 := n1_
                    have HB := n2_
                    clear n0_ n1_ n2_
                    have p262 : 0 ≤ (x7_2 : Int) := of_decide_eq_true (by first | (with_reducible assumption) | assumption)
                    have q262 : x7_2 < (l0.length : Int) := of_decide_eq_true (by first | (with_reducible assumption) | assumption)
                    obtain ⟨ad262, e262, hx262_0, hx262_1⟩ := at_T24 HR0.out x7_2 p262 q262
                    have hw262_1 := hx262_1
                    have hw262_0 := hx262_0
                    cases e262
                    replace hx262_0 := (HB.out.cell (World.block_lt_of_cell? w _ hx262_0)).trans hx262_0
                    replace hx262_1 := (HB.out.cell (World.block_lt_of_cell? w _ hx262_1)).trans hx262_1
                    replace p262 := eq_true p262
                    replace q262 := eq_true q262
                    refine start_ (n := 6) (S := fun w' => w'.cell? ⟨gb252, 0, none⟩ = some (.string a1_0) ∧ w'.cell? ⟨gb252, 1, none⟩ = some (.string a1_1) ∧ w'.cell? (ad262.add ((x7_2).toNat * 2)) = some (.string ((rd_T24 l0 x7_2).f0)) ∧ w'.cell? ⟨(ad262.add ((x7_2).toNat * 2)).block, (ad262.add ((x7_2).toNat * 2)).off + 1, none⟩ = some (.string ((rd_T24 l0 x7_2).f1))) (ds := []) #[false, false, false, false, false, false] (by kernel_rfl) rfl rfl ⟨(blk_cell BK252.out 0).trans rfl, (blk_cell BK252.out 1).trans rfl, ((HB.out.cell (World.block_lt_of_cell? w _ hw262_0)).trans hw262_0), ((HB.out.cell (World.block_lt_of_cell? w _ hw262_1)).trans hw262_1)⟩ (fun hHeld => ?_)
                    generalize wr.drew = w25 at HO_5 BK252 HB hx262_0 hx262_1 hHeld ⊢
                    refine pure_ (i := 1) (N := some 38) (v := ?_) (a' := ?_) #[false, true, false, false, false, false] rfl rfl (by kernel_rfl) (fun _ _ _ h => h) (Or.inl ⟨by rfl, ?_⟩) ?_ ?_
                    rotate_left
                    · intro w'
                      go_simp
                      with_reducible rfl
                    rotate_left
                    · simp only [Act.put, List.setIfInBounds_toArray, List.set_cons_zero, List.set_cons_succ, i64_w, i32_w]
                      rfl
                    refine pure_ (i := 2) (N := some 39) (v := ?_) (a' := ?_) #[false, true, true, false, false, false] rfl rfl (by kernel_rfl) (fun _ _ _ h => h) (Or.inl ⟨by rfl, ?_⟩) ?_ ?_
                    rotate_left
                    · intro w'
                      go_simp
                      with_reducible rfl
                    rotate_left
                    · simp only [Act.put, List.setIfInBounds_toArray, List.set_cons_zero, List.set_cons_succ, i64_w, i32_w]
                      rfl
                    refine pure_ (i := 3) (N := some 40) (v := ?_) (a' := ?_) #[false, true, true, true, false, false] rfl rfl (by kernel_rfl) (fun _ _ _ h => h) (Or.inl ⟨by rfl, ?_⟩) ?_ ?_
                    rotate_left
                    · intro w'
                      go_simp
                      with_reducible rfl
                    rotate_left
                    · simp only [Act.put, List.setIfInBounds_toArray, List.set_cons_zero, List.set_cons_succ, i64_w, i32_w]
                      rfl
                    refine take_ (i := 0) (N := some 37) (v := ?_) (a' := ?_) #[true, true, true, true, false, false] rfl rfl (by kernel_rfl) (fun _ _ _ h => h) (Or.inl ⟨by rfl, ?_⟩) hHeld ?_ ?_
                    rotate_left
                    · rintro w' ⟨s0, s1, s2, s3⟩
                      go_simp
                      with_reducible rfl
                    rotate_left
                    · simp only [Act.put, List.setIfInBounds_toArray, List.set_cons_zero, List.set_cons_succ, i64_w, i32_w]
                      rfl
                    refine take_ (i := 4) (N := some 41) (v := ?_) (a' := ?_) #[true, true, true, true, true, false] rfl rfl (by kernel_rfl) (fun _ _ _ h => h) (Or.inl ⟨by rfl, ?_⟩) hHeld ?_ ?_
                    rotate_left
                    · rintro w' ⟨s0, s1, s2, s3⟩
                      go_simp
                      with_reducible rfl
                    rotate_left
                    · simp only [Act.put, List.setIfInBounds_toArray, List.set_cons_zero, List.set_cons_succ, i64_w, i32_w]
                      rfl
                    refine one_ (i := 5) (N := some 42) #[true, true, true, true, true, true] rfl rfl (by kernel_rfl) (by decide) (fun K hK => ?_)
                    refine goes_ Tryz.func32 (by kernel_rfl) rfl #[.agg #[.string a1_0, .string a1_1], .agg #[.string ((rd_T24 l0 x7_2).f0), .string ((rd_T24 l0 x7_2).f1)]] (by rfl) rfl rfl (by (try simp only [List.map_toArray, List.map_cons, List.map_nil]); first | done | rfl | (simp only [List.length_drop, List.length_take]; rfl)) ?_
                    with_reducible refine (graftwoodref05_Less.calls k2 a1_0 a1_1 ((rd_T24 l0 x7_2).f0) ((rd_T24 l0 x7_2).f1) false _ A19.out).mono ?_
                    rintro e w26 ⟨rfl, hb⟩
                    refine ⟨_, rfl, ?_⟩
                    have n0_ := Aside0.mk (Kd.R_below (by (with_reducible repeat (first | apply Kd.R_alloc | apply Kd.R_drewN | apply Kd.R_drew)); exact HO_5.out) hb)
                    have n1_ := Aside0.mk (blk_below (g := gb252) (o := .cells #[.string a1_0, .string a1_1] 24 (0, 0)) (by (with_reducible repeat (first | refine blk_drewN ?_ _ | refine blk_drew ?_ | refine blk_alloc ?_ _)); exact BK252.out) hb)
                    have n2_ := Aside0.mk (below_step (by repeat (first | (with_reducible first | exact HB.out | apply below_alloc | apply pw_below_drewN | apply below_drew1 | refine below_set ?_ GE252.out) | exact HB.out)) hb)
                    clear HO_5 BK252 HB
                    have HO_5 := n0_
                    have BK252 := n1_
                    have HB := n2_
                    clear n0_ n1_ n2_
                    (try clear hb)
                    (try clear hb2)
                    (try clear hk)
                    (try clear hi)
                    refine hK.out _ _ ⟨(blk_cell BK252.out 0).trans rfl, (blk_cell BK252.out 1).trans rfl, ((HB.out.cell (World.block_lt_of_cell? w _ hw262_0)).trans hw262_0), ((HB.out.cell (World.block_lt_of_cell? w _ hw262_1)).trans hw262_1)⟩ (fun hHeld => ?_)
                    clear hK K
                    refine nz_ 42 ?_
                    refine done_ (by kernel_rfl) ?_
                    try go_wp2
                    go_roundg k2
                    case measure => have := HK1.out; have := HK2.out; omega
                    case rel => exact ⟨(x5_2), (wrap64 (x7_2 + 1)), (by first | rfl | (simp; done) | (simp [*]; done)), H', ⟨by have := HK1.out; have := HK2.out; omega⟩, ⟨by (with_reducible repeat (first | apply Kd.R_alloc | apply Kd.R_drewN | apply Kd.R_drew)); exact HO_5.out⟩, ⟨by (with_reducible repeat (first | refine blk_drewN ?_ _ | refine blk_drew ?_ | refine blk_alloc ?_ _)); exact BK252.out⟩, ⟨by repeat (first | (with_reducible first | exact HB.out | apply below_alloc | apply pw_below_drewN | apply below_drew1 | refine below_set ?_ GE252.out) | exact HB.out)⟩⟩
                · rw [if_neg c18] at H
                  exact absurd H (by simp)
              · rw [if_neg c17] at H
                have c17b0 : decide (x7_2 < (l0.length : Int)) = false := decide_eq_false c17
                clear c17
                obtain rfl := Option.some.inj H
                go_wp2
                go_ret
                exact ⟨_, by first | rfl | (simp [errW_none, errW_some] <;> rfl) | (simp [*, errW_none, errW_some] <;> rfl), by (with_reducible repeat (first | apply Kd.R_alloc | apply Kd.R_drewN | apply Kd.R_drew)); exact Kd.R_mono HO_5.out (fun _ hk => trivial), by repeat (first | (with_reducible first | exact HB.out | apply below_alloc | apply pw_below_drewN | apply below_drew1 | refine below_set ?_ GE252.out) | exact HB.out)⟩
        · rw [if_neg c14] at H
          exact absurd H (by simp)
/-! ### graftwoodref05_Set: function 27 -/
def graftwoodref05_Set.l0 : Nat → List (S24) → List (S24) → Int → Option ((List (S24)))
  | 0, _, _, _ => none
  | k + 1, x0, x3, x4 => if x4 < (x0.length : Int) then (if 0 ≤ x4 then ((graftwoodref05_With.f k x3 ((rd_T24 x0 x4).f0) ((rd_T24 x0 x4).f1)).bind fun t269 => (graftwoodref05_Set.l0 k x0 t269 (wrap64 (x4 + 1)))) else (none)) else (some x3)
def graftwoodref05_Set.f (k : Nat) (l0 : List (S24)) : Option ((List (S24))) := graftwoodref05_Set.l0 k l0 ([] : List (S24)) 0
set_option maxHeartbeats 8000000 in
set_option maxRecDepth 100000 in
theorem graftwoodref05_Set.calls (k : Nat) (A0 : Option Addr) (c0 : Nat) (l0 : List (S24)) (r : List (S24)) (w : World) (hr0 : Kd.C k24 w A0 l0.length l0) (hc0 : l0.length ≤ c0) (h : graftwoodref05_Set.f k l0 = some r) :
    Calls Tryz.prog 27 #[.slice A0 l0.length c0] w fun e w' => ∃ v0_ : Value, e = .returned (v0_) ∧ Kd.R k24 24 w' w.heap.size (fun _ => True) v0_ r ∧ Below w.heap.size w w' := by
  have hu24 := Tryz.underlying24
  have HR0 := Aside0.mk hr0
  have HC0 := Aside0.mk hc0
  clear hr0 hc0
  have HB := Aside0.mk (Below.refl w.heap.size w)
  have H : (graftwoodref05_Set.l0 k l0 ([] : List (S24)) 0) = some r := h
  clear h
  have H' := Aside0.mk H
  clear H
  go_enter Tryz.func27, Tryz.ntmps27
  go_wp2
  go_loopg [3, 4] k (fun kq v3 v4 w' => ∃ (x3_1 : List (S24)) (x4_1 : Int), v4 = .int .i64 x4_1 ∧ Aside0 (graftwoodref05_Set.l0 kq l0 x3_1 x4_1 = some r) ∧ Aside0 (kq ≤ k) ∧ Aside0 (Kd.R k24 24 w' w.heap.size (fun _ => True) v3 x3_1) ∧ Aside0 (Below w.heap.size w w'))
  case atStart => exact ⟨(([] : List (S24))), (0), (by first | rfl | (simp; done) | (simp [*]; done)), H', ⟨Nat.le_refl _⟩, ⟨by first | exact Kd.R_nil _ _ _ _ _ | exact Kd.N_nil _ _ _ _ _ | exact Kd.V_nil _ _ _ _ _ | exact Kd.Q_nil _ _ _ _ _ | exact Kd.S_nil _ _ _ _ _⟩, ⟨by repeat (first | (with_reducible first | exact HB.out | apply below_alloc | apply pw_below_drewN | apply below_drew1) | exact HB.out)⟩⟩
  case round =>
    clear H'
    obtain ⟨x3_1, x4_1, rfl, HA, HK1, HO_3, HB⟩ := hrel
    cases gk with
    | zero => exact absurd HA.out (by simp [graftwoodref05_Set.l0])
    | succ k1 =>
      have H := HA.out
      clear HA
      simp only [graftwoodref05_Set.l0] at H
      by_cases c2 : x4_1 < (l0.length : Int)
      · rw [if_pos c2] at H
        have c2b0 : decide (x4_1 < (l0.length : Int)) = true := decide_eq_true c2
        clear c2
        by_cases c3 : 0 ≤ x4_1
        · rw [if_pos c3] at H
          have c3b0 : decide (0 ≤ x4_1) = true := decide_eq_true c3
          clear c3
          replace H := Option.bind_eq_some_iff.mp H
          obtain ⟨t269, A40, H⟩ := H
          replace H : (graftwoodref05_Set.l0 k1 l0 t269 (wrap64 (x4_1 + 1))) = some r := H
          have A4 := Aside0.mk A40
          clear A40
          have H' := Aside0.mk H
          clear H
          have p268 : 0 ≤ (x4_1 : Int) := of_decide_eq_true (by first | (with_reducible assumption) | assumption)
          have q268 : x4_1 < (l0.length : Int) := of_decide_eq_true (by first | (with_reducible assumption) | assumption)
          obtain ⟨ad268, e268, hx268_0, hx268_1⟩ := at_T24 HR0.out x4_1 p268 q268
          cases e268
          replace hx268_0 := (HB.out.cell (World.block_lt_of_cell? w _ hx268_0)).trans hx268_0
          replace hx268_1 := (HB.out.cell (World.block_lt_of_cell? w _ hx268_1)).trans hx268_1
          replace p268 := eq_true p268
          replace q268 := eq_true q268
          obtain ⟨Ao5, co5, eo5⟩ := Kd.R_slice HO_3.out
          subst eo5
          go_wp2_with (first | ((with_reducible refine gate_callee (f := 39) rfl ?_); refine goesL_ (some 16) rfl rfl Tryz.func39 (by kernel_rfl) rfl #[.slice Ao5 x3_1.length co5, .agg #[.string ((rd_T24 l0 x4_1).f0), .string ((rd_T24 l0 x4_1).f1)]] rfl (by (try simp only [List.map_toArray, List.map_cons, List.map_nil]); first | done | rfl | (simp only [List.length_drop, List.length_take]; rfl)) ?_; (with_reducible refine (graftwoodref05_With.calls k1 _ _ x3_1 ((rd_T24 l0 x4_1).f0) ((rd_T24 l0 x4_1).f1) t269 _ ?side1 ?side2 A4.out).mono ?_); (case side1 => repeat (first | exact (Kd.R_reads' HO_3.out).2.2 | (with_reducible refine Kd.C_alloc ?_ _) | (with_reducible refine Kd.C_drewN ?_ _) | (with_reducible refine Kd.C_drew ?_))); (case side2 => exact (Kd.R_reads' HO_3.out).2.1); rintro e w6 ⟨v270, rfl, ho0, hb⟩; refine ⟨_, rfl, ?_⟩; have n0_ := Aside0.mk (Kd.R_elder' (by (with_reducible repeat (first | apply Kd.R_alloc | apply Kd.R_drewN | apply Kd.R_drew)); exact HO_3.out) (Kd.R_base ho0) hb); have n1_ := Aside0.mk (Kd.R_lower (Kd.R_new' ho0 (Kd.R_lt (by (with_reducible repeat (first | apply Kd.R_alloc | apply Kd.R_drewN | apply Kd.R_drew)); exact HO_3.out))) (below_size (by repeat (first | (with_reducible first | exact HB.out | apply below_alloc | apply pw_below_drewN | apply below_drew1) | exact HB.out)))); have n2_ := Aside0.mk (below_step (by repeat (first | (with_reducible first | exact HB.out | apply below_alloc | apply pw_below_drewN | apply below_drew1) | exact HB.out)) hb); clear HO_3; clear HB; have HO_3 := n0_; have HO271 := n1_; have HB := n2_; clear n0_ n1_ n2_; (try clear hb); (try clear hb2); (try clear hk); (try clear hi); (try clear ho0)))
          go_roundg k1
          case measure => have := HK1.out; omega
          case rel => exact ⟨(t269), (wrap64 (x4_1 + 1)), (by first | rfl | (simp; done) | (simp [*]; done)), H', ⟨by have := HK1.out; omega⟩, ⟨by (with_reducible repeat (first | apply Kd.R_alloc | apply Kd.R_drewN | apply Kd.R_drew)); exact Kd.R_mono HO271.out (fun _ hk => trivial)⟩, ⟨by repeat (first | (with_reducible first | exact HB.out | apply below_alloc | apply pw_below_drewN | apply below_drew1) | exact HB.out)⟩⟩
        · rw [if_neg c3] at H
          exact absurd H (by simp)
      · rw [if_neg c2] at H
        have c2b0 : decide (x4_1 < (l0.length : Int)) = false := decide_eq_false c2
        clear c2
        obtain rfl := Option.some.inj H
        go_wp2
        go_ret
        exact ⟨_, by first | rfl | (simp [errW_none, errW_some] <;> rfl) | (simp [*, errW_none, errW_some] <;> rfl), by (with_reducible repeat (first | apply Kd.R_alloc | apply Kd.R_drewN | apply Kd.R_drew)); exact HO_3.out, by repeat (first | (with_reducible first | exact HB.out | apply below_alloc | apply pw_below_drewN | apply below_drew1) | exact HB.out)⟩
end Go.Proofs.YtcfphieogalnbaaGreatDoor.Q
end

section
namespace Go.Proofs.YtcfphieogalnbaaGreatDoor.Q
open Go.Proofs.YtcfphieogalnbaaGreatDoor.QB.D
open Go Go.RowKit Go.Lib Go.Proofs.YtcfphieogalnbaaGreatDoorW.PrintWords Go.Proofs.YtcfphieogalnbaaGreatDoorW.PrintLast Go.Proofs.YtcfphieogalnbaaGreatDoorW.PrintMore Gw
set_option linter.unusedVariables false
set_option linter.unusedSimpArgs false
theorem less_val (k : Nat) (x y : S24) (hx : Brief x) (hy : Brief y) (gx : GoodN x) (gy : GoodN y) (hk : 900 ≤ k) : graftwoodref05_Less.f k x.f0 x.f1 y.f0 y.f1 = some (decide (ordN x y < 0)) := by
  have h0 : Small x.f0 := by have := hx.1; unfold Small; omega
  have h1 : Small y.f0 := by have := hy.1; unfold Small; omega
  unfold graftwoodref05_Less.f
  rw [rcmp1_val _ _ h0 h1 k (by have := hx.1; omega)]
  have hc : graftwoodref03_Cmp.f x.f1 y.f1 = some (verC (vOf (bs x.f1)) (vOf (bs y.f1))) := by
    unfold graftwoodref03_Cmp.f
    rw [if_pos ⟨⟨gx.2.1, gy.2.1⟩, gx.2.2, gy.2.2⟩]
  rw [hc]
  simp only [Option.bind_some]
  have ho : ordN x y = orI (lexC (bs x.f0) (bs y.f0)) (verC (vOf (bs x.f1)) (vOf (bs y.f1))) := rfl
  rw [ho]
  unfold orI
  by_cases c1 : lexC (bs x.f0) (bs y.f0) < 0
  · rw [if_pos c1, if_neg (by omega), decide_eq_true c1]
  · rw [if_neg c1]
    by_cases c2 : lexC (bs x.f0) (bs y.f0) = 0
    · rw [if_pos c2, if_pos c2]
    · rw [if_neg c2, if_neg c2, decide_eq_false c1]
theorem ref5May_val (k : Nat) (x : S24) (hx : Brief x) (hk : 900 ≤ k) : graftwoodref05_May.f k x.f0 x.f1 = some (mayN x) := by
  have h0 : Small x.f0 := by have := hx.1; unfold Small; omega
  have h1 : Small x.f1 := by have := hx.2; unfold Small; omega
  unfold graftwoodref05_May.f
  rw [ref4May_tot _ h0 k (by have := hx.1; omega)]
  unfold graftwoodref03_May.f graftwoodref03_Split.f
  rw [if_pos h1]
  simp only [Option.bind_some]
  rw [splitV_ok]
  show _ = some (isPath (bs x.f0) && isVersion (bs x.f1))
  cases isPath (bs x.f0) <;> rfl
def okAt (l : List S35) (i : Nat) (h : i < l.length) : Prop := edE l[i] = true ∧ (∀ m, i = m + 1 → (hm : m < l.length) → ordN l[m].f0 l[i].f0 < 0)
theorem chkE_iff : ∀ (l : List S35) (p : Option S35), chkE p l = true ↔ (∀ i (h : i < l.length), okAt l i h) ∧ (∀ q, p = some q → ∀ h : 0 < l.length, ordN q.f0 l[0].f0 < 0)
  | [], p => by
    constructor
    · intro _; exact ⟨fun i h => by simp at h, fun q _ h => by simp at h⟩
    · intro _; cases p <;> rfl
  | x :: r, p => by
    have ih := chkE_iff r (some x)
    have key : ((∀ i (h : i < r.length), okAt r i h) ∧ (∀ q, some x = some q → ∀ h : 0 < r.length, ordN q.f0 r[0].f0 < 0) ∧ edE x = true) ↔ (∀ i (h : i < (x :: r).length), okAt (x :: r) i h) := by
      constructor
      · rintro ⟨h1, h2, h3⟩ i h
        cases i with
        | zero => exact ⟨h3, fun m e _ => by omega⟩
        | succ i =>
          have hi : i < r.length := by simpa using h
          refine ⟨(h1 i hi).1, fun m e hm => ?_⟩
          obtain rfl : m = i := by omega
          cases m with
          | zero => exact h2 x rfl hi
          | succ m => exact (h1 (m + 1) hi).2 m rfl (by omega)
      · intro h
        refine ⟨fun i hi => ⟨(h (i + 1) (by simpa using hi)).1, fun m e hm => ?_⟩, fun q e hr => ?_, (h 0 (by simp)).1⟩
        · have := (h (i + 1) (by simpa using hi)).2 (m + 1) (by omega) (by simpa using hm)
          simpa using this
        · injection e with e
          subst e
          have := (h 1 (by simpa using hr)).2 0 rfl (by simp)
          simpa using this
    rw [← key]
    cases p with
    | none =>
      simp only [chkE, Bool.and_eq_true, ih]
      constructor
      · rintro ⟨h1, h2, h3⟩; exact ⟨⟨h2, h3, h1⟩, fun q e => by cases e⟩
      · rintro ⟨⟨h1, h2, h3⟩, _⟩; exact ⟨h3, h1, h2⟩
    | some q =>
      simp only [chkE, Bool.and_eq_true, ih, decide_eq_true_eq]
      constructor
      · rintro ⟨h1, h0, h2, h3⟩; exact ⟨⟨h2, h3, h1⟩, fun q' e _ => by injection e with e; rw [← e]; exact h0⟩
      · rintro ⟨⟨h1, h2, h3⟩, h4⟩; exact ⟨h3, h4 q rfl (by simp), h1, h2⟩
theorem checkE_iff (l : List S35) : checkE l = true ↔ ∀ i (h : i < l.length), okAt l i h := by
  unfold checkE
  rw [chkE_iff]
  exact ⟨fun h => h.1, fun h => ⟨h, fun q e => by cases e⟩⟩
def may13_T : Bool × List (List Nat × List Nat) := (true,[([],[]),([],[]),([0,1],[0,1]),([2],[2]),([3],[3]),([4],[4]),([5],[5]),([6,5],[6]),([7],[7]),([7],[7]),([8,9,7],[7,8,9]),([10,7],[7,10]),([11,7],[7,11]),([12,7],[7,12]),([7,13],[7,13]),([14,7],[14]),([15],[15]),([15],[15]),([16,17,15],[15,16,17]),([18,15],[15,18]),([19,15],[15,19]),([20,15],[15,20]),([15,21],[15,21]),([22,15],[22]),([23],[23]),([23],[23]),([24,25,23],[23,24,25]),([26,23],[23,26]),([27,23],[23,27]),([28,23],[23,28]),([23,29],[23,29]),([30,23],[30]),([31],[31]),([32,31],[31,32]),([33,31,31],[31,33]),([34],[34]),([34],[34]),([36,34],[34,36]),([35,37,34],[34,35,37]),([38,34],[34,38]),([39,34],[34,39]),([34],[34]),([34],[34]),([41,42,34],[34,41,42]),([43,34],[34,43]),([44,34],[34,44]),([40,45,34,34],[34,40,45]),([46,34],[34,46]),([34,47,31],[31,34,47]),([31,48],[31,48])])
theorem may13_tab : rtab .any (opsOf Tryz.f20 4) = may13_T := by kernel_rfl
set_option maxHeartbeats 16000000 in
set_option maxRecDepth 100000 in
theorem may13_calls (A : Option Addr) (c : Nat) (l : List S35) (w : World) (h0 : SeeA k35 w A c l) (hl : l.length ≤ 1000) (hb : ∀ x ∈ l, Brief x.f0) (b : Bool) (hbv : checkE l = b) :
    Calls Tryz.prog 20 #[.slice A l.length c] w fun e w' => e = .returned (.bool b) ∧ Below w.heap.size w w' := by
  have hu24 := Tryz.underlying24
  have hu35 := Tryz.underlying35
  have hl1 : (l.length : Int) ≤ 1000 := by omega
  have HBV := Aside0.mk hbv
  have HT := Aside0.mk may13_tab
  have HBR := Aside0.mk hb
  clear hbv hb
  go_enter Tryz.func20, Tryz.ntmps20
  go_wp2_with fail
  go_loopw [3] (fun v3 wr => ∃ i : Nat, i ≤ l.length ∧ v3 = .int .i64 (i : Int) ∧ Aside0 (∀ j (h : j < l.length), j < i → okAt l j h) ∧ Aside0 (Below w.heap.size w wr)) (fun v3 _ => l.length - (RowKit.intOf v3).toNat)
  case atStart => exact ⟨0, Nat.zero_le _, rfl, ⟨fun j _ h => by omega⟩, ⟨Below.refl _ _⟩⟩
  case round =>
    obtain ⟨i, hi, rfl, HOK, HB⟩ := hrel
    by_cases hil : i < l.length
    · have j1 : (i : Int) < (l.length : Int) := by omega
      have hdi : decide ((i : Int) < (l.length : Int)) = true := decide_eq_true j1
      have K := h0.to HB
      obtain ⟨ad, eA, x0, x1, x2⟩ := at_T35 K.out.2 (i : Int) (by omega) (by omega)
      have hrd : rd_T35 l (i : Int) = l[i] := by simp [rd_T35, List.getD_eq_getElem?_getD, List.getElem?_eq_getElem hil]
      rw [hrd, Int.toNat_natCast] at x0 x1 x2
      cases eA
      obtain ⟨y, hy⟩ : ∃ y, y = l[i] := ⟨_, rfl⟩
      have bl := HBR.out l[i] (List.getElem_mem hil)
      rw [← hy] at x0 x1 x2 bl
      have HY := Aside0.mk hy
      have BL := Aside0.mk bl
      clear hy bl hrd h0
      obtain ⟨v, hv⟩ : ∃ v, v = y.f1 := ⟨_, rfl⟩
      rw [← hv] at x2
      have HBAD : Aside0 (¬ okAt l i hil → b = false) := ⟨fun h => by rw [← HBV.out, Bool.eq_false_iff]; intro h2; exact h ((checkE_iff l).1 h2 i hil)⟩
      have KS : ∀ w', Below wr.heap.size wr w' → Below wr.heap.size wr w' ∧ w'.cell? (ad.add (i * 3)) = some (.string y.f0.f0) ∧ w'.cell? ⟨(ad.add (i * 3)).block, (ad.add (i * 3)).off + 1, none⟩ = some (.string y.f0.f1) ∧ w'.cell? ⟨(ad.add (i * 3)).block, (ad.add (i * 3)).off + 2, none⟩ = some (.int .i64 v) :=
        fun w' h => ⟨h, (h.cell (World.block_lt_of_cell? _ _ x0)).trans x0, (h.cell (World.block_lt_of_cell? _ _ x1)).trans x1, (h.cell (World.block_lt_of_cell? _ _ x2)).trans x2⟩
      have CM := fun w => graftwoodref05_May.calls 900 y.f0.f0 y.f0.f1 _ w (ref5May_val 900 y.f0 BL.out (by omega))
      have HV := Aside0.mk hv
      clear hv
      by_cases hm : mayN y.f0 = true
      case neg =>
        rw [Bool.not_eq_true] at hm
        rw [hm] at CM
        obtain rfl := HBAD.out (fun h => by
          have := ((edE_iff _).1 h.1).1
          rw [← HY.out, hm] at this
          cases this)
        clear hm HBAD
        go_wp2_with fail
        refine sn_ (fun w' => Below wr.heap.size wr w' ∧ w'.cell? (ad.add (i * 3)) = some (.string y.f0.f0) ∧ w'.cell? ⟨(ad.add (i * 3)).block, (ad.add (i * 3)).off + 1, none⟩ = some (.string y.f0.f1) ∧ w'.cell? ⟨(ad.add (i * 3)).block, (ad.add (i * 3)).off + 2, none⟩ = some (.int .i64 v)) #[false, false, false, false, false, false, false, false, false, false, false, false, false, false, false, false, false, false, false, false, false, false, false, false, false, false, false, false, false, false, false, false, false, false, false, false, false, false, false, false, false, false, false, false, false, false, false, false, false, false] (KS _ (below_drew (Below.refl _ _))) (fun hh => ?_)
        (repeat (first | refine pn_ HT.out ?_ | refine tn_ HT.out hh ?_ | refine un_ HT.out ?_))
        refine cn_ HT.out (CM _) ?_
        rintro e w3 ⟨rfl, hb⟩
        refine ⟨_, rfl, KS _ ((below_drew (Below.refl _ wr)).trans (hb.mono (Nat.le_refl _))), fun hh a' ha => ?_⟩
        (simp only [Act.put, List.setIfInBounds_toArray, List.set_cons_zero, List.set_cons_succ] at ha)
        subst ha
        (repeat (first | refine pn_ HT.out ?_ | refine tn_ HT.out hh ?_ | refine un_ HT.out ?_))
        refine dn_ HT.out ?_
        have hB9 := hh.1
        clear hh KS
        go_wp2
        go_ret
        exact ⟨rfl, HB.out.trans (hB9.mono HB.out.size)⟩
      case pos =>
        rw [hm] at CM
        have HM := Aside0.mk hm
        clear hm
        by_cases e0 : v = 0
        case pos =>
          obtain rfl := HBAD.out (fun h => by
            have := ((edE_iff _).1 h.1).2.1
            rw [← HY.out, ← HV.out] at this
            exact this e0)
          have f0 : (v == 0) = true := beq_iff_eq.2 e0
          clear e0 HBAD
          go_wp2_with fail
          refine sn_ (fun w' => Below wr.heap.size wr w' ∧ w'.cell? (ad.add (i * 3)) = some (.string y.f0.f0) ∧ w'.cell? ⟨(ad.add (i * 3)).block, (ad.add (i * 3)).off + 1, none⟩ = some (.string y.f0.f1) ∧ w'.cell? ⟨(ad.add (i * 3)).block, (ad.add (i * 3)).off + 2, none⟩ = some (.int .i64 v)) #[false, false, false, false, false, false, false, false, false, false, false, false, false, false, false, false, false, false, false, false, false, false, false, false, false, false, false, false, false, false, false, false, false, false, false, false, false, false, false, false, false, false, false, false, false, false, false, false, false, false] (KS _ (below_drew (Below.refl _ _))) (fun hh => ?_)
          (repeat (first | refine pn_ HT.out ?_ | refine tn_ HT.out hh ?_ | refine un_ HT.out ?_))
          refine cn_ HT.out (CM _) ?_
          rintro e w3 ⟨rfl, hb⟩
          refine ⟨_, rfl, KS _ ((below_drew (Below.refl _ wr)).trans (hb.mono (Nat.le_refl _))), fun hh a' ha => ?_⟩
          (simp only [Act.put, List.setIfInBounds_toArray, List.set_cons_zero, List.set_cons_succ] at ha)
          subst ha
          (repeat (first | refine pn_ HT.out ?_ | refine tn_ HT.out hh ?_ | refine un_ HT.out ?_))
          refine dn_ HT.out ?_
          have hB9 := hh.1
          clear hh KS
          go_wp2
          go_ret
          exact ⟨rfl, HB.out.trans (hB9.mono HB.out.size)⟩
        have f0 : (v == 0) = false := beq_eq_false_iff_ne.2 e0
        by_cases e1 : 1099511627776 < v
        case pos =>
          obtain rfl := HBAD.out (fun h => by
            have := ((edE_iff _).1 h.1).2.2.1
            rw [← HY.out, ← HV.out] at this
            omega)
          have f1 : decide (1099511627776 < v) = true := decide_eq_true e1
          clear e0 e1 HBAD
          go_wp2_with fail
          refine sn_ (fun w' => Below wr.heap.size wr w' ∧ w'.cell? (ad.add (i * 3)) = some (.string y.f0.f0) ∧ w'.cell? ⟨(ad.add (i * 3)).block, (ad.add (i * 3)).off + 1, none⟩ = some (.string y.f0.f1) ∧ w'.cell? ⟨(ad.add (i * 3)).block, (ad.add (i * 3)).off + 2, none⟩ = some (.int .i64 v)) #[false, false, false, false, false, false, false, false, false, false, false, false, false, false, false, false, false, false, false, false, false, false, false, false, false, false, false, false, false, false, false, false, false, false, false, false, false, false, false, false, false, false, false, false, false, false, false, false, false, false] (KS _ (below_drew (Below.refl _ _))) (fun hh => ?_)
          (repeat (first | refine pn_ HT.out ?_ | refine tn_ HT.out hh ?_ | refine un_ HT.out ?_))
          refine cn_ HT.out (CM _) ?_
          rintro e w3 ⟨rfl, hb⟩
          refine ⟨_, rfl, KS _ ((below_drew (Below.refl _ wr)).trans (hb.mono (Nat.le_refl _))), fun hh a' ha => ?_⟩
          (simp only [Act.put, List.setIfInBounds_toArray, List.set_cons_zero, List.set_cons_succ] at ha)
          subst ha
          (repeat (first | refine pn_ HT.out ?_ | refine tn_ HT.out hh ?_ | refine un_ HT.out ?_))
          refine dn_ HT.out ?_
          have hB9 := hh.1
          clear hh KS
          go_wp2
          go_ret
          exact ⟨rfl, HB.out.trans (hB9.mono HB.out.size)⟩
        have f1 : decide (1099511627776 < v) = false := decide_eq_false e1
        by_cases e2 : v < -1099511627776
        case pos =>
          obtain rfl := HBAD.out (fun h => by
            have := ((edE_iff _).1 h.1).2.2.2
            rw [← HY.out, ← HV.out] at this
            omega)
          have f2 : decide (v < -1099511627776) = true := decide_eq_true e2
          clear e0 e1 e2 HBAD
          go_wp2_with fail
          refine sn_ (fun w' => Below wr.heap.size wr w' ∧ w'.cell? (ad.add (i * 3)) = some (.string y.f0.f0) ∧ w'.cell? ⟨(ad.add (i * 3)).block, (ad.add (i * 3)).off + 1, none⟩ = some (.string y.f0.f1) ∧ w'.cell? ⟨(ad.add (i * 3)).block, (ad.add (i * 3)).off + 2, none⟩ = some (.int .i64 v)) #[false, false, false, false, false, false, false, false, false, false, false, false, false, false, false, false, false, false, false, false, false, false, false, false, false, false, false, false, false, false, false, false, false, false, false, false, false, false, false, false, false, false, false, false, false, false, false, false, false, false] (KS _ (below_drew (Below.refl _ _))) (fun hh => ?_)
          (repeat (first | refine pn_ HT.out ?_ | refine tn_ HT.out hh ?_ | refine un_ HT.out ?_))
          refine cn_ HT.out (CM _) ?_
          rintro e w3 ⟨rfl, hb⟩
          refine ⟨_, rfl, KS _ ((below_drew (Below.refl _ wr)).trans (hb.mono (Nat.le_refl _))), fun hh a' ha => ?_⟩
          (simp only [Act.put, List.setIfInBounds_toArray, List.set_cons_zero, List.set_cons_succ] at ha)
          subst ha
          (repeat (first | refine pn_ HT.out ?_ | refine tn_ HT.out hh ?_ | refine un_ HT.out ?_))
          refine dn_ HT.out ?_
          have hB9 := hh.1
          clear hh KS
          go_wp2
          go_ret
          exact ⟨rfl, HB.out.trans (hB9.mono HB.out.size)⟩
        have f2 : decide (v < -1099511627776) = false := decide_eq_false e2
        have hE : edE l[i] = true := (edE_iff _).2 (by rw [← HY.out, ← HV.out]; exact ⟨HM.out, e0, by omega, by omega⟩)
        clear e0 e1 e2
        rcases Nat.eq_zero_or_pos i with h0 | h0
        case inl =>
          have f3 : decide (0 < i) = false := decide_eq_false (by omega)
          have NX : Aside0 (∀ j (h : j < l.length), j < i + 1 → okAt l j h) := ⟨fun j h hj => by
            obtain rfl : j = i := by omega
            exact ⟨hE, fun m e _ => by omega⟩⟩
          have hwi : IntKind.i64.wrap ((i : Int) + 1) = (i : Int) + 1 := by rw [IntKind.wrap_i64]; omega
          have H0 := Aside0.mk h0
          clear h0 hE HBAD HOK
          go_wp2_with fail
          refine sn_ (fun w' => Below wr.heap.size wr w' ∧ w'.cell? (ad.add (i * 3)) = some (.string y.f0.f0) ∧ w'.cell? ⟨(ad.add (i * 3)).block, (ad.add (i * 3)).off + 1, none⟩ = some (.string y.f0.f1) ∧ w'.cell? ⟨(ad.add (i * 3)).block, (ad.add (i * 3)).off + 2, none⟩ = some (.int .i64 v)) #[false, false, false, false, false, false, false, false, false, false, false, false, false, false, false, false, false, false, false, false, false, false, false, false, false, false, false, false, false, false, false, false, false, false, false, false, false, false, false, false, false, false, false, false, false, false, false, false, false, false] (KS _ (below_drew (Below.refl _ _))) (fun hh => ?_)
          (repeat (first | refine pn_ HT.out ?_ | refine tn_ HT.out hh ?_ | refine un_ HT.out ?_))
          refine cn_ HT.out (CM _) ?_
          rintro e w3 ⟨rfl, hb⟩
          refine ⟨_, rfl, KS _ ((below_drew (Below.refl _ wr)).trans (hb.mono (Nat.le_refl _))), fun hh a' ha => ?_⟩
          (simp only [Act.put, List.setIfInBounds_toArray, List.set_cons_zero, List.set_cons_succ] at ha)
          subst ha
          (repeat (first | refine pn_ HT.out ?_ | refine tn_ HT.out hh ?_ | refine un_ HT.out ?_))
          refine dn_ HT.out ?_
          have hB9 := hh.1
          clear hh KS
          have HB9 : Aside0 (Below w.heap.size w _) := ⟨HB.out.trans (hB9.mono HB.out.size)⟩
          clear hB9
          go_wp2
          go_roundw
          case rel => exact ⟨i + 1, by omega, by go_num, NX, HB9⟩
          case measure => simp [RowKit.intOf]; omega
        case inr =>
          obtain ⟨m, hm⟩ : ∃ m, i = m + 1 := ⟨i - 1, by omega⟩
          have hml : m < l.length := by omega
          have f3 : decide (0 < i) = true := decide_eq_true (by omega)
          have hwm : IntKind.i64.wrap ((i : Int) - 1) = (m : Int) := by rw [IntKind.wrap_i64]; omega
          obtain ⟨ad', eA, z0, z1, z2⟩ := at_T35 K.out.2 (m : Int) (by omega) (by omega)
          have hrd : rd_T35 l (m : Int) = l[m] := by simp [rd_T35, List.getD_eq_getElem?_getD, List.getElem?_eq_getElem hml]
          rw [hrd, Int.toNat_natCast] at z0 z1 z2
          cases eA
          obtain ⟨z, hz⟩ : ∃ y, y = l[m] := ⟨_, rfl⟩
          have bz := HBR.out l[m] (List.getElem_mem hml)
          have hzk := (HOK.out m hml (by omega)).1
          rw [← hz] at z0 z1 z2 bz hzk
          have gz := mayN_good bz.tiny ((edE_iff _).1 hzk).1
          have gy := mayN_good BL.out.tiny HM.out
          have CL := fun w => graftwoodref05_Less.calls 900 z.f0.f0 z.f0.f1 y.f0.f0 y.f0.f1 _ w (less_val 900 z.f0 y.f0 bz BL.out gz gy (by omega))
          replace KS : ∀ w', Below wr.heap.size wr w' → Below wr.heap.size wr w' ∧ w'.cell? (ad.add (i * 3)) = some (.string y.f0.f0) ∧ w'.cell? ⟨(ad.add (i * 3)).block, (ad.add (i * 3)).off + 1, none⟩ = some (.string y.f0.f1) ∧ w'.cell? ⟨(ad.add (i * 3)).block, (ad.add (i * 3)).off + 2, none⟩ = some (.int .i64 v) ∧ w'.cell? (ad.add (m * 3)) = some (.string z.f0.f0) ∧ w'.cell? ⟨(ad.add (m * 3)).block, (ad.add (m * 3)).off + 1, none⟩ = some (.string z.f0.f1) :=
            fun w' h => ⟨h, (h.cell (World.block_lt_of_cell? _ _ x0)).trans x0, (h.cell (World.block_lt_of_cell? _ _ x1)).trans x1, (h.cell (World.block_lt_of_cell? _ _ x2)).trans x2, (h.cell (World.block_lt_of_cell? _ _ z0)).trans z0, (h.cell (World.block_lt_of_cell? _ _ z1)).trans z1⟩
          have j2 : (m : Int) < (l.length : Int) := by omega
          by_cases ho : ordN z.f0 y.f0 < 0
          case pos =>
            rw [decide_eq_true ho] at CL
            have NX : Aside0 (∀ j (h : j < l.length), j < i + 1 → okAt l j h) := ⟨fun j h hj => by
              by_cases hji : j < i
              · exact HOK.out j h hji
              · obtain rfl : j = i := by omega
                refine ⟨hE, fun m' e hm' => ?_⟩
                obtain rfl : m' = m := by omega
                rw [← hz, ← HY.out]; exact ho⟩
            have hwi : IntKind.i64.wrap ((i : Int) + 1) = (i : Int) + 1 := by rw [IntKind.wrap_i64]; omega
            have HM2 := Aside0.mk hm
            clear h0 hE HBAD HOK hrd hz bz hzk gz gy z2 hm ho
            go_wp2_with fail
            refine sn_ (fun w' => Below wr.heap.size wr w' ∧ w'.cell? (ad.add (i * 3)) = some (.string y.f0.f0) ∧ w'.cell? ⟨(ad.add (i * 3)).block, (ad.add (i * 3)).off + 1, none⟩ = some (.string y.f0.f1) ∧ w'.cell? ⟨(ad.add (i * 3)).block, (ad.add (i * 3)).off + 2, none⟩ = some (.int .i64 v) ∧ w'.cell? (ad.add (m * 3)) = some (.string z.f0.f0) ∧ w'.cell? ⟨(ad.add (m * 3)).block, (ad.add (m * 3)).off + 1, none⟩ = some (.string z.f0.f1)) #[false, false, false, false, false, false, false, false, false, false, false, false, false, false, false, false, false, false, false, false, false, false, false, false, false, false, false, false, false, false, false, false, false, false, false, false, false, false, false, false, false, false, false, false, false, false, false, false, false, false] (KS _ (below_drew (Below.refl _ _))) (fun hh => ?_)
            (repeat (first | refine pn_ HT.out ?_ | refine tn_ HT.out hh ?_ | refine un_ HT.out ?_))
            refine cn_ HT.out (CM _) ?_
            rintro e w3 ⟨rfl, hb⟩
            refine ⟨_, rfl, KS _ ((below_drew (Below.refl _ wr)).trans (hb.mono (Nat.le_refl _))), fun hh a' ha => ?_⟩
            (simp only [Act.put, List.setIfInBounds_toArray, List.set_cons_zero, List.set_cons_succ] at ha)
            subst ha
            (repeat (first | refine pn_ HT.out ?_ | refine tn_ HT.out hh ?_ | refine un_ HT.out ?_))
            refine cn_ HT.out (CL _) ?_
            rintro e w4 ⟨rfl, hb4⟩
            refine ⟨_, rfl, KS _ (hh.1.trans (hb4.mono hh.1.size)), fun hh a' ha => ?_⟩
            (simp only [Act.put, List.setIfInBounds_toArray, List.set_cons_zero, List.set_cons_succ] at ha)
            subst ha
            (repeat (first | refine pn_ HT.out ?_ | refine tn_ HT.out hh ?_ | refine un_ HT.out ?_))
            refine dn_ HT.out ?_
            have hB9 := hh.1
            clear hh KS
            have HB9 : Aside0 (Below w.heap.size w _) := ⟨HB.out.trans (hB9.mono HB.out.size)⟩
            clear hB9
            go_wp2
            go_roundw
            case rel => exact ⟨i + 1, by omega, by go_num, NX, HB9⟩
            case measure => simp [RowKit.intOf]; omega
          case neg =>
            rw [decide_eq_false ho] at CL
            obtain rfl := HBAD.out (fun h => by
              have := h.2 m hm hml
              rw [← hz, ← HY.out] at this
              exact ho this)
            have HM2 := Aside0.mk hm
            clear h0 hE HBAD HOK hrd hz bz hzk gz gy z2 hm ho
            go_wp2_with fail
            refine sn_ (fun w' => Below wr.heap.size wr w' ∧ w'.cell? (ad.add (i * 3)) = some (.string y.f0.f0) ∧ w'.cell? ⟨(ad.add (i * 3)).block, (ad.add (i * 3)).off + 1, none⟩ = some (.string y.f0.f1) ∧ w'.cell? ⟨(ad.add (i * 3)).block, (ad.add (i * 3)).off + 2, none⟩ = some (.int .i64 v) ∧ w'.cell? (ad.add (m * 3)) = some (.string z.f0.f0) ∧ w'.cell? ⟨(ad.add (m * 3)).block, (ad.add (m * 3)).off + 1, none⟩ = some (.string z.f0.f1)) #[false, false, false, false, false, false, false, false, false, false, false, false, false, false, false, false, false, false, false, false, false, false, false, false, false, false, false, false, false, false, false, false, false, false, false, false, false, false, false, false, false, false, false, false, false, false, false, false, false, false] (KS _ (below_drew (Below.refl _ _))) (fun hh => ?_)
            (repeat (first | refine pn_ HT.out ?_ | refine tn_ HT.out hh ?_ | refine un_ HT.out ?_))
            refine cn_ HT.out (CM _) ?_
            rintro e w3 ⟨rfl, hb⟩
            refine ⟨_, rfl, KS _ ((below_drew (Below.refl _ wr)).trans (hb.mono (Nat.le_refl _))), fun hh a' ha => ?_⟩
            (simp only [Act.put, List.setIfInBounds_toArray, List.set_cons_zero, List.set_cons_succ] at ha)
            subst ha
            (repeat (first | refine pn_ HT.out ?_ | refine tn_ HT.out hh ?_ | refine un_ HT.out ?_))
            refine cn_ HT.out (CL _) ?_
            rintro e w4 ⟨rfl, hb4⟩
            refine ⟨_, rfl, KS _ (hh.1.trans (hb4.mono hh.1.size)), fun hh a' ha => ?_⟩
            (simp only [Act.put, List.setIfInBounds_toArray, List.set_cons_zero, List.set_cons_succ] at ha)
            subst ha
            (repeat (first | refine pn_ HT.out ?_ | refine tn_ HT.out hh ?_ | refine un_ HT.out ?_))
            refine dn_ HT.out ?_
            have hB9 := hh.1
            clear hh KS
            go_wp2
            go_ret
            exact ⟨rfl, HB.out.trans (hB9.mono HB.out.size)⟩
    · obtain rfl : i = l.length := by omega
      have hdi : decide ((l.length : Int) < (l.length : Int)) = false := decide_eq_false (by omega)
      have hv : b = true := by rw [← HBV.out]; exact (checkE_iff l).2 (fun j h => HOK.out j h h)
      subst hv
      go_wp2
      go_ret
      exact ⟨rfl, HB.out⟩
theorem rwith_l1 (l : List S24) (t : S24) (hl : l.length ≤ 2147483648) (hb : ∀ x ∈ l, Brief x) (hg : ∀ x ∈ l, GoodN x) (bt : Brief t) (gt : GoodN t) : ∀ (n i k : Nat) (acc : List S24), l.length ≤ i + n → i ≤ l.length → n + 1000 ≤ k → acc.length ≤ 4294967296 + i →
    graftwoodref05_With.l1 k l acc (i : Int) t.f0 t.f1 = some (acc ++ (l.drop i).filter (fun x => decide (ordN t x < 0))) := by
  intro n
  induction n with
  | zero =>
    intro i k acc h1 h2 hk ha
    obtain ⟨j, rfl⟩ : ∃ j, k = j + 1 := ⟨k - 1, by omega⟩
    simp only [graftwoodref05_With.l1]
    rw [if_neg (by omega), List.drop_of_length_le (by omega)]
    simp
  | succ n ih =>
    intro i k acc h1 h2 hk ha
    obtain ⟨j, rfl⟩ : ∃ j, k = j + 1 := ⟨k - 1, by omega⟩
    by_cases hi : i < l.length
    · have hm := List.getElem_mem hi
      have hwr : wrap64 ((i : Int) + 1) = ((i + 1 : Nat) : Int) := by unfold wrap64; omega
      simp only [graftwoodref05_With.l1]
      rw [if_pos (by omega), if_pos (by omega), rd_nat hi, less_val j t l[i] bt (hb _ hm) gt (hg _ hm) (by omega), List.drop_eq_getElem_cons hi, hwr]
      simp only [Option.bind_some]
      by_cases ho : ordN t l[i] < 0
      · rw [decide_eq_true ho, if_pos rfl, if_pos (by omega), List.filter_cons_of_pos (by simp [ho]), ih (i + 1) j _ (by omega) (by omega) (by omega) (by simp; omega)]
        simp
      · rw [decide_eq_false ho, if_neg (by decide), List.filter_cons_of_neg (by simp [ho]), ih (i + 1) j _ (by omega) (by omega) (by omega) (by omega)]
    · exact ih i (j + 1) acc (by omega) h2 (by omega) ha
theorem rwith_l0 (l : List S24) (t : S24) (hl : l.length ≤ 2147483648) (hb : ∀ x ∈ l, Brief x) (hg : ∀ x ∈ l, GoodN x) (bt : Brief t) (gt : GoodN t) : ∀ (n i k : Nat) (acc : List S24), l.length ≤ i + n → i ≤ l.length → n + l.length + 1001 ≤ k → acc.length ≤ i →
    graftwoodref05_With.l0 k l acc (i : Int) t.f0 t.f1 = some (acc ++ (l.drop i).filter (fun x => decide (ordN x t < 0)) ++ [t] ++ l.filter (fun x => decide (ordN t x < 0))) := by
  intro n
  induction n with
  | zero =>
    intro i k acc h1 h2 hk ha
    obtain ⟨j, rfl⟩ : ∃ j, k = j + 1 := ⟨k - 1, by omega⟩
    have h9 := rwith_l1 l t hl hb hg bt gt l.length 0 j (acc ++ [t]) (by omega) (Nat.zero_le _) (by omega) (by simp; omega)
    simp only [graftwoodref05_With.l0]
    rw [if_neg (by omega), if_pos (by omega), List.drop_of_length_le (by omega)]
    refine h9.trans ?_
    simp
  | succ n ih =>
    intro i k acc h1 h2 hk ha
    obtain ⟨j, rfl⟩ : ∃ j, k = j + 1 := ⟨k - 1, by omega⟩
    by_cases hi : i < l.length
    · have hm := List.getElem_mem hi
      have hwr : wrap64 ((i : Int) + 1) = ((i + 1 : Nat) : Int) := by unfold wrap64; omega
      simp only [graftwoodref05_With.l0]
      rw [if_pos (by omega), if_pos (by omega), rd_nat hi, less_val j l[i] t (hb _ hm) bt (hg _ hm) gt (by omega), List.drop_eq_getElem_cons hi, hwr]
      simp only [Option.bind_some]
      by_cases ho : ordN l[i] t < 0
      · rw [decide_eq_true ho, if_pos rfl, if_pos (by omega), List.filter_cons_of_pos (by simp [ho]), ih (i + 1) j _ (by omega) (by omega) (by omega) (by simp; omega)]
        simp
      · rw [decide_eq_false ho, if_neg (by decide), List.filter_cons_of_neg (by simp [ho]), ih (i + 1) j _ (by omega) (by omega) (by omega) (by omega)]
    · exact ih i (j + 1) acc (by omega) h2 (by omega) ha
theorem rwith_val (l : List S24) (t : S24) (hl : l.length ≤ 2147483648) (hb : ∀ x ∈ l, Brief x) (hg : ∀ x ∈ l, GoodN x) (bt : Brief t) (gt : GoodN t) (k : Nat) (hk : 2 * l.length + 1001 ≤ k) :
    graftwoodref05_With.f k l t.f0 t.f1 = some (rwithN l t) := by
  have h := rwith_l0 l t hl hb hg bt gt l.length 0 k [] (by omega) (Nat.zero_le _) (by omega) (Nat.le_refl _)
  rw [List.drop_zero] at h
  exact h
theorem filter_two {α : Type} (p q : α → Bool) : ∀ (l : List α), (∀ x ∈ l, ¬ (p x = true ∧ q x = true)) → (l.filter p).length + (l.filter q).length ≤ l.length
  | [], _ => by simp
  | x :: r, h => by
    have ih := filter_two p q r (fun y hy => h y (List.mem_cons_of_mem _ hy))
    have hx := h x List.mem_cons_self
    simp only [List.filter_cons, List.length_cons]
    cases hp : p x <;> cases hq : q x <;> simp_all <;> omega
theorem rwithN_len {l : List S24} {t : S24} (hg : ∀ x ∈ l, GoodN x) (gt : GoodN t) : (rwithN l t).length ≤ l.length + 1 := by
  have h := filter_two (fun x => decide (ordN x t < 0)) (fun x => decide (ordN t x < 0)) l (fun x hx h => by
    have h1 : ordN x t < 0 := of_decide_eq_true h.1
    have h2 : ordN t x < 0 := of_decide_eq_true h.2
    have := ordN_to.sym x t (hg x hx) gt
    omega)
  unfold rwithN
  simp only [List.length_append, List.length_cons, List.length_nil]
  omega
theorem rset_l0 (l : List S24) (hl : l.length ≤ 2147483648) (hb : ∀ x ∈ l, Brief x) (hm : ∀ x ∈ l, mayN x = true) : ∀ (n i k : Nat) (acc : List S24), l.length ≤ i + n → i ≤ l.length → n + 2 * l.length + 1002 ≤ k → acc.length ≤ i → (∀ x ∈ acc, Brief x ∧ GoodN x) →
    graftwoodref05_Set.l0 k l acc (i : Int) = some ((l.drop i).foldl rwithN acc) := by
  intro n
  induction n with
  | zero =>
    intro i k acc h1 h2 hk ha hx
    obtain ⟨j, rfl⟩ : ∃ j, k = j + 1 := ⟨k - 1, by omega⟩
    simp only [graftwoodref05_Set.l0]
    rw [if_neg (by omega), List.drop_of_length_le (by omega)]
    rfl
  | succ n ih =>
    intro i k acc h1 h2 hk ha hx
    obtain ⟨j, rfl⟩ : ∃ j, k = j + 1 := ⟨k - 1, by omega⟩
    by_cases hi : i < l.length
    · have hmm := List.getElem_mem hi
      have bt := hb _ hmm
      have gt := mayN_good bt.tiny (hm _ hmm)
      have hwr : wrap64 ((i : Int) + 1) = ((i + 1 : Nat) : Int) := by unfold wrap64; omega
      have hlen := rwithN_len (fun x h => (hx x h).2) gt
      simp only [graftwoodref05_Set.l0]
      rw [if_pos (by omega), if_pos (by omega), rd_nat hi, rwith_val acc l[i] (by omega) (fun x h => (hx x h).1) (fun x h => (hx x h).2) bt gt j (by omega), List.drop_eq_getElem_cons hi, hwr]
      simp only [Option.bind_some]
      rw [ih (i + 1) j _ (by omega) (by omega) (by omega) (by omega) (fun x h => by
        rcases (mem_rwithN (fun x h => (hx x h).2) gt x).1 h with e | e
        · exact hx x e
        · subst e; exact ⟨bt, gt⟩)]
      rfl
    · exact ih i (j + 1) acc (by omega) h2 (by omega) ha hx
theorem rset_val (l : List S24) (hl : l.length ≤ 2147483648) (hb : ∀ x ∈ l, Brief x) (hm : ∀ x ∈ l, mayN x = true) (k : Nat) (hk : 3 * l.length + 1002 ≤ k) : graftwoodref05_Set.f k l = some (rsetN l) := by
  have h := rset_l0 l hl hb hm l.length 0 k [] (by omega) (Nat.zero_le _) (by omega) (Nat.le_refl _) (fun x h => by cases h)
  rw [List.drop_zero] at h
  exact h
end Go.Proofs.YtcfphieogalnbaaGreatDoor.Q
end
