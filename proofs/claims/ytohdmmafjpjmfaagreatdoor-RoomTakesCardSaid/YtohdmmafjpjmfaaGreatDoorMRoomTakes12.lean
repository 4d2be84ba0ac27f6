/- Part 12 of this claim: several texts one behind the other: Fgraftwoodref05With, Fgraftwoodref05Set, Fgraftwoodref13Both. What each shows stands in its theorems; conditions: sizes of texts and lists, as the functions' definitions say. -/
import Derived.Test.YtohdmmafjpjmfaaGreatDoorMRoomTakes2
import Derived.Test.YtohdmmafjpjmfaaGreatDoorMRoomTakes11
import Derived.Test.YtohdmmafjpjmfaaGreatDoorMRoomTakes3
import Derived.Test.YtohdmmafjpjmfaaGreatDoorMRoomTakes5
import Derived.Test.YtohdmmafjpjmfaaGreatDoorMRoomTakes4
section
namespace Go.Proofs.YtohdmmafjpjmfaaGreatDoor.Q
open Go.RowKit Go.Proofs.YtohdmmafjpjmfaaGreatDoorW.PrintWords Go.Proofs.YtohdmmafjpjmfaaGreatDoorW.PrintLast Go.Proofs.YtohdmmafjpjmfaaGreatDoorW.PrintMore
attribute [local go_sem] max2_int min2_int max_two min_two max_three min_three max_four min_four   -- for this text's walks alone
set_option linter.unusedVariables false
set_option linter.unusedSimpArgs false
mutual
def graftwoodref05_With.l0 : Nat → List (S34) → List (S34) → Int → ByteArray → ByteArray → Option ((List (S34)))
 | 0, _, _, _, _, _ => none
 | k + 1, x0, x5, x6, x236000, x236001 => if x6 < (x0.length : Int) then (if 0 ≤ x6 then ((graftwoodref05_Less.f k ((rd_T34 x0 x6).f0) ((rd_T34 x0 x6).f1) x236000 x236001).bind fun t237 => (if t237 = true then (if x5.length < 4398046511104 then (graftwoodref05_With.l0 k x0 (x5 ++ [(⟨(rd_T34 x0 x6).f0, (rd_T34 x0 x6).f1⟩ : S34)]) (wrap64 (x6 + 1)) x236000 x236001) else (none)) else (graftwoodref05_With.l0 k x0 x5 (wrap64 (x6 + 1)) x236000 x236001))) else (none)) else (if x5.length < 4398046511104 then (graftwoodref05_With.l1 k x0 (x5 ++ [(⟨x236000, x236001⟩ : S34)]) 0 x236000 x236001) else (none))
def graftwoodref05_With.l1 : Nat → List (S34) → List (S34) → Int → ByteArray → ByteArray → Option ((List (S34)))
 | 0, _, _, _, _, _ => none
 | k + 1, x0, x5, x7, x236000, x236001 => if x7 < (x0.length : Int) then (if 0 ≤ x7 then ((graftwoodref05_Less.f k x236000 x236001 ((rd_T34 x0 x7).f0) ((rd_T34 x0 x7).f1)).bind fun t246 => (if t246 = true then (if x5.length < 4398046511104 then (graftwoodref05_With.l1 k x0 (x5 ++ [(⟨(rd_T34 x0 x7).f0, (rd_T34 x0 x7).f1⟩ : S34)]) (wrap64 (x7 + 1)) x236000 x236001) else (none)) else (graftwoodref05_With.l1 k x0 x5 (wrap64 (x7 + 1)) x236000 x236001))) else (none)) else (some x5)
end
def graftwoodref05_With.f (k : Nat) (l0 : List (S34)) (a1_0 : ByteArray) (a1_1 : ByteArray) : Option ((List (S34))) := graftwoodref05_With.l0 k l0 ([] : List (S34)) 0 a1_0 a1_1
set_option maxHeartbeats 8000000 in
set_option maxRecDepth 100000 in
theorem graftwoodref05_With.calls (k : Nat) (A0 : Option Addr) (c0 : Nat) (l0 : List (S34)) (a1_0 : ByteArray) (a1_1 : ByteArray) (r : List (S34)) (w : World) (hr0 : Kd.C k34 w A0 l0.length l0) (hc0 : l0.length ≤ c0) (h : graftwoodref05_With.f k l0 a1_0 a1_1 = some r) :
  Calls Tryz.prog 73 #[.slice A0 l0.length c0, .agg #[.string a1_0, .string a1_1]] w fun e w' => ∃ v0_ : Value, e = .returned (v0_) ∧ Kd.R k34 34 w' w.heap.size (fun _ => True) v0_ r ∧ Below w.heap.size w w' := by
 have hu34 := Tryz.underlying34
 have HR0 := Aside0.mk hr0
 have HC0 := Aside0.mk hc0
 clear hr0 hc0
 have HB := Aside0.mk (Below.refl w.heap.size w)
 have H : (graftwoodref05_With.l0 k l0 ([] : List (S34)) 0 a1_0 a1_1) = some r := h
 clear h
 have H' := Aside0.mk H
 clear H
 go_enter Tryz.func73, Tryz.ntmps73
 go_wp2_with (first | ((with_reducible refine gate_dst (N := 3) rfl ?_); refine box_event ?hg (N := 3) ?hd (cs := #[.string a1_0, .string a1_1]) (t := 34) ?hr ?_; (case hd => rfl); (case hg => rfl); (case hr => first | (go_simp; done) | (go_simp; rfl)); intro gb235 hg w3 hbox hb; have n0_ := Aside0.mk (below_step (by repeat (first | (with_reducible first | exact HB.out | apply below_alloc | apply pw_below_drewN | apply below_drew1) | exact HB.out)) hb); have n1_ := Aside0.mk (hbox); have n2_ := Aside0.mk ((by rw [hg]; exact (below_size (by repeat (first | (with_reducible first | exact HB.out | apply below_alloc | apply pw_below_drewN | apply below_drew1) | exact HB.out))) : w.heap.size ≤ gb235)); have n3_ := Aside0.mk ((by rw [hg]; exact (below_size (by repeat (first | (with_reducible first | exact HB.out | apply below_alloc | apply pw_below_drewN | apply below_drew1) | exact HB.out))) : w.heap.size ≤ gb235)); clear HB; have HB := n0_; have BK235 := n1_; have GW235 := n2_; have GE235 := n3_; clear n0_ n1_ n2_ n3_; clear hb hbox hg))
 go_loopg [5, 6] k (fun kq v5 v6 w' => ∃ (x5_1 : List (S34)) (x6_1 : Int), v6 = .int .i64 x6_1 ∧ Aside0 (graftwoodref05_With.l0 kq l0 x5_1 x6_1 a1_0 a1_1 = some r) ∧ Aside0 (kq ≤ k) ∧ Aside0 (Kd.R k34 34 w' w.heap.size (fun k_ => k_ ≠ gb235) v5 x5_1) ∧ Aside0 (w'.heap[gb235]? = some (.cells #[.string a1_0, .string a1_1] 34 (0, 0))) ∧ Aside0 (Below w.heap.size w w'))
 case atStart => exact ⟨(([] : List (S34))), (0), (by first | rfl | (simp; done) | (simp [*]; done)), H', ⟨Nat.le_refl _⟩, ⟨by first | exact Kd.R_nil _ _ _ _ _ | exact Kd.N_nil _ _ _ _ _ | exact Kd.V_nil _ _ _ _ _ | exact Kd.Q_nil _ _ _ _ _ | exact Kd.S_nil _ _ _ _ _⟩, ⟨by (with_reducible repeat (first | refine blk_drewN ?_ _ | refine blk_drew ?_ | refine blk_alloc ?_ _)); exact BK235.out⟩, ⟨by repeat (first | (with_reducible first | exact HB.out | apply below_alloc | apply pw_below_drewN | apply below_drew1 | refine below_set ?_ GE235.out) | exact HB.out)⟩⟩
 case round =>
  clear H'
  try clear p2
  obtain ⟨x5_1, x6_1, rfl, HA, HK1, HO_5, BK235, HB⟩ := hrel
  cases gk with
  | zero => exact absurd HA.out (by simp [graftwoodref05_With.l0])
  | succ k1 =>
   have H := HA.out
   clear HA
   simp only [graftwoodref05_With.l0] at H
   by_cases c4 : x6_1 < (l0.length : Int)
   ·rw [if_pos c4] at H
    have c4b0 : decide (x6_1 < (l0.length : Int)) = true := decide_eq_true c4
    clear c4
    by_cases c5 : 0 ≤ x6_1
    ·rw [if_pos c5] at H
     have c5b0 : decide (0 ≤ x6_1) = true := decide_eq_true c5
     clear c5
     replace H := Option.bind_eq_some_iff.mp H
     obtain ⟨t237, A60, H⟩ := H
     replace H : (if t237 = true then (if x5_1.length < 4398046511104 then (graftwoodref05_With.l0 k1 l0 (x5_1 ++ [(⟨(rd_T34 l0 x6_1).f0, (rd_T34 l0 x6_1).f1⟩ : S34)]) (wrap64 (x6_1 + 1)) a1_0 a1_1) else (none)) else (graftwoodref05_With.l0 k1 l0 x5_1 (wrap64 (x6_1 + 1)) a1_0 a1_1)) = some r := H
     have A6 := Aside0.mk A60
     clear A60
     by_cases c7 : t237 = true
     ·subst c7
      have H1 : (if x5_1.length < 4398046511104 then (graftwoodref05_With.l0 k1 l0 (x5_1 ++ [(⟨(rd_T34 l0 x6_1).f0, (rd_T34 l0 x6_1).f1⟩ : S34)]) (wrap64 (x6_1 + 1)) a1_0 a1_1) else (none)) = some r := by rw [if_pos rfl] at H; exact H
      clear H
      have H := H1
      clear H1
      by_cases c8 : x5_1.length < 4398046511104
      ·rw [if_pos c8] at H
       have LMc8 := Aside0.mk c8
       clear c8
       obtain ⟨y239, hy239⟩ : ∃ y_ : List (S34), y_ = (x5_1 ++ [(⟨(rd_T34 l0 x6_1).f0, (rd_T34 l0 x6_1).f1⟩ : S34)]) := ⟨_, rfl⟩
       replace H : (graftwoodref05_With.l0 k1 l0 y239 (wrap64 (x6_1 + 1)) a1_0 a1_1) = some r := by first | (rw [hy239]; with_reducible exact H) | (have H2_ := (Option.bind_some _ _).symm.trans H; rw [hy239]; with_reducible exact H2_) | (have H2_ := (Option.bind_some _ _).symm.trans H; with_reducible exact H2_) | with_reducible exact H | (rw [hy239]; exact H) | exact H
       have Ny239 := Aside0.mk hy239
       clear hy239
       have H' := Aside0.mk H
       clear H
       try go_wp2
       have n0_ := Aside0.mk (Kd.R_drew HO_5.out)
       have n1_ := Aside0.mk (blk_drew BK235.out)
       have n2_ := Aside0.mk (below_drew1 HB.out)
       clear HO_5 BK235 HB
       have HO_5 := n0_
       have BK235 := n1_
       have HB := n2_
       clear n0_ n1_ n2_
       have p236 : 0 ≤ (x6_1 : Int) := of_decide_eq_true (by first | (with_reducible assumption) | assumption)
       have q236 : x6_1 < (l0.length : Int) := of_decide_eq_true (by first | (with_reducible assumption) | assumption)
       obtain ⟨ad236, e236, hx236_0, hx236_1⟩ := at_T34 HR0.out x6_1 p236 q236
       have hw236_1 := hx236_1
       have hw236_0 := hx236_0
       cases e236
       replace hx236_0 := (HB.out.cell (World.block_lt_of_cell? w _ hx236_0)).trans hx236_0
       replace hx236_1 := (HB.out.cell (World.block_lt_of_cell? w _ hx236_1)).trans hx236_1
       replace p236 := eq_true p236
       replace q236 := eq_true q236
       refine start_ (n := 6) (S := fun w' => w'.cell? ⟨gb235, 0, none⟩ = some (.string a1_0) ∧ w'.cell? ⟨gb235, 1, none⟩ = some (.string a1_1) ∧ w'.cell? (ad236.add ((x6_1).toNat * 2)) = some (.string ((rd_T34 l0 x6_1).f0)) ∧ w'.cell? ⟨(ad236.add ((x6_1).toNat * 2)).block, (ad236.add ((x6_1).toNat * 2)).off + 1, none⟩ = some (.string ((rd_T34 l0 x6_1).f1))) (ds := []) #[false, false, false, false, false, false] (by kernel_rfl) rfl rfl ⟨(blk_cell BK235.out 0).trans rfl, (blk_cell BK235.out 1).trans rfl, ((HB.out.cell (World.block_lt_of_cell? w _ hw236_0)).trans hw236_0), ((HB.out.cell (World.block_lt_of_cell? w _ hw236_1)).trans hw236_1)⟩ (fun hHeld => ?_)
       generalize wr.drew = w9 at HO_5 BK235 HB hx236_0 hx236_1 hHeld ⊢
       refine pure_ (i := 0) (N := some 14) (v := ?_) (a' := ?_) #[true, false, false, false, false, false] rfl rfl (by kernel_rfl) (fun _ _ _ h => h) (Or.inl ⟨by rfl, ?_⟩) ?_ ?_
       rotate_left
       ·intro w'
        go_simp
        with_reducible rfl
       rotate_left
       ·simp only [Act.put, List.setIfInBounds_toArray, List.set_cons_zero, List.set_cons_succ, i64_w, i32_w]
        rfl
       refine pure_ (i := 1) (N := some 15) (v := ?_) (a' := ?_) #[true, true, false, false, false, false] rfl rfl (by kernel_rfl) (fun _ _ _ h => h) (Or.inl ⟨by rfl, ?_⟩) ?_ ?_
       rotate_left
       ·intro w'
        go_simp
        with_reducible rfl
       rotate_left
       ·simp only [Act.put, List.setIfInBounds_toArray, List.set_cons_zero, List.set_cons_succ, i64_w, i32_w]
        rfl
       refine pure_ (i := 2) (N := some 16) (v := ?_) (a' := ?_) #[true, true, true, false, false, false] rfl rfl (by kernel_rfl) (fun _ _ _ h => h) (Or.inl ⟨by rfl, ?_⟩) ?_ ?_
       rotate_left
       ·intro w'
        go_simp
        with_reducible rfl
       rotate_left
       ·simp only [Act.put, List.setIfInBounds_toArray, List.set_cons_zero, List.set_cons_succ, i64_w, i32_w]
        rfl
       refine take_ (i := 3) (N := some 17) (v := ?_) (a' := ?_) #[true, true, true, true, false, false] rfl rfl (by kernel_rfl) (fun _ _ _ h => h) (Or.inl ⟨by rfl, ?_⟩) hHeld ?_ ?_
       rotate_left
       ·rintro w' ⟨s0, s1, s2, s3⟩
        go_simp
        with_reducible rfl
       rotate_left
       ·simp only [Act.put, List.setIfInBounds_toArray, List.set_cons_zero, List.set_cons_succ, i64_w, i32_w]
        rfl
       refine take_ (i := 4) (N := some 18) (v := ?_) (a' := ?_) #[true, true, true, true, true, false] rfl rfl (by kernel_rfl) (fun _ _ _ h => h) (Or.inl ⟨by rfl, ?_⟩) hHeld ?_ ?_
       rotate_left
       ·rintro w' ⟨s0, s1, s2, s3⟩
        go_simp
        with_reducible rfl
       rotate_left
       ·simp only [Act.put, List.setIfInBounds_toArray, List.set_cons_zero, List.set_cons_succ, i64_w, i32_w]
        rfl
       refine one_ (i := 5) (N := some 19) #[true, true, true, true, true, true] rfl rfl (by kernel_rfl) (by decide) (fun K hK => ?_)
       refine goes_ Tryz.func53 (by kernel_rfl) rfl #[.agg #[.string ((rd_T34 l0 x6_1).f0), .string ((rd_T34 l0 x6_1).f1)], .agg #[.string a1_0, .string a1_1]] (by rfl) rfl rfl (by (try simp only [List.map_toArray, List.map_cons, List.map_nil]); first | done | rfl | (simp only [List.length_drop, List.length_take]; rfl)) ?_
       with_reducible refine (graftwoodref05_Less.calls k1 ((rd_T34 l0 x6_1).f0) ((rd_T34 l0 x6_1).f1) a1_0 a1_1 true _ A6.out).mono ?_
       rintro e w10 ⟨rfl, hb⟩
       refine ⟨_, rfl, ?_⟩
       have n0_ := Aside0.mk (Kd.R_below (by (with_reducible repeat (first | apply Kd.R_alloc | apply Kd.R_drewN | apply Kd.R_drew)); exact HO_5.out) hb)
       have n1_ := Aside0.mk (blk_below (g := gb235) (o := .cells #[.string a1_0, .string a1_1] 34 (0, 0)) (by (with_reducible repeat (first | refine blk_drewN ?_ _ | refine blk_drew ?_ | refine blk_alloc ?_ _)); exact BK235.out) hb)
       have n2_ := Aside0.mk (below_step (by repeat (first | (with_reducible first | exact HB.out | apply below_alloc | apply pw_below_drewN | apply below_drew1 | refine below_set ?_ GE235.out) | exact HB.out)) hb)
       clear HO_5 BK235 HB
       have HO_5 := n0_
       have BK235 := n1_
       have HB := n2_
       clear n0_ n1_ n2_
       (try clear hb)
       (try clear hb2)
       (try clear hk)
       (try clear hi)
       refine hK.out _ _ ⟨(blk_cell BK235.out 0).trans rfl, (blk_cell BK235.out 1).trans rfl, ((HB.out.cell (World.block_lt_of_cell? w _ hw236_0)).trans hw236_0), ((HB.out.cell (World.block_lt_of_cell? w _ hw236_1)).trans hw236_1)⟩ (fun hHeld => ?_)
       clear hK K
       refine nz_ 19 ?_
       refine done_ (by kernel_rfl) ?_
       have p238 : 0 ≤ (x6_1 : Int) := of_decide_eq_true (by first | (with_reducible assumption) | assumption)
       have q238 : x6_1 < (l0.length : Int) := of_decide_eq_true (by first | (with_reducible assumption) | assumption)
       obtain ⟨ad238, e238, hx238_0, hx238_1⟩ := at_T34 HR0.out x6_1 p238 q238
       obtain rfl : ad236 = ad238 := (by injection e238)
       replace hx238_0 := (HB.out.cell (World.block_lt_of_cell? w _ hx238_0)).trans hx238_0
       replace hx238_1 := (HB.out.cell (World.block_lt_of_cell? w _ hx238_1)).trans hx238_1
       replace p238 := eq_true p238
       replace q238 := eq_true q238
       try go_wp2_with (first | ((with_reducible refine gate_builtin (b := .append) (xs := #[.tmp 20, .tmp 25]) rfl ?_); at_builtin; refine Kd.R_append k34 (w0 := w) w.heap.size rfl (.tmp 20) (.tmp 25) 44 34 (.agg #[(.string ⟨#[]⟩), (.string ⟨#[]⟩)]) 32 rfl Tryz.underlying44 info34 rfl (by decide) (by omega) u5 x5_1 (⟨(rd_T34 l0 x6_1).f0, (rd_T34 l0 x6_1).f1⟩ : S34) [.string ((rd_T34 l0 x6_1).f0), .string ((rd_T34 l0 x6_1).f1)] (fun k_ => k_ ≠ gb235) (fun _ => False) rfl rfl ?aP (fun _ hk => hk.elim) ?aF ?aO ?aB ?aS ?aL ?_; (case aP => exact k34_mkM _ _ _ (⟨(rd_T34 l0 x6_1).f0, (rd_T34 l0 x6_1).f1⟩ : S34)); (case aB => exact (by repeat (first | (with_reducible first | exact HB.out | apply below_alloc | apply pw_below_drewN | apply below_drew1 | refine below_set ?_ GE235.out) | exact HB.out))); (case aF => exact (fun k_ hk => Kd.freshB (g := gb235) (o := .cells #[.string a1_0, .string a1_1] 34 (0, 0)) (by (with_reducible repeat (first | refine blk_drewN ?_ _ | refine blk_drew ?_ | refine blk_alloc ?_ _)); exact BK235.out) k_ hk)); (case aO => exact (by (with_reducible repeat (first | apply Kd.R_alloc | apply Kd.R_drewN | apply Kd.R_drew)); exact HO_5.out)); (case aS => exact (below_size (by repeat (first | (with_reducible first | exact HB.out | apply below_alloc | apply pw_below_drewN | apply below_drew1 | refine below_set ?_ GE235.out) | exact HB.out)))); (case aL => have := LMc8.out; omega); intro v240 w11 ho hb hg hat; rw [← Ny239.out] at ho; have n0_ := Aside0.mk (blk_grown (g := gb235) (o := .cells #[.string a1_0, .string a1_1] 34 (0, 0)) (by (with_reducible repeat (first | refine blk_drewN ?_ _ | refine blk_drew ?_ | refine blk_alloc ?_ _)); exact BK235.out) hg (Kd.R_away HO_5.out (fun _ hk => hk))); have n1_ := Aside0.mk (hb); have n2_ := Aside0.mk (ho); clear BK235; clear HB; clear HO_5; have BK235 := n0_; have HB := n1_; have HO241 := n2_; clear n0_ n1_ n2_; clear ho hb hg hat))
       go_roundg k1
       case measure => have := HK1.out; omega
       case rel => exact ⟨(y239), (wrap64 (x6_1 + 1)), (by first | rfl | (simp; done) | (simp [*]; done)), H', ⟨by have := HK1.out; omega⟩, ⟨by (with_reducible repeat (first | apply Kd.R_alloc | apply Kd.R_drewN | apply Kd.R_drew)); exact HO241.out⟩, ⟨by (with_reducible repeat (first | refine blk_drewN ?_ _ | refine blk_drew ?_ | refine blk_alloc ?_ _)); exact BK235.out⟩, ⟨by repeat (first | (with_reducible first | exact HB.out | apply below_alloc | apply pw_below_drewN | apply below_drew1 | refine below_set ?_ GE235.out) | exact HB.out)⟩⟩
      ·rw [if_neg c8] at H
       exact absurd H (by simp)
     ·replace c7 := Bool.eq_false_iff.mpr c7
      subst c7
      have H1 : (graftwoodref05_With.l0 k1 l0 x5_1 (wrap64 (x6_1 + 1)) a1_0 a1_1) = some r := by rw [if_neg (show ¬ (false = true) by decide)] at H; exact H
      clear H
      have H := H1
      clear H1
      have H' := Aside0.mk H
      clear H
      try go_wp2
      have n0_ := Aside0.mk (Kd.R_drew HO_5.out)
      have n1_ := Aside0.mk (blk_drew BK235.out)
      have n2_ := Aside0.mk (below_drew1 HB.out)
      clear HO_5 BK235 HB
      have HO_5 := n0_
      have BK235 := n1_
      have HB := n2_
      clear n0_ n1_ n2_
      have p236 : 0 ≤ (x6_1 : Int) := of_decide_eq_true (by first | (with_reducible assumption) | assumption)
      have q236 : x6_1 < (l0.length : Int) := of_decide_eq_true (by first | (with_reducible assumption) | assumption)
      obtain ⟨ad236, e236, hx236_0, hx236_1⟩ := at_T34 HR0.out x6_1 p236 q236
      have hw236_1 := hx236_1
      have hw236_0 := hx236_0
      cases e236
      replace hx236_0 := (HB.out.cell (World.block_lt_of_cell? w _ hx236_0)).trans hx236_0
      replace hx236_1 := (HB.out.cell (World.block_lt_of_cell? w _ hx236_1)).trans hx236_1
      replace p236 := eq_true p236
      replace q236 := eq_true q236
      refine start_ (n := 6) (S := fun w' => w'.cell? ⟨gb235, 0, none⟩ = some (.string a1_0) ∧ w'.cell? ⟨gb235, 1, none⟩ = some (.string a1_1) ∧ w'.cell? (ad236.add ((x6_1).toNat * 2)) = some (.string ((rd_T34 l0 x6_1).f0)) ∧ w'.cell? ⟨(ad236.add ((x6_1).toNat * 2)).block, (ad236.add ((x6_1).toNat * 2)).off + 1, none⟩ = some (.string ((rd_T34 l0 x6_1).f1))) (ds := []) #[false, false, false, false, false, false] (by kernel_rfl) rfl rfl ⟨(blk_cell BK235.out 0).trans rfl, (blk_cell BK235.out 1).trans rfl, ((HB.out.cell (World.block_lt_of_cell? w _ hw236_0)).trans hw236_0), ((HB.out.cell (World.block_lt_of_cell? w _ hw236_1)).trans hw236_1)⟩ (fun hHeld => ?_)
      generalize wr.drew = w12 at HO_5 BK235 HB hx236_0 hx236_1 hHeld ⊢
      refine pure_ (i := 0) (N := some 14) (v := ?_) (a' := ?_) #[true, false, false, false, false, false] rfl rfl (by kernel_rfl) (fun _ _ _ h => h) (Or.inl ⟨by rfl, ?_⟩) ?_ ?_
      rotate_left
      ·intro w'
       go_simp
       with_reducible rfl
      rotate_left
      ·simp only [Act.put, List.setIfInBounds_toArray, List.set_cons_zero, List.set_cons_succ, i64_w, i32_w]
       rfl
      refine pure_ (i := 1) (N := some 15) (v := ?_) (a' := ?_) #[true, true, false, false, false, false] rfl rfl (by kernel_rfl) (fun _ _ _ h => h) (Or.inl ⟨by rfl, ?_⟩) ?_ ?_
      rotate_left
      ·intro w'
       go_simp
       with_reducible rfl
      rotate_left
      ·simp only [Act.put, List.setIfInBounds_toArray, List.set_cons_zero, List.set_cons_succ, i64_w, i32_w]
       rfl
      refine pure_ (i := 2) (N := some 16) (v := ?_) (a' := ?_) #[true, true, true, false, false, false] rfl rfl (by kernel_rfl) (fun _ _ _ h => h) (Or.inl ⟨by rfl, ?_⟩) ?_ ?_
      rotate_left
      ·intro w'
       go_simp
       with_reducible rfl
      rotate_left
      ·simp only [Act.put, List.setIfInBounds_toArray, List.set_cons_zero, List.set_cons_succ, i64_w, i32_w]
       rfl
      refine take_ (i := 3) (N := some 17) (v := ?_) (a' := ?_) #[true, true, true, true, false, false] rfl rfl (by kernel_rfl) (fun _ _ _ h => h) (Or.inl ⟨by rfl, ?_⟩) hHeld ?_ ?_
      rotate_left
      ·rintro w' ⟨s0, s1, s2, s3⟩
       go_simp
       with_reducible rfl
      rotate_left
      ·simp only [Act.put, List.setIfInBounds_toArray, List.set_cons_zero, List.set_cons_succ, i64_w, i32_w]
       rfl
      refine take_ (i := 4) (N := some 18) (v := ?_) (a' := ?_) #[true, true, true, true, true, false] rfl rfl (by kernel_rfl) (fun _ _ _ h => h) (Or.inl ⟨by rfl, ?_⟩) hHeld ?_ ?_
      rotate_left
      ·rintro w' ⟨s0, s1, s2, s3⟩
       go_simp
       with_reducible rfl
      rotate_left
      ·simp only [Act.put, List.setIfInBounds_toArray, List.set_cons_zero, List.set_cons_succ, i64_w, i32_w]
       rfl
      refine one_ (i := 5) (N := some 19) #[true, true, true, true, true, true] rfl rfl (by kernel_rfl) (by decide) (fun K hK => ?_)
      refine goes_ Tryz.func53 (by kernel_rfl) rfl #[.agg #[.string ((rd_T34 l0 x6_1).f0), .string ((rd_T34 l0 x6_1).f1)], .agg #[.string a1_0, .string a1_1]] (by rfl) rfl rfl (by (try simp only [List.map_toArray, List.map_cons, List.map_nil]); first | done | rfl | (simp only [List.length_drop, List.length_take]; rfl)) ?_
      with_reducible refine (graftwoodref05_Less.calls k1 ((rd_T34 l0 x6_1).f0) ((rd_T34 l0 x6_1).f1) a1_0 a1_1 false _ A6.out).mono ?_
      rintro e w13 ⟨rfl, hb⟩
      refine ⟨_, rfl, ?_⟩
      have n0_ := Aside0.mk (Kd.R_below (by (with_reducible repeat (first | apply Kd.R_alloc | apply Kd.R_drewN | apply Kd.R_drew)); exact HO_5.out) hb)
      have n1_ := Aside0.mk (blk_below (g := gb235) (o := .cells #[.string a1_0, .string a1_1] 34 (0, 0)) (by (with_reducible repeat (first | refine blk_drewN ?_ _ | refine blk_drew ?_ | refine blk_alloc ?_ _)); exact BK235.out) hb)
      have n2_ := Aside0.mk (below_step (by repeat (first | (with_reducible first | exact HB.out | apply below_alloc | apply pw_below_drewN | apply below_drew1 | refine below_set ?_ GE235.out) | exact HB.out)) hb)
      clear HO_5 BK235 HB
      have HO_5 := n0_
      have BK235 := n1_
      have HB := n2_
      clear n0_ n1_ n2_
      (try clear hb)
      (try clear hb2)
      (try clear hk)
      (try clear hi)
      refine hK.out _ _ ⟨(blk_cell BK235.out 0).trans rfl, (blk_cell BK235.out 1).trans rfl, ((HB.out.cell (World.block_lt_of_cell? w _ hw236_0)).trans hw236_0), ((HB.out.cell (World.block_lt_of_cell? w _ hw236_1)).trans hw236_1)⟩ (fun hHeld => ?_)
      clear hK K
      refine nz_ 19 ?_
      refine done_ (by kernel_rfl) ?_
      try go_wp2
      go_roundg k1
      case measure => have := HK1.out; omega
      case rel => exact ⟨(x5_1), (wrap64 (x6_1 + 1)), (by first | rfl | (simp; done) | (simp [*]; done)), H', ⟨by have := HK1.out; omega⟩, ⟨by (with_reducible repeat (first | apply Kd.R_alloc | apply Kd.R_drewN | apply Kd.R_drew)); exact HO_5.out⟩, ⟨by (with_reducible repeat (first | refine blk_drewN ?_ _ | refine blk_drew ?_ | refine blk_alloc ?_ _)); exact BK235.out⟩, ⟨by repeat (first | (with_reducible first | exact HB.out | apply below_alloc | apply pw_below_drewN | apply below_drew1 | refine below_set ?_ GE235.out) | exact HB.out)⟩⟩
    ·rw [if_neg c5] at H
     exact absurd H (by simp)
   ·rw [if_neg c4] at H
    have c4b0 : decide (x6_1 < (l0.length : Int)) = false := decide_eq_false c4
    clear c4
    by_cases c14 : x5_1.length < 4398046511104
    ·rw [if_pos c14] at H
     have LMc14 := Aside0.mk c14
     clear c14
     obtain ⟨y242, hy242⟩ : ∃ y_ : List (S34), y_ = (x5_1 ++ [(⟨a1_0, a1_1⟩ : S34)]) := ⟨_, rfl⟩
     replace H : (graftwoodref05_With.l1 k1 l0 y242 0 a1_0 a1_1) = some r := by first | (rw [hy242]; with_reducible exact H) | (have H2_ := (Option.bind_some _ _).symm.trans H; rw [hy242]; with_reducible exact H2_) | (have H2_ := (Option.bind_some _ _).symm.trans H; with_reducible exact H2_) | with_reducible exact H | (rw [hy242]; exact H) | exact H
     have Ny242 := Aside0.mk hy242
     clear hy242
     have H' := Aside0.mk H
     clear H
     have hcz15_0 : wr.cell? ⟨gb235, 0, none⟩ = some (.string a1_0) := (blk_cell BK235.out 0).trans rfl
     have hcz15_1 : wr.cell? ⟨gb235, 1, none⟩ = some (.string a1_1) := (blk_cell BK235.out 1).trans rfl
     have hfz15_0 := blk_frozen BK235.out 0
     have hfz15_1 := blk_frozen BK235.out 1
     go_wp2_with (first | ((with_reducible refine gate_builtin (b := .append) (xs := #[.tmp 27, .tmp 29]) rfl ?_); at_builtin; refine Kd.R_append k34 (w0 := w) w.heap.size rfl (.tmp 27) (.tmp 29) 44 34 (.agg #[(.string ⟨#[]⟩), (.string ⟨#[]⟩)]) 32 rfl Tryz.underlying44 info34 rfl (by decide) (by omega) u5 x5_1 (⟨a1_0, a1_1⟩ : S34) [.string a1_0, .string a1_1] (fun k_ => k_ ≠ gb235) (fun _ => False) rfl rfl ?aP (fun _ hk => hk.elim) ?aF ?aO ?aB ?aS ?aL ?_; (case aP => exact k34_mkM _ _ _ (⟨a1_0, a1_1⟩ : S34)); (case aB => exact (by repeat (first | (with_reducible first | exact HB.out | apply below_alloc | apply pw_below_drewN | apply below_drew1 | refine below_set ?_ GE235.out) | exact HB.out))); (case aF => exact (fun k_ hk => Kd.freshB (g := gb235) (o := .cells #[.string a1_0, .string a1_1] 34 (0, 0)) (by (with_reducible repeat (first | refine blk_drewN ?_ _ | refine blk_drew ?_ | refine blk_alloc ?_ _)); exact BK235.out) k_ hk)); (case aO => exact (by (with_reducible repeat (first | apply Kd.R_alloc | apply Kd.R_drewN | apply Kd.R_drew)); exact HO_5.out)); (case aS => exact (below_size (by repeat (first | (with_reducible first | exact HB.out | apply below_alloc | apply pw_below_drewN | apply below_drew1 | refine below_set ?_ GE235.out) | exact HB.out)))); (case aL => have := LMc14.out; omega); intro v243 w16 ho hb hg hat; rw [← Ny242.out] at ho; have n0_ := Aside0.mk (blk_grown (g := gb235) (o := .cells #[.string a1_0, .string a1_1] 34 (0, 0)) (by (with_reducible repeat (first | refine blk_drewN ?_ _ | refine blk_drew ?_ | refine blk_alloc ?_ _)); exact BK235.out) hg (Kd.R_away HO_5.out (fun _ hk => hk))); have n1_ := Aside0.mk (hb); have n2_ := Aside0.mk (ho); clear BK235; clear HB; clear HO_5; have BK235 := n0_; have HB := n1_; have HO244 := n2_; clear n0_ n1_ n2_; clear ho hb hg hat))
     go_loopg [5, 7] k1 (fun kq v5 v7 w' => ∃ (x5_2 : List (S34)) (x7_2 : Int), v7 = .int .i64 x7_2 ∧ Aside0 (graftwoodref05_With.l1 kq l0 x5_2 x7_2 a1_0 a1_1 = some r) ∧ Aside0 (kq ≤ k1) ∧ Aside0 (Kd.R k34 34 w' w.heap.size (fun k_ => k_ ≠ gb235) v5 x5_2) ∧ Aside0 (w'.heap[gb235]? = some (.cells #[.string a1_0, .string a1_1] 34 (0, 0))) ∧ Aside0 (Below w.heap.size w w'))
     case atStart => exact ⟨(y242), (0), (by first | rfl | (simp; done) | (simp [*]; done)), H', ⟨Nat.le_refl _⟩, ⟨by (with_reducible repeat (first | apply Kd.R_alloc | apply Kd.R_drewN | apply Kd.R_drew)); exact HO244.out⟩, ⟨by (with_reducible repeat (first | refine blk_drewN ?_ _ | refine blk_drew ?_ | refine blk_alloc ?_ _)); exact BK235.out⟩, ⟨by repeat (first | (with_reducible first | exact HB.out | apply below_alloc | apply pw_below_drewN | apply below_drew1 | refine below_set ?_ GE235.out) | exact HB.out)⟩⟩
     case round =>
      clear H'
      try clear c1
      try clear p2
      try clear q2
      try clear hx2
      try clear c4
      try clear c4b0
      try clear c5
      try clear c5b0
      try clear p6
      try clear c7
      try clear c8
      try clear c14
      try clear hcz15_0
      try clear hcz15_1
      try clear hfz15_0
      try clear hfz15_1
      try clear hx236_0
      try clear hx236_1
      try clear hx238_0
      try clear hx238_1
      try clear p2
      try clear p236
      try clear p238
      try clear q236
      try clear q238
      obtain ⟨x5_2, x7_2, rfl, HA, HK2, HO_5, BK235, HB⟩ := hrel
      cases gk with
      | zero => exact absurd HA.out (by simp [graftwoodref05_With.l1])
      | succ k2 =>
       have H := HA.out
       clear HA
       simp only [graftwoodref05_With.l1] at H
       by_cases c17 : x7_2 < (l0.length : Int)
       ·rw [if_pos c17] at H
        have c17b0 : decide (x7_2 < (l0.length : Int)) = true := decide_eq_true c17
        clear c17
        by_cases c18 : 0 ≤ x7_2
        ·rw [if_pos c18] at H
         have c18b0 : decide (0 ≤ x7_2) = true := decide_eq_true c18
         clear c18
         replace H := Option.bind_eq_some_iff.mp H
         obtain ⟨t246, A190, H⟩ := H
         replace H : (if t246 = true then (if x5_2.length < 4398046511104 then (graftwoodref05_With.l1 k2 l0 (x5_2 ++ [(⟨(rd_T34 l0 x7_2).f0, (rd_T34 l0 x7_2).f1⟩ : S34)]) (wrap64 (x7_2 + 1)) a1_0 a1_1) else (none)) else (graftwoodref05_With.l1 k2 l0 x5_2 (wrap64 (x7_2 + 1)) a1_0 a1_1)) = some r := H
         have A19 := Aside0.mk A190
         clear A190
         by_cases c20 : t246 = true
         ·subst c20
          have H1 : (if x5_2.length < 4398046511104 then (graftwoodref05_With.l1 k2 l0 (x5_2 ++ [(⟨(rd_T34 l0 x7_2).f0, (rd_T34 l0 x7_2).f1⟩ : S34)]) (wrap64 (x7_2 + 1)) a1_0 a1_1) else (none)) = some r := by rw [if_pos rfl] at H; exact H
          clear H
          have H := H1
          clear H1
          by_cases c21 : x5_2.length < 4398046511104
          ·rw [if_pos c21] at H
           have LMc21 := Aside0.mk c21
           clear c21
           obtain ⟨y248, hy248⟩ : ∃ y_ : List (S34), y_ = (x5_2 ++ [(⟨(rd_T34 l0 x7_2).f0, (rd_T34 l0 x7_2).f1⟩ : S34)]) := ⟨_, rfl⟩
           replace H : (graftwoodref05_With.l1 k2 l0 y248 (wrap64 (x7_2 + 1)) a1_0 a1_1) = some r := by first | (rw [hy248]; with_reducible exact H) | (have H2_ := (Option.bind_some _ _).symm.trans H; rw [hy248]; with_reducible exact H2_) | (have H2_ := (Option.bind_some _ _).symm.trans H; with_reducible exact H2_) | with_reducible exact H | (rw [hy248]; exact H) | exact H
           have Ny248 := Aside0.mk hy248
           clear hy248
           have H' := Aside0.mk H
           clear H
           try go_wp2
           have n0_ := Aside0.mk (Kd.R_drew HO_5.out)
           have n1_ := Aside0.mk (blk_drew BK235.out)
           have n2_ := Aside0.mk (below_drew1 HB.out)
           clear HO_5 BK235 HB
           have HO_5 := n0_
           have BK235 := n1_
           have HB := n2_
           clear n0_ n1_ n2_
           have p245 : 0 ≤ (x7_2 : Int) := of_decide_eq_true (by first | (with_reducible assumption) | assumption)
           have q245 : x7_2 < (l0.length : Int) := of_decide_eq_true (by first | (with_reducible assumption) | assumption)
           obtain ⟨ad245, e245, hx245_0, hx245_1⟩ := at_T34 HR0.out x7_2 p245 q245
           have hw245_1 := hx245_1
           have hw245_0 := hx245_0
           cases e245
           replace hx245_0 := (HB.out.cell (World.block_lt_of_cell? w _ hx245_0)).trans hx245_0
           replace hx245_1 := (HB.out.cell (World.block_lt_of_cell? w _ hx245_1)).trans hx245_1
           replace p245 := eq_true p245
           replace q245 := eq_true q245
           refine start_ (n := 6) (S := fun w' => w'.cell? ⟨gb235, 0, none⟩ = some (.string a1_0) ∧ w'.cell? ⟨gb235, 1, none⟩ = some (.string a1_1) ∧ w'.cell? (ad245.add ((x7_2).toNat * 2)) = some (.string ((rd_T34 l0 x7_2).f0)) ∧ w'.cell? ⟨(ad245.add ((x7_2).toNat * 2)).block, (ad245.add ((x7_2).toNat * 2)).off + 1, none⟩ = some (.string ((rd_T34 l0 x7_2).f1))) (ds := []) #[false, false, false, false, false, false] (by kernel_rfl) rfl rfl ⟨(blk_cell BK235.out 0).trans rfl, (blk_cell BK235.out 1).trans rfl, ((HB.out.cell (World.block_lt_of_cell? w _ hw245_0)).trans hw245_0), ((HB.out.cell (World.block_lt_of_cell? w _ hw245_1)).trans hw245_1)⟩ (fun hHeld => ?_)
           generalize wr.drew = w22 at HO_5 BK235 HB hx245_0 hx245_1 hHeld ⊢
           refine pure_ (i := 1) (N := some 38) (v := ?_) (a' := ?_) #[false, true, false, false, false, false] rfl rfl (by kernel_rfl) (fun _ _ _ h => h) (Or.inl ⟨by rfl, ?_⟩) ?_ ?_
           rotate_left
           ·intro w'
            go_simp
            with_reducible rfl
           rotate_left
           ·simp only [Act.put, List.setIfInBounds_toArray, List.set_cons_zero, List.set_cons_succ, i64_w, i32_w]
            rfl
           refine pure_ (i := 2) (N := some 39) (v := ?_) (a' := ?_) #[false, true, true, false, false, false] rfl rfl (by kernel_rfl) (fun _ _ _ h => h) (Or.inl ⟨by rfl, ?_⟩) ?_ ?_
           rotate_left
           ·intro w'
            go_simp
            with_reducible rfl
           rotate_left
           ·simp only [Act.put, List.setIfInBounds_toArray, List.set_cons_zero, List.set_cons_succ, i64_w, i32_w]
            rfl
           refine pure_ (i := 3) (N := some 40) (v := ?_) (a' := ?_) #[false, true, true, true, false, false] rfl rfl (by kernel_rfl) (fun _ _ _ h => h) (Or.inl ⟨by rfl, ?_⟩) ?_ ?_
           rotate_left
           ·intro w'
            go_simp
            with_reducible rfl
           rotate_left
           ·simp only [Act.put, List.setIfInBounds_toArray, List.set_cons_zero, List.set_cons_succ, i64_w, i32_w]
            rfl
           refine take_ (i := 0) (N := some 37) (v := ?_) (a' := ?_) #[true, true, true, true, false, false] rfl rfl (by kernel_rfl) (fun _ _ _ h => h) (Or.inl ⟨by rfl, ?_⟩) hHeld ?_ ?_
           rotate_left
           ·rintro w' ⟨s0, s1, s2, s3⟩
            go_simp
            with_reducible rfl
           rotate_left
           ·simp only [Act.put, List.setIfInBounds_toArray, List.set_cons_zero, List.set_cons_succ, i64_w, i32_w]
            rfl
           refine take_ (i := 4) (N := some 41) (v := ?_) (a' := ?_) #[true, true, true, true, true, false] rfl rfl (by kernel_rfl) (fun _ _ _ h => h) (Or.inl ⟨by rfl, ?_⟩) hHeld ?_ ?_
           rotate_left
           ·rintro w' ⟨s0, s1, s2, s3⟩
            go_simp
            with_reducible rfl
           rotate_left
           ·simp only [Act.put, List.setIfInBounds_toArray, List.set_cons_zero, List.set_cons_succ, i64_w, i32_w]
            rfl
           refine one_ (i := 5) (N := some 42) #[true, true, true, true, true, true] rfl rfl (by kernel_rfl) (by decide) (fun K hK => ?_)
           refine goes_ Tryz.func53 (by kernel_rfl) rfl #[.agg #[.string a1_0, .string a1_1], .agg #[.string ((rd_T34 l0 x7_2).f0), .string ((rd_T34 l0 x7_2).f1)]] (by rfl) rfl rfl (by (try simp only [List.map_toArray, List.map_cons, List.map_nil]); first | done | rfl | (simp only [List.length_drop, List.length_take]; rfl)) ?_
           with_reducible refine (graftwoodref05_Less.calls k2 a1_0 a1_1 ((rd_T34 l0 x7_2).f0) ((rd_T34 l0 x7_2).f1) true _ A19.out).mono ?_
           rintro e w23 ⟨rfl, hb⟩
           refine ⟨_, rfl, ?_⟩
           have n0_ := Aside0.mk (Kd.R_below (by (with_reducible repeat (first | apply Kd.R_alloc | apply Kd.R_drewN | apply Kd.R_drew)); exact HO_5.out) hb)
           have n1_ := Aside0.mk (blk_below (g := gb235) (o := .cells #[.string a1_0, .string a1_1] 34 (0, 0)) (by (with_reducible repeat (first | refine blk_drewN ?_ _ | refine blk_drew ?_ | refine blk_alloc ?_ _)); exact BK235.out) hb)
           have n2_ := Aside0.mk (below_step (by repeat (first | (with_reducible first | exact HB.out | apply below_alloc | apply pw_below_drewN | apply below_drew1 | refine below_set ?_ GE235.out) | exact HB.out)) hb)
           clear HO_5 BK235 HB
           have HO_5 := n0_
           have BK235 := n1_
           have HB := n2_
           clear n0_ n1_ n2_
           (try clear hb)
           (try clear hb2)
           (try clear hk)
           (try clear hi)
           refine hK.out _ _ ⟨(blk_cell BK235.out 0).trans rfl, (blk_cell BK235.out 1).trans rfl, ((HB.out.cell (World.block_lt_of_cell? w _ hw245_0)).trans hw245_0), ((HB.out.cell (World.block_lt_of_cell? w _ hw245_1)).trans hw245_1)⟩ (fun hHeld => ?_)
           clear hK K
           refine nz_ 42 ?_
           refine done_ (by kernel_rfl) ?_
           have p247 : 0 ≤ (x7_2 : Int) := of_decide_eq_true (by first | (with_reducible assumption) | assumption)
           have q247 : x7_2 < (l0.length : Int) := of_decide_eq_true (by first | (with_reducible assumption) | assumption)
           obtain ⟨ad247, e247, hx247_0, hx247_1⟩ := at_T34 HR0.out x7_2 p247 q247
           obtain rfl : ad245 = ad247 := (by injection e247)
           replace hx247_0 := (HB.out.cell (World.block_lt_of_cell? w _ hx247_0)).trans hx247_0
           replace hx247_1 := (HB.out.cell (World.block_lt_of_cell? w _ hx247_1)).trans hx247_1
           replace p247 := eq_true p247
           replace q247 := eq_true q247
           try go_wp2_with (first | ((with_reducible refine gate_builtin (b := .append) (xs := #[.tmp 43, .tmp 48]) rfl ?_); at_builtin; refine Kd.R_append k34 (w0 := w) w.heap.size rfl (.tmp 43) (.tmp 48) 44 34 (.agg #[(.string ⟨#[]⟩), (.string ⟨#[]⟩)]) 32 rfl Tryz.underlying44 info34 rfl (by decide) (by omega) u5 x5_2 (⟨(rd_T34 l0 x7_2).f0, (rd_T34 l0 x7_2).f1⟩ : S34) [.string ((rd_T34 l0 x7_2).f0), .string ((rd_T34 l0 x7_2).f1)] (fun k_ => k_ ≠ gb235) (fun _ => False) rfl rfl ?aP (fun _ hk => hk.elim) ?aF ?aO ?aB ?aS ?aL ?_; (case aP => exact k34_mkM _ _ _ (⟨(rd_T34 l0 x7_2).f0, (rd_T34 l0 x7_2).f1⟩ : S34)); (case aB => exact (by repeat (first | (with_reducible first | exact HB.out | apply below_alloc | apply pw_below_drewN | apply below_drew1 | refine below_set ?_ GE235.out) | exact HB.out))); (case aF => exact (fun k_ hk => Kd.freshB (g := gb235) (o := .cells #[.string a1_0, .string a1_1] 34 (0, 0)) (by (with_reducible repeat (first | refine blk_drewN ?_ _ | refine blk_drew ?_ | refine blk_alloc ?_ _)); exact BK235.out) k_ hk)); (case aO => exact (by (with_reducible repeat (first | apply Kd.R_alloc | apply Kd.R_drewN | apply Kd.R_drew)); exact HO_5.out)); (case aS => exact (below_size (by repeat (first | (with_reducible first | exact HB.out | apply below_alloc | apply pw_below_drewN | apply below_drew1 | refine below_set ?_ GE235.out) | exact HB.out)))); (case aL => have := LMc21.out; omega); intro v249 w24 ho hb hg hat; rw [← Ny248.out] at ho; have n0_ := Aside0.mk (blk_grown (g := gb235) (o := .cells #[.string a1_0, .string a1_1] 34 (0, 0)) (by (with_reducible repeat (first | refine blk_drewN ?_ _ | refine blk_drew ?_ | refine blk_alloc ?_ _)); exact BK235.out) hg (Kd.R_away HO_5.out (fun _ hk => hk))); have n1_ := Aside0.mk (hb); have n2_ := Aside0.mk (ho); clear BK235; clear HB; clear HO_5; have BK235 := n0_; have HB := n1_; have HO250 := n2_; clear n0_ n1_ n2_; clear ho hb hg hat))
           go_roundg k2
           case measure => have := HK1.out; have := HK2.out; omega
           case rel => exact ⟨(y248), (wrap64 (x7_2 + 1)), (by first | rfl | (simp; done) | (simp [*]; done)), H', ⟨by have := HK1.out; have := HK2.out; omega⟩, ⟨by (with_reducible repeat (first | apply Kd.R_alloc | apply Kd.R_drewN | apply Kd.R_drew)); exact HO250.out⟩, ⟨by (with_reducible repeat (first | refine blk_drewN ?_ _ | refine blk_drew ?_ | refine blk_alloc ?_ _)); exact BK235.out⟩, ⟨by repeat (first | (with_reducible first | exact HB.out | apply below_alloc | apply pw_below_drewN | apply below_drew1 | refine below_set ?_ GE235.out) | exact HB.out)⟩⟩
          ·rw [if_neg c21] at H
           exact absurd H (by simp)
         ·replace c20 := Bool.eq_false_iff.mpr c20
          subst c20
          have H1 : (graftwoodref05_With.l1 k2 l0 x5_2 (wrap64 (x7_2 + 1)) a1_0 a1_1) = some r := by rw [if_neg (show ¬ (false = true) by decide)] at H; exact H
          clear H
          have H := H1
          clear H1
          have H' := Aside0.mk H
          clear H
          try go_wp2
          have n0_ := Aside0.mk (Kd.R_drew HO_5.out)
          have n1_ := Aside0.mk (blk_drew BK235.out)
          have n2_ := Aside0.mk (below_drew1 HB.out)
          clear HO_5 BK235 HB
          have HO_5 := n0_
          have BK235 := n1_
          have HB := n2_
          clear n0_ n1_ n2_
          have p245 : 0 ≤ (x7_2 : Int) := of_decide_eq_true (by first | (with_reducible assumption) | assumption)
          have q245 : x7_2 < (l0.length : Int) := of_decide_eq_true (by first | (with_reducible assumption) | assumption)
          obtain ⟨ad245, e245, hx245_0, hx245_1⟩ := at_T34 HR0.out x7_2 p245 q245
          have hw245_1 := hx245_1
          have hw245_0 := hx245_0
          cases e245
          replace hx245_0 := (HB.out.cell (World.block_lt_of_cell? w _ hx245_0)).trans hx245_0
          replace hx245_1 := (HB.out.cell (World.block_lt_of_cell? w _ hx245_1)).trans hx245_1
          replace p245 := eq_true p245
          replace q245 := eq_true q245
          refine start_ (n := 6) (S := fun w' => w'.cell? ⟨gb235, 0, none⟩ = some (.string a1_0) ∧ w'.cell? ⟨gb235, 1, none⟩ = some (.string a1_1) ∧ w'.cell? (ad245.add ((x7_2).toNat * 2)) = some (.string ((rd_T34 l0 x7_2).f0)) ∧ w'.cell? ⟨(ad245.add ((x7_2).toNat * 2)).block, (ad245.add ((x7_2).toNat * 2)).off + 1, none⟩ = some (.string ((rd_T34 l0 x7_2).f1))) (ds := []) #[false, false, false, false, false, false] (by kernel_rfl) rfl rfl ⟨(blk_cell BK235.out 0).trans rfl, (blk_cell BK235.out 1).trans rfl, ((HB.out.cell (World.block_lt_of_cell? w _ hw245_0)).trans hw245_0), ((HB.out.cell (World.block_lt_of_cell? w _ hw245_1)).trans hw245_1)⟩ (fun hHeld => ?_)
          generalize wr.drew = w25 at HO_5 BK235 HB hx245_0 hx245_1 hHeld ⊢
          refine pure_ (i := 1) (N := some 38) (v := ?_) (a' := ?_) #[false, true, false, false, false, false] rfl rfl (by kernel_rfl) (fun _ _ _ h => h) (Or.inl ⟨by rfl, ?_⟩) ?_ ?_
          rotate_left
          ·intro w'
           go_simp
           with_reducible rfl
          rotate_left
          ·simp only [Act.put, List.setIfInBounds_toArray, List.set_cons_zero, List.set_cons_succ, i64_w, i32_w]
           rfl
          refine pure_ (i := 2) (N := some 39) (v := ?_) (a' := ?_) #[false, true, true, false, false, false] rfl rfl (by kernel_rfl) (fun _ _ _ h => h) (Or.inl ⟨by rfl, ?_⟩) ?_ ?_
          rotate_left
          ·intro w'
           go_simp
           with_reducible rfl
          rotate_left
          ·simp only [Act.put, List.setIfInBounds_toArray, List.set_cons_zero, List.set_cons_succ, i64_w, i32_w]
           rfl
          refine pure_ (i := 3) (N := some 40) (v := ?_) (a' := ?_) #[false, true, true, true, false, false] rfl rfl (by kernel_rfl) (fun _ _ _ h => h) (Or.inl ⟨by rfl, ?_⟩) ?_ ?_
          rotate_left
          ·intro w'
           go_simp
           with_reducible rfl
          rotate_left
          ·simp only [Act.put, List.setIfInBounds_toArray, List.set_cons_zero, List.set_cons_succ, i64_w, i32_w]
           rfl
          refine take_ (i := 0) (N := some 37) (v := ?_) (a' := ?_) #[true, true, true, true, false, false] rfl rfl (by kernel_rfl) (fun _ _ _ h => h) (Or.inl ⟨by rfl, ?_⟩) hHeld ?_ ?_
          rotate_left
          ·rintro w' ⟨s0, s1, s2, s3⟩
           go_simp
           with_reducible rfl
          rotate_left
          ·simp only [Act.put, List.setIfInBounds_toArray, List.set_cons_zero, List.set_cons_succ, i64_w, i32_w]
           rfl
          refine take_ (i := 4) (N := some 41) (v := ?_) (a' := ?_) #[true, true, true, true, true, false] rfl rfl (by kernel_rfl) (fun _ _ _ h => h) (Or.inl ⟨by rfl, ?_⟩) hHeld ?_ ?_
          rotate_left
          ·rintro w' ⟨s0, s1, s2, s3⟩
           go_simp
           with_reducible rfl
          rotate_left
          ·simp only [Act.put, List.setIfInBounds_toArray, List.set_cons_zero, List.set_cons_succ, i64_w, i32_w]
           rfl
          refine one_ (i := 5) (N := some 42) #[true, true, true, true, true, true] rfl rfl (by kernel_rfl) (by decide) (fun K hK => ?_)
          refine goes_ Tryz.func53 (by kernel_rfl) rfl #[.agg #[.string a1_0, .string a1_1], .agg #[.string ((rd_T34 l0 x7_2).f0), .string ((rd_T34 l0 x7_2).f1)]] (by rfl) rfl rfl (by (try simp only [List.map_toArray, List.map_cons, List.map_nil]); first | done | rfl | (simp only [List.length_drop, List.length_take]; rfl)) ?_
          with_reducible refine (graftwoodref05_Less.calls k2 a1_0 a1_1 ((rd_T34 l0 x7_2).f0) ((rd_T34 l0 x7_2).f1) false _ A19.out).mono ?_
          rintro e w26 ⟨rfl, hb⟩
          refine ⟨_, rfl, ?_⟩
          have n0_ := Aside0.mk (Kd.R_below (by (with_reducible repeat (first | apply Kd.R_alloc | apply Kd.R_drewN | apply Kd.R_drew)); exact HO_5.out) hb)
          have n1_ := Aside0.mk (blk_below (g := gb235) (o := .cells #[.string a1_0, .string a1_1] 34 (0, 0)) (by (with_reducible repeat (first | refine blk_drewN ?_ _ | refine blk_drew ?_ | refine blk_alloc ?_ _)); exact BK235.out) hb)
          have n2_ := Aside0.mk (below_step (by repeat (first | (with_reducible first | exact HB.out | apply below_alloc | apply pw_below_drewN | apply below_drew1 | refine below_set ?_ GE235.out) | exact HB.out)) hb)
          clear HO_5 BK235 HB
          have HO_5 := n0_
          have BK235 := n1_
          have HB := n2_
          clear n0_ n1_ n2_
          (try clear hb)
          (try clear hb2)
          (try clear hk)
          (try clear hi)
          refine hK.out _ _ ⟨(blk_cell BK235.out 0).trans rfl, (blk_cell BK235.out 1).trans rfl, ((HB.out.cell (World.block_lt_of_cell? w _ hw245_0)).trans hw245_0), ((HB.out.cell (World.block_lt_of_cell? w _ hw245_1)).trans hw245_1)⟩ (fun hHeld => ?_)
          clear hK K
          refine nz_ 42 ?_
          refine done_ (by kernel_rfl) ?_
          try go_wp2
          go_roundg k2
          case measure => have := HK1.out; have := HK2.out; omega
          case rel => exact ⟨(x5_2), (wrap64 (x7_2 + 1)), (by first | rfl | (simp; done) | (simp [*]; done)), H', ⟨by have := HK1.out; have := HK2.out; omega⟩, ⟨by (with_reducible repeat (first | apply Kd.R_alloc | apply Kd.R_drewN | apply Kd.R_drew)); exact HO_5.out⟩, ⟨by (with_reducible repeat (first | refine blk_drewN ?_ _ | refine blk_drew ?_ | refine blk_alloc ?_ _)); exact BK235.out⟩, ⟨by repeat (first | (with_reducible first | exact HB.out | apply below_alloc | apply pw_below_drewN | apply below_drew1 | refine below_set ?_ GE235.out) | exact HB.out)⟩⟩
        ·rw [if_neg c18] at H
         exact absurd H (by simp)
       ·rw [if_neg c17] at H
        have c17b0 : decide (x7_2 < (l0.length : Int)) = false := decide_eq_false c17
        clear c17
        obtain rfl := Option.some.inj H
        go_wp2
        go_ret
        exact ⟨_, by first | rfl | (simp [errW_none, errW_some] <;> rfl) | (simp [*, errW_none, errW_some] <;> rfl), by (with_reducible repeat (first | apply Kd.R_alloc | apply Kd.R_drewN | apply Kd.R_drew)); exact Kd.R_mono HO_5.out (fun _ hk => trivial), by repeat (first | (with_reducible first | exact HB.out | apply below_alloc | apply pw_below_drewN | apply below_drew1 | refine below_set ?_ GE235.out) | exact HB.out)⟩
    ·rw [if_neg c14] at H
     exact absurd H (by simp)
def graftwoodref05_Set.l0 : Nat → List (S34) → List (S34) → Int → Option ((List (S34)))
 | 0, _, _, _ => none
 | k + 1, x0, x3, x4 => if x4 < (x0.length : Int) then (if 0 ≤ x4 then ((graftwoodref05_With.f k x3 ((rd_T34 x0 x4).f0) ((rd_T34 x0 x4).f1)).bind fun t252 => (graftwoodref05_Set.l0 k x0 t252 (wrap64 (x4 + 1)))) else (none)) else (some x3)
def graftwoodref05_Set.f (k : Nat) (l0 : List (S34)) : Option ((List (S34))) := graftwoodref05_Set.l0 k l0 ([] : List (S34)) 0
set_option maxHeartbeats 8000000 in
set_option maxRecDepth 100000 in
theorem graftwoodref05_Set.calls (k : Nat) (A0 : Option Addr) (c0 : Nat) (l0 : List (S34)) (r : List (S34)) (w : World) (hr0 : Kd.C k34 w A0 l0.length l0) (hc0 : l0.length ≤ c0) (h : graftwoodref05_Set.f k l0 = some r) :
  Calls Tryz.prog 57 #[.slice A0 l0.length c0] w fun e w' => ∃ v0_ : Value, e = .returned (v0_) ∧ Kd.R k34 34 w' w.heap.size (fun _ => True) v0_ r ∧ Below w.heap.size w w' := by
 have hu34 := Tryz.underlying34
 have HR0 := Aside0.mk hr0
 have HC0 := Aside0.mk hc0
 clear hr0 hc0
 have HB := Aside0.mk (Below.refl w.heap.size w)
 have H : (graftwoodref05_Set.l0 k l0 ([] : List (S34)) 0) = some r := h
 clear h
 have H' := Aside0.mk H
 clear H
 go_enter Tryz.func57, Tryz.ntmps57
 go_wp2
 go_loopg [3, 4] k (fun kq v3 v4 w' => ∃ (x3_1 : List (S34)) (x4_1 : Int), v4 = .int .i64 x4_1 ∧ Aside0 (graftwoodref05_Set.l0 kq l0 x3_1 x4_1 = some r) ∧ Aside0 (kq ≤ k) ∧ Aside0 (Kd.R k34 34 w' w.heap.size (fun _ => True) v3 x3_1) ∧ Aside0 (Below w.heap.size w w'))
 case atStart => exact ⟨(([] : List (S34))), (0), (by first | rfl | (simp; done) | (simp [*]; done)), H', ⟨Nat.le_refl _⟩, ⟨by first | exact Kd.R_nil _ _ _ _ _ | exact Kd.N_nil _ _ _ _ _ | exact Kd.V_nil _ _ _ _ _ | exact Kd.Q_nil _ _ _ _ _ | exact Kd.S_nil _ _ _ _ _⟩, ⟨by repeat (first | (with_reducible first | exact HB.out | apply below_alloc | apply pw_below_drewN | apply below_drew1) | exact HB.out)⟩⟩
 case round =>
  clear H'
  obtain ⟨x3_1, x4_1, rfl, HA, HK1, HO_3, HB⟩ := hrel
  cases gk with
  | zero => exact absurd HA.out (by simp [graftwoodref05_Set.l0])
  | succ k1 =>
   have H := HA.out
   clear HA
   simp only [graftwoodref05_Set.l0] at H
   by_cases c2 : x4_1 < (l0.length : Int)
   ·rw [if_pos c2] at H
    have c2b0 : decide (x4_1 < (l0.length : Int)) = true := decide_eq_true c2
    clear c2
    by_cases c3 : 0 ≤ x4_1
    ·rw [if_pos c3] at H
     have c3b0 : decide (0 ≤ x4_1) = true := decide_eq_true c3
     clear c3
     replace H := Option.bind_eq_some_iff.mp H
     obtain ⟨t252, A40, H⟩ := H
     replace H : (graftwoodref05_Set.l0 k1 l0 t252 (wrap64 (x4_1 + 1))) = some r := H
     have A4 := Aside0.mk A40
     clear A40
     have H' := Aside0.mk H
     clear H
     have p251 : 0 ≤ (x4_1 : Int) := of_decide_eq_true (by first | (with_reducible assumption) | assumption)
     have q251 : x4_1 < (l0.length : Int) := of_decide_eq_true (by first | (with_reducible assumption) | assumption)
     obtain ⟨ad251, e251, hx251_0, hx251_1⟩ := at_T34 HR0.out x4_1 p251 q251
     cases e251
     replace hx251_0 := (HB.out.cell (World.block_lt_of_cell? w _ hx251_0)).trans hx251_0
     replace hx251_1 := (HB.out.cell (World.block_lt_of_cell? w _ hx251_1)).trans hx251_1
     replace p251 := eq_true p251
     replace q251 := eq_true q251
     obtain ⟨Ao5, co5, eo5⟩ := Kd.R_slice HO_3.out
     subst eo5
     go_wp2_with (first | ((with_reducible refine gate_callee (f := 73) rfl ?_); refine goesL_ (some 16) rfl rfl Tryz.func73 (by kernel_rfl) rfl #[.slice Ao5 x3_1.length co5, .agg #[.string ((rd_T34 l0 x4_1).f0), .string ((rd_T34 l0 x4_1).f1)]] rfl (by (try simp only [List.map_toArray, List.map_cons, List.map_nil]); first | done | rfl | (simp only [List.length_drop, List.length_take]; rfl)) ?_; (with_reducible refine (graftwoodref05_With.calls k1 _ _ x3_1 ((rd_T34 l0 x4_1).f0) ((rd_T34 l0 x4_1).f1) t252 _ ?side1 ?side2 A4.out).mono ?_); (case side1 => repeat (first | exact (Kd.R_reads' HO_3.out).2.2 | (with_reducible refine Kd.C_alloc ?_ _) | (with_reducible refine Kd.C_drewN ?_ _) | (with_reducible refine Kd.C_drew ?_))); (case side2 => exact (Kd.R_reads' HO_3.out).2.1); rintro e w6 ⟨v253, rfl, ho0, hb⟩; refine ⟨_, rfl, ?_⟩; have n0_ := Aside0.mk (Kd.R_elder' (by (with_reducible repeat (first | apply Kd.R_alloc | apply Kd.R_drewN | apply Kd.R_drew)); exact HO_3.out) (Kd.R_base ho0) hb); have n1_ := Aside0.mk (Kd.R_lower (Kd.R_new' ho0 (Kd.R_lt (by (with_reducible repeat (first | apply Kd.R_alloc | apply Kd.R_drewN | apply Kd.R_drew)); exact HO_3.out))) (below_size (by repeat (first | (with_reducible first | exact HB.out | apply below_alloc | apply pw_below_drewN | apply below_drew1) | exact HB.out)))); have n2_ := Aside0.mk (below_step (by repeat (first | (with_reducible first | exact HB.out | apply below_alloc | apply pw_below_drewN | apply below_drew1) | exact HB.out)) hb); clear HO_3; clear HB; have HO_3 := n0_; have HO254 := n1_; have HB := n2_; clear n0_ n1_ n2_; (try clear hb); (try clear hb2); (try clear hk); (try clear hi); (try clear ho0)))
     go_roundg k1
     case measure => have := HK1.out; omega
     case rel => exact ⟨(t252), (wrap64 (x4_1 + 1)), (by first | rfl | (simp; done) | (simp [*]; done)), H', ⟨by have := HK1.out; omega⟩, ⟨by (with_reducible repeat (first | apply Kd.R_alloc | apply Kd.R_drewN | apply Kd.R_drew)); exact Kd.R_mono HO254.out (fun _ hk => trivial)⟩, ⟨by repeat (first | (with_reducible first | exact HB.out | apply below_alloc | apply pw_below_drewN | apply below_drew1) | exact HB.out)⟩⟩
    ·rw [if_neg c3] at H
     exact absurd H (by simp)
   ·rw [if_neg c2] at H
    have c2b0 : decide (x4_1 < (l0.length : Int)) = false := decide_eq_false c2
    clear c2
    obtain rfl := Option.some.inj H
    go_wp2
    go_ret
    exact ⟨_, by first | rfl | (simp [errW_none, errW_some] <;> rfl) | (simp [*, errW_none, errW_some] <;> rfl), by (with_reducible repeat (first | apply Kd.R_alloc | apply Kd.R_drewN | apply Kd.R_drew)); exact HO_3.out, by repeat (first | (with_reducible first | exact HB.out | apply below_alloc | apply pw_below_drewN | apply below_drew1) | exact HB.out)⟩
end Go.Proofs.YtohdmmafjpjmfaaGreatDoor.Q
end
section
namespace Go.Proofs.YtohdmmafjpjmfaaGreatDoor.Q
open Go.RowKit Go.Proofs.YtohdmmafjpjmfaaGreatDoorW.PrintWords Go.Proofs.YtohdmmafjpjmfaaGreatDoorW.PrintLast Go.Proofs.YtohdmmafjpjmfaaGreatDoorW.PrintMore
attribute [local go_sem] max2_int min2_int max_two min_two max_three min_three max_four min_four   -- for this text's walks alone
set_option linter.unusedVariables false
set_option linter.unusedSimpArgs false
attribute [local go_sem high] eqA34
mutual
def graftwoodref13_Both.l0 : Nat → List (S48) → List (S48) → List (S34) → Int → Option ((List (S48)))
 | 0, _, _, _, _ => none
 | k + 1, x0, x1, x5, x6 => if x6 < (x0.length : Int) then (if 0 ≤ x6 then (if x5.length < 4398046511104 then (graftwoodref13_Both.l0 k x0 x1 (x5 ++ [(⟨(rd_T48 x0 x6).f0.f0, (rd_T48 x0 x6).f0.f1⟩ : S34)]) (wrap64 (x6 + 1))) else (none)) else (none)) else (graftwoodref13_Both.l1 k x0 x1 x5 0)
def graftwoodref13_Both.l1 : Nat → List (S48) → List (S48) → List (S34) → Int → Option ((List (S48)))
 | 0, _, _, _, _ => none
 | k + 1, x0, x1, x5, x7 => if x7 < (x1.length : Int) then (if 0 ≤ x7 then (if x5.length < 4398046511104 then (graftwoodref13_Both.l1 k x0 x1 (x5 ++ [(⟨(rd_T48 x1 x7).f0.f0, (rd_T48 x1 x7).f0.f1⟩ : S34)]) (wrap64 (x7 + 1))) else (none)) else (none)) else ((graftwoodref05_Set.f k x5).bind fun t266 => (graftwoodref13_Both.l2 k x0 x1 t266 ([] : List (S48)) 0))
def graftwoodref13_Both.l2 : Nat → List (S48) → List (S48) → List (S34) → List (S48) → Int → Option ((List (S48)))
 | 0, _, _, _, _, _ => none
 | k + 1, x0, x1, x5, x8, x9 => if x9 < (x5.length : Int) then (if 0 ≤ x9 then ((graftwoodref13_By.f k x0 ((rd_T34 x5 x9).f0) ((rd_T34 x5 x9).f1)).bind fun t270 => ((graftwoodref13_By.f k x1 ((rd_T34 x5 x9).f0) ((rd_T34 x5 x9).f1)).bind fun t272 => (if (wrap64 (t270 + t272)) = 0 then (graftwoodref13_Both.l2 k x0 x1 x5 x8 (wrap64 (x9 + 1))) else (if x8.length < 3518437208883 then (graftwoodref13_Both.l2 k x0 x1 x5 (x8 ++ [(⟨(⟨(rd_T34 x5 x9).f0, (rd_T34 x5 x9).f1⟩ : S34), wrap64 (t270 + t272)⟩ : S48)]) (wrap64 (x9 + 1))) else (none))))) else (none)) else (some x8)
end
end Go.Proofs.YtohdmmafjpjmfaaGreatDoor.Q
end
