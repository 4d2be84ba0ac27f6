/- Part 9 of this claim: several texts one behind the other: Fgraftwoodlaw13DiffOrder, SplitP, RVal, RMay5, LAll13, PureDOrder. What each shows stands in its theorems; conditions: sizes of texts and lists, as the functions' definitions say. -/
import Derived.Test.YtcfphieogalnbaaGreatDoorMDiffOrder0
import Derived.Test.YtcfphieogalnbaaGreatDoorMDiffOrder6
import Derived.Test.YtcfphieogalnbaaGreatDoorMDiffOrder8
import Derived.Test.YtcfphieogalnbaaGreatDoorMDiffOrder7
import Derived.Test.YtcfphieogalnbaaGreatDoorMDiffOrder2
import Derived.Test.YtcfphieogalnbaaGreatDoorMDiffOrder1
import Derived.Test.YtcfphieogalnbaaGreatDoorMDiffOrder5
section
namespace Go.Proofs.YtcfphieogalnbaaGreatDoor.Q
open Go.RowKit Go.Proofs.YtcfphieogalnbaaGreatDoorW.PrintWords Go.Proofs.YtcfphieogalnbaaGreatDoorW.PrintLast Go.Proofs.YtcfphieogalnbaaGreatDoorW.PrintMore
attribute [local go_sem] max2_int min2_int max_two min_two max_three min_three max_four min_four   -- for this text's walks alone
set_option linter.unusedVariables false
set_option linter.unusedSimpArgs false
attribute [local go_sem high] eqA35
/-! ### graftwoodlaw13_DiffOrder: function 3 -/
def graftwoodlaw13_DiffOrder.l0 : Nat → List (S24) → List (S24) → Int → ByteArray → ByteArray → Option (Bool)
 | 0, _, _, _, _, _ => none
 | k + 1, x0, x5, x6, x232000, x232001 => if x6 ≥ 0 then (if 0 ≤ x6 then (if x6 < (x0.length : Int) then (if x5.length < 4398046511104 then (graftwoodlaw13_DiffOrder.l0 k x0 (x5 ++ [(⟨(rd_T24 x0 x6).f0, (rd_T24 x0 x6).f1⟩ : S24)]) (wrap64 (x6 - 1)) x232000 x232001) else (none)) else (none)) else (none)) else ((diff_Diff.f x0 x5).bind fun bt241 => (if x5.length < 4398046511104 then ((diff_Diff.f x0 (x5 ++ [(⟨x232000, x232001⟩ : S24)])).bind fun bt248 => (if bt241.2 = 0 then (if bt248.2 = 0 then (if (bt241.1.length : Int) = 0 then (if (bt248.1.length : Int) = 1 then (if 0 < (bt248.1.length : Int) then (if (((((rd_T35 bt248.1 0).f0.f0).toList) == x232000.toList && ((((rd_T35 bt248.1 0).f0.f1).toList) == x232001.toList)) && (((rd_T35 bt248.1 0).f1) == 1)) = true then ((graftwoodlaw13_awake.f).bind fun t255 => (some t255)) else (some false)) else (none)) else (some false)) else (some false)) else ((graftwoodref05_May.f k x232000 x232001).bind fun t256 => (if t256 = true then (some false) else ((graftwoodlaw13_awake.f).bind fun t257 => (some t257))))) else ((graftwoodlaw13_all.f k x0).bind fun t252 => (if t252 = true then (some false) else ((graftwoodlaw13_awake.f).bind fun t253 => (some t253)))))) else (none)))
def graftwoodlaw13_DiffOrder.f (k : Nat) (l0 : List (S24)) (a1_0 : ByteArray) (a1_1 : ByteArray) : Option (Bool) := (graftwoodlaw05_Few.f k l0).bind fun t232 => ((graftwoodlaw05_One.f a1_0 a1_1).bind fun bt235 => (graftwoodlaw13_DiffOrder.l0 k t232 ([] : List (S24)) (wrap64 ((t232.length : Int) - 1)) bt235.1 bt235.2))
def graftwoodlaw13_DiffOrder.T13 : Bool × List (List Nat × List Nat) := (true, [([], []), ([0], [0]), ([1], [1]), ([2], [2]), ([3], [3]), ([4, 3], [3, 4]), ([5, 3], [3, 5]), ([3, 6], [3, 6]), ([7, 3], [7]), ([8], [8]), ([9, 8], [8, 9]), ([10, 8], [8, 10]), ([8], [8]), ([12, 8], [8, 12]), ([11, 13, 8], [8, 11, 13]), ([8, 14], [8, 14]), ([15, 8], [15]), ([16, 16], [16]), ([16, 17], [16, 17]), ([18, 17, 0, 1, 2, 3, 4, 5, 6, 7, 8, 9, 10, 11, 12, 13, 14, 15, 16, 17, 18], [18])])
def graftwoodlaw13_DiffOrder.B13 : List Nat := [0, 1, 3, 7, 15, 31, 63, 127, 255, 511, 1023, 2047, 511, 4607, 16383, 32767, 65535, 131071, 262143, 524287]
theorem graftwoodlaw13_DiffOrder.tab13 : rtab .any (opsOf Tryz.f3 13) = graftwoodlaw13_DiffOrder.T13 := by kernel_rfl
theorem graftwoodlaw13_DiffOrder.bits13 : waitsOk graftwoodlaw13_DiffOrder.T13.2 graftwoodlaw13_DiffOrder.B13 = true := by kernel_rfl
set_option maxHeartbeats 8000000 in
set_option maxRecDepth 100000 in
theorem graftwoodlaw13_DiffOrder.calls (k : Nat) (A0 : Option Addr) (c0 : Nat) (l0 : List (S24)) (a1_0 : ByteArray) (a1_1 : ByteArray) (r : Bool) (w : World) (hr0 : Kd.C k24 w A0 l0.length l0) (hc0 : l0.length ≤ c0) (h : graftwoodlaw13_DiffOrder.f k l0 a1_0 a1_1 = some r) (HR_ : Aside0 (r = true)) :
  Calls Tryz.prog 3 #[.slice A0 l0.length c0, .agg #[.string a1_0, .string a1_1]] w fun e w' => e = .returned (.bool r) ∧ Below w.heap.size w w' := by
 have hu24 := Tryz.underlying24
 have hu35 := Tryz.underlying35
 have HR0 := Aside0.mk hr0
 have HC0 := Aside0.mk hc0
 clear hr0 hc0
 have HB := Aside0.mk (Below.refl w.heap.size w)
 have H : ((graftwoodlaw05_Few.f k l0).bind fun t232 => ((graftwoodlaw05_One.f a1_0 a1_1).bind fun bt235 => (graftwoodlaw13_DiffOrder.l0 k t232 ([] : List (S24)) (wrap64 ((t232.length : Int) - 1)) bt235.1 bt235.2))) = some r := h
 clear h
 replace H := Option.bind_eq_some_iff.mp H
 obtain ⟨t232, A30, H⟩ := H
 replace H : ((graftwoodlaw05_One.f a1_0 a1_1).bind fun bt235 => (graftwoodlaw13_DiffOrder.l0 k t232 ([] : List (S24)) (wrap64 ((t232.length : Int) - 1)) bt235.1 bt235.2)) = some r := H
 have A3 := Aside0.mk A30
 clear A30
 replace H := Option.bind_eq_some_iff.mp H
 obtain ⟨⟨t235, t236⟩, A40, H⟩ := H
 replace H : (graftwoodlaw13_DiffOrder.l0 k t232 ([] : List (S24)) (wrap64 ((t232.length : Int) - 1)) t235 t236) = some r := H
 have A4 := Aside0.mk A40
 clear A40
 have H' := Aside0.mk H
 clear H
 go_enter Tryz.func3, Tryz.ntmps3
 try go_wp2_with (first | ((with_reducible refine gate_dst (N := 3) rfl ?_); (try (refine gate_guard (by rfl) ?_; dsimp only)); refine box_event ?hg (N := 3) ?hd (cs := #[.string a1_0, .string a1_1]) (t := 24) ?hr ?_; (case hd => rfl); (case hg => rfl); (case hr => first | (go_simp; done) | (go_simp; rfl)); intro gb231 hg w5 hbox hb; have n0_ := Aside0.mk (below_step (by repeat (first | (with_reducible first | exact HB.out | apply below_alloc | apply pw_below_drewN | apply below_drew1) | exact HB.out)) hb); have n1_ := Aside0.mk (hbox); have n2_ := Aside0.mk ((by rw [hg]; exact (below_size (by repeat (first | (with_reducible first | exact HB.out | apply below_alloc | apply pw_below_drewN | apply below_drew1) | exact HB.out))) : w.heap.size ≤ gb231)); have n3_ := Aside0.mk ((by rw [hg]; exact (below_size (by repeat (first | (with_reducible first | exact HB.out | apply below_alloc | apply pw_below_drewN | apply below_drew1) | exact HB.out))) : w.heap.size ≤ gb231)); clear HB; have HB := n0_; have BK231 := n1_; have GW231 := n2_; have GE231 := n3_; clear n0_ n1_ n2_ n3_; clear hb hbox hg))
 have n0_ := Aside0.mk (blk_drew BK231.out)
 have n1_ := Aside0.mk (below_drew1 HB.out)
 clear BK231 HB
 have BK231 := n0_
 have HB := n1_
 clear n0_ n1_
 refine start_ (n := 6) (S := fun w' => w'.cell? ⟨gb231, 0, none⟩ = some (.string a1_0) ∧ w'.cell? ⟨gb231, 1, none⟩ = some (.string a1_1)) (ds := [5]) #[false, false, false, false, false, false] (by kernel_rfl) rfl rfl ⟨(blk_cell BK231.out 0).trans rfl, (blk_cell BK231.out 1).trans rfl⟩ (fun hHeld => ?_)
 generalize w5.drew = w6 at BK231 HB hHeld ⊢
 refine pure_ (i := 0) (N := some 11) (v := ?_) (a' := ?_) #[true, false, false, false, false, false] rfl rfl (by kernel_rfl) (fun _ _ _ h => h) (Or.inl ⟨by rfl, ?_⟩) ?_ ?_
 rotate_left
 ·intro w'
  go_simp
  with_reducible rfl
 rotate_left
 ·simp only [Act.put, List.setIfInBounds_toArray, List.set_cons_zero, List.set_cons_succ, i64_w, i32_w]
  rfl
 refine take_ (i := 2) (N := some 13) (v := ?_) (a' := ?_) #[true, false, true, false, false, false] rfl rfl (by kernel_rfl) (fun _ _ _ h => h) (Or.inl ⟨by rfl, ?_⟩) hHeld ?_ ?_
 rotate_left
 ·rintro w' ⟨s0, s1⟩
  go_simp
  with_reducible rfl
 rotate_left
 ·simp only [Act.put, List.setIfInBounds_toArray, List.set_cons_zero, List.set_cons_succ, i64_w, i32_w]
  rfl
 refine one_ (i := 1) (N := some 12) #[true, true, true, false, false, false] rfl rfl (by kernel_rfl) (by decide) (fun K hK => ?_)
 refine goes_ Tryz.func7 (by kernel_rfl) rfl #[.slice A0 l0.length c0] (by rfl) rfl rfl (by (try simp only [List.map_toArray, List.map_cons, List.map_nil]); first | done | rfl | (simp only [List.length_drop, List.length_take]; rfl)) ?_
 with_reducible refine (graftwoodlaw05_Few.calls k _ _ l0 t232 _ ?side1 ?side2 A3.out).mono ?_
 (case side1 => repeat (first | exact (Kd.C_below HR0.out HB.out) | (with_reducible refine Kd.C_alloc ?_ _) | (with_reducible refine Kd.C_drewN ?_ _) | (with_reducible refine Kd.C_drew ?_)))
 (case side2 => exact HC0.out)
 rintro e w7 ⟨v233, rfl, ho0, hb⟩
 refine ⟨_, rfl, ?_⟩
 have n0_ := Aside0.mk (Kd.R_lower (Kd.R_newB ho0 (g := gb231) (o := .cells #[.string a1_0, .string a1_1] 24 (0, 0)) (by (with_reducible repeat (first | refine blk_drewN ?_ _ | refine blk_drew ?_ | refine blk_alloc ?_ _)); exact BK231.out)) (below_size (by repeat (first | (with_reducible first | exact HB.out | apply below_alloc | apply pw_below_drewN | apply below_drew1 | refine below_set ?_ GE231.out) | exact HB.out))))
 have n1_ := Aside0.mk (blk_below (g := gb231) (o := .cells #[.string a1_0, .string a1_1] 24 (0, 0)) (by (with_reducible repeat (first | refine blk_drewN ?_ _ | refine blk_drew ?_ | refine blk_alloc ?_ _)); exact BK231.out) hb)
 have n2_ := Aside0.mk (below_step (by repeat (first | (with_reducible first | exact HB.out | apply below_alloc | apply pw_below_drewN | apply below_drew1 | refine below_set ?_ GE231.out) | exact HB.out)) hb)
 clear BK231 HB
 have HO234 := n0_
 have BK231 := n1_
 have HB := n2_
 clear n0_ n1_ n2_
 (try clear hb)
 (try clear hb2)
 (try clear hk)
 (try clear hi)
 (try clear ho0)
 refine hK.out _ _ ⟨(blk_cell BK231.out 0).trans rfl, (blk_cell BK231.out 1).trans rfl⟩ (fun hHeld => ?_)
 clear hK K
 refine nz_ 12 ?_
 refine one_ (i := 3) (N := some 14) #[true, true, true, true, false, false] rfl rfl (by kernel_rfl) (by decide) (fun K hK => ?_)
 refine goes_ Tryz.func8 (by kernel_rfl) rfl #[.agg #[.string a1_0, .string a1_1]] (by rfl) rfl rfl (by (try simp only [List.map_toArray, List.map_cons, List.map_nil]); first | done | rfl | (simp only [List.length_drop, List.length_take]; rfl)) ?_
 with_reducible refine (graftwoodlaw05_One.calls a1_0 a1_1 t235 t236 _ A4.out).mono ?_
 rintro e w8 ⟨rfl, hb⟩
 refine ⟨_, rfl, ?_⟩
 have n0_ := Aside0.mk (Kd.R_below (by (with_reducible repeat (first | apply Kd.R_alloc | apply Kd.R_drewN | apply Kd.R_drew)); exact HO234.out) hb)
 have n1_ := Aside0.mk (blk_below (g := gb231) (o := .cells #[.string a1_0, .string a1_1] 24 (0, 0)) (by (with_reducible repeat (first | refine blk_drewN ?_ _ | refine blk_drew ?_ | refine blk_alloc ?_ _)); exact BK231.out) hb)
 have n2_ := Aside0.mk (below_step (by repeat (first | (with_reducible first | exact HB.out | apply below_alloc | apply pw_below_drewN | apply below_drew1 | refine below_set ?_ GE231.out) | exact HB.out)) hb)
 clear HO234 BK231 HB
 have HO234 := n0_
 have BK231 := n1_
 have HB := n2_
 clear n0_ n1_ n2_
 (try clear hb)
 (try clear hb2)
 (try clear hk)
 (try clear hi)
 refine hK.out _ _ ⟨(blk_cell BK231.out 0).trans rfl, (blk_cell BK231.out 1).trans rfl⟩ (fun hHeld => ?_)
 clear hK K
 refine nz_ 14 ?_
 refine pure_ (i := 4) (N := some 0) (v := ?_) (a' := ?_) #[true, true, true, true, true, false] rfl rfl (by kernel_rfl) (fun _ _ _ h => h) (Or.inl ⟨by rfl, ?_⟩) ?_ ?_
 rotate_left
 ·intro w'
  go_simp
  with_reducible rfl
 rotate_left
 ·simp only [Act.put, List.setIfInBounds_toArray, List.set_cons_zero, List.set_cons_succ, i64_w, i32_w]
  rfl
 refine last_ (i := 5) (N := none) #[true, true, true, true, true, true] rfl rfl (by kernel_rfl) (by decide) (fun K hK => ?_)
 have hs9 : w8.cell? ⟨gb231, 0, none⟩ = some (.string a1_0) := (blk_cell BK231.out 0).trans rfl
 have hfs9 := blk_frozen BK231.out 0
 have hs10 : w8.cell? ⟨gb231, 1, none⟩ = some (.string a1_1) := (blk_cell BK231.out 1).trans rfl
 have hfs10 := blk_frozen BK231.out 1
 refine skip_ (w1 := ?_) (by rfl) rfl ?_ ?_
 rotate_left
 ·go_simp
  rfl
 refine hK.out _ _ ?_
 clear hK K
 refine done_ (by kernel_rfl) ?_
 obtain ⟨Ao11, co11, eo11⟩ := Kd.R_slice HO234.out
 subst eo11
 try go_wp2
 go_loopg [5, 6] k (fun kq v5 v6 w' => ∃ (x5_1 : List (S24)) (x6_1 : Int), v6 = .int .i64 x6_1 ∧ Aside0 (graftwoodlaw13_DiffOrder.l0 kq t232 x5_1 x6_1 t235 t236 = some r) ∧ Aside0 (kq ≤ k) ∧ Aside0 (Kd.R k24 24 w' w.heap.size (fun k_ => some k_ ≠ (v5 : Value).ownBlock ∧ k_ ≠ gb231) (.slice Ao11 t232.length co11) t232) ∧ Aside0 (Kd.R k24 24 w' w.heap.size (fun k_ => some k_ ≠ ((.slice Ao11 t232.length co11) : Value).ownBlock ∧ k_ ≠ gb231) v5 x5_1) ∧ Aside0 (w'.heap[gb231]? = some (.cells #[.string t235, .string t236] 24 (0, 0))) ∧ Aside0 (Below w.heap.size w w'))
 case atStart => exact ⟨(([] : List (S24))), (wrap64 ((t232.length : Int) - 1)), (by first | rfl | (simp; done) | (simp [*]; done)), H', ⟨Nat.le_refl _⟩, ⟨by (with_reducible repeat (first | apply Kd.R_alloc | apply Kd.R_drewN | apply Kd.R_drew)); exact Kd.R_mono (Kd.R_far (p := ⟨gb231, 1, none⟩) (Kd.R_far (p := ⟨gb231, 0, none⟩) (Kd.R_mono HO234.out (fun k_ hk => (⟨hk, hk.2⟩ : _ ∧ k_ ≠ gb231))) (fun _ hk => hk.2) (.string t235)) (fun _ hk => hk.2) (.string t236)) (fun _ hk => ⟨(by simp [Value.ownBlock]), hk.1.2⟩)⟩, ⟨by first | exact Kd.R_nil _ _ _ _ _ | exact Kd.N_nil _ _ _ _ _ | exact Kd.V_nil _ _ _ _ _ | exact Kd.Q_nil _ _ _ _ _ | exact Kd.S_nil _ _ _ _ _⟩, ⟨by (with_reducible repeat (first | refine blk_drewN ?_ _ | refine blk_drew ?_ | refine blk_alloc ?_ _)); refine blk_put (cs := #[.string t235, .string a1_1]) ?_ 1 _ rfl; (with_reducible repeat (first | refine blk_drewN ?_ _ | refine blk_drew ?_ | refine blk_alloc ?_ _)); refine blk_put (cs := #[.string a1_0, .string a1_1]) ?_ 0 _ rfl; (with_reducible repeat (first | refine blk_drewN ?_ _ | refine blk_drew ?_ | refine blk_alloc ?_ _)); exact BK231.out⟩, ⟨by repeat (first | (with_reducible first | exact HB.out | apply below_alloc | apply pw_below_drewN | apply below_drew1 | refine below_set ?_ GE231.out) | exact HB.out)⟩⟩
 case round =>
  clear H'
  try clear p2
  try clear c3
  try clear p6
  try clear c7
  try clear c8
  obtain ⟨x5_1, x6_1, rfl, HA, HK1, HO_0, HO_5, BK231, HB⟩ := hrel
  cases gk with
  | zero => exact absurd HA.out (by simp [graftwoodlaw13_DiffOrder.l0])
  | succ k1 =>
   have H := HA.out
   clear HA
   simp only [graftwoodlaw13_DiffOrder.l0] at H
   by_cases c12 : x6_1 ≥ 0
   ·rw [if_pos c12] at H
    have c12b0 : decide (0 ≤ x6_1) = true := decide_eq_true c12
    clear c12
    by_cases c13 : 0 ≤ x6_1
    ·rw [if_pos c13] at H
     have c13b0 : decide (0 ≤ x6_1) = true := decide_eq_true c13
     clear c13
     by_cases c14 : x6_1 < (t232.length : Int)
     ·rw [if_pos c14] at H
      have c14b0 : decide (x6_1 < (t232.length : Int)) = true := decide_eq_true c14
      clear c14
      by_cases c15 : x5_1.length < 4398046511104
      ·rw [if_pos c15] at H
       have LMc15 := Aside0.mk c15
       clear c15
       obtain ⟨y238, hy238⟩ : ∃ y_ : List (S24), y_ = (x5_1 ++ [(⟨(rd_T24 t232 x6_1).f0, (rd_T24 t232 x6_1).f1⟩ : S24)]) := ⟨_, rfl⟩
       replace H : (graftwoodlaw13_DiffOrder.l0 k1 t232 y238 (wrap64 (x6_1 - 1)) t235 t236) = some r := by first | (rw [hy238]; with_reducible exact H) | (have H2_ := (Option.bind_some _ _).symm.trans H; rw [hy238]; with_reducible exact H2_) | (have H2_ := (Option.bind_some _ _).symm.trans H; with_reducible exact H2_) | with_reducible exact H | (rw [hy238]; exact H) | exact H
       have Ny238 := Aside0.mk hy238
       clear hy238
       have H' := Aside0.mk H
       clear H
       have p237 : 0 ≤ (x6_1 : Int) := of_decide_eq_true (by first | (with_reducible assumption) | assumption)
       have q237 : x6_1 < (t232.length : Int) := of_decide_eq_true (by first | (with_reducible assumption) | assumption)
       obtain ⟨ad237, e237, hx237_0, hx237_1⟩ := at_T24 (Kd.R_reads' HO_0.out).2.2 x6_1 p237 q237
       cases e237
       replace p237 := eq_true p237
       replace q237 := eq_true q237
       go_wp2_with (first | ((with_reducible refine gate_builtin (b := .append) (xs := #[.tmp 22, .tmp 27]) rfl ?_); (try (refine gate_guard (by rfl) ?_; dsimp only)); at_builtin; refine Kd.R_append k24 (w0 := w) w.heap.size rfl (.tmp 22) (.tmp 27) 22 24 (.agg #[(.string ⟨#[]⟩), (.string ⟨#[]⟩)]) 32 rfl Tryz.underlying22 info24 rfl (by decide) (by omega) u5 x5_1 (⟨(rd_T24 t232 x6_1).f0, (rd_T24 t232 x6_1).f1⟩ : S24) [.string ((rd_T24 t232 x6_1).f0), .string ((rd_T24 t232 x6_1).f1)] (fun k_ => some k_ ≠ (.slice (some ad237) t232.length co11 : Value).ownBlock ∧ k_ ≠ gb231) (fun _ => False) rfl rfl ?aP (fun _ hk => hk.elim) ?aF ?aO ?aB ?aS ?aL ?_; (case aP => exact k24_mkM _ _ _ (⟨(rd_T24 t232 x6_1).f0, (rd_T24 t232 x6_1).f1⟩ : S24)); (case aB => exact (by repeat (first | (with_reducible first | exact HB.out | apply below_alloc | apply pw_below_drewN | apply below_drew1 | refine below_set ?_ GE231.out) | exact HB.out))); (case aF => exact (fun k_ hk => ⟨Kd.fresh' (Kd.R_lt (by (with_reducible repeat (first | apply Kd.R_alloc | apply Kd.R_drewN | apply Kd.R_drew)); exact HO_0.out)) k_ hk, Kd.freshB (g := gb231) (o := .cells #[.string t235, .string t236] 24 (0, 0)) (by (with_reducible repeat (first | refine blk_drewN ?_ _ | refine blk_drew ?_ | refine blk_alloc ?_ _)); exact BK231.out) k_ hk⟩)); (case aO => exact (by (with_reducible repeat (first | apply Kd.R_alloc | apply Kd.R_drewN | apply Kd.R_drew)); exact HO_5.out)); (case aS => exact (below_size (by repeat (first | (with_reducible first | exact HB.out | apply below_alloc | apply pw_below_drewN | apply below_drew1 | refine below_set ?_ GE231.out) | exact HB.out)))); (case aL => have := LMc15.out; omega); intro v239 w16 ho hb hg hat; rw [← Ny238.out] at ho; have n0_ := Aside0.mk (Kd.R_after (ok := (fun k_ => k_ ≠ gb231)) (by (with_reducible repeat (first | apply Kd.R_alloc | apply Kd.R_drewN | apply Kd.R_drew)); exact Kd.R_mono HO_0.out (fun _ hk => ⟨hk.2, hk.1⟩)) hg hat); have n1_ := Aside0.mk (blk_grown (g := gb231) (o := .cells #[.string t235, .string t236] 24 (0, 0)) (by (with_reducible repeat (first | refine blk_drewN ?_ _ | refine blk_drew ?_ | refine blk_alloc ?_ _)); exact BK231.out) hg (Kd.R_away HO_5.out (fun _ hk => hk.2))); have n2_ := Aside0.mk (hb); have n3_ := Aside0.mk (ho); clear HO_0; clear BK231; clear HB; clear HO_5; have HO_0 := n0_; have BK231 := n1_; have HB := n2_; have HO240 := n3_; clear n0_ n1_ n2_ n3_; clear ho hb hg hat))
       go_roundg k1
       case measure => have := HK1.out; omega
       case rel => exact ⟨(y238), (wrap64 (x6_1 - 1)), (by first | rfl | (simp; done) | (simp [*]; done)), H', ⟨by have := HK1.out; omega⟩, ⟨by (with_reducible repeat (first | apply Kd.R_alloc | apply Kd.R_drewN | apply Kd.R_drew)); exact Kd.R_mono HO_0.out (fun _ hk => ⟨hk.2, hk.1⟩)⟩, ⟨by (with_reducible repeat (first | apply Kd.R_alloc | apply Kd.R_drewN | apply Kd.R_drew)); exact HO240.out⟩, ⟨by (with_reducible repeat (first | refine blk_drewN ?_ _ | refine blk_drew ?_ | refine blk_alloc ?_ _)); exact BK231.out⟩, ⟨by repeat (first | (with_reducible first | exact HB.out | apply below_alloc | apply pw_below_drewN | apply below_drew1 | refine below_set ?_ GE231.out) | exact HB.out)⟩⟩
      ·rw [if_neg c15] at H
       exact absurd H (by simp)
     ·rw [if_neg c14] at H
      exact absurd H (by simp)
    ·rw [if_neg c13] at H
     exact absurd H (by simp)
   ·rw [if_neg c12] at H
    have c12b0 : decide (0 ≤ x6_1) = false := decide_eq_false c12
    clear c12
    replace H := Option.bind_eq_some_iff.mp H
    obtain ⟨⟨t241, t242⟩, A170, H⟩ := H
    replace H : (if x5_1.length < 4398046511104 then ((diff_Diff.f t232 (x5_1 ++ [(⟨t235, t236⟩ : S24)])).bind fun bt248 => (if t242 = 0 then (if bt248.2 = 0 then (if (t241.length : Int) = 0 then (if (bt248.1.length : Int) = 1 then (if 0 < (bt248.1.length : Int) then (if (((((rd_T35 bt248.1 0).f0.f0).toList) == t235.toList && ((((rd_T35 bt248.1 0).f0.f1).toList) == t236.toList)) && (((rd_T35 bt248.1 0).f1) == 1)) = true then ((graftwoodlaw13_awake.f).bind fun t255 => (some t255)) else (some false)) else (none)) else (some false)) else (some false)) else ((graftwoodref05_May.f k1 t235 t236).bind fun t256 => (if t256 = true then (some false) else ((graftwoodlaw13_awake.f).bind fun t257 => (some t257))))) else ((graftwoodlaw13_all.f k1 t232).bind fun t252 => (if t252 = true then (some false) else ((graftwoodlaw13_awake.f).bind fun t253 => (some t253)))))) else (none)) = some r := H
    have A17 := Aside0.mk A170
    clear A170
    by_cases c18 : x5_1.length < 4398046511104
    ·rw [if_pos c18] at H
     have LMc18 := Aside0.mk c18
     clear c18
     obtain ⟨y245, hy245⟩ : ∃ y_ : List (S24), y_ = (x5_1 ++ [(⟨t235, t236⟩ : S24)]) := ⟨_, rfl⟩
     replace H : ((diff_Diff.f t232 y245).bind fun bt248 => (if t242 = 0 then (if bt248.2 = 0 then (if (t241.length : Int) = 0 then (if (bt248.1.length : Int) = 1 then (if 0 < (bt248.1.length : Int) then (if (((((rd_T35 bt248.1 0).f0.f0).toList) == t235.toList && ((((rd_T35 bt248.1 0).f0.f1).toList) == t236.toList)) && (((rd_T35 bt248.1 0).f1) == 1)) = true then ((graftwoodlaw13_awake.f).bind fun t255 => (some t255)) else (some false)) else (none)) else (some false)) else (some false)) else ((graftwoodref05_May.f k1 t235 t236).bind fun t256 => (if t256 = true then (some false) else ((graftwoodlaw13_awake.f).bind fun t257 => (some t257))))) else ((graftwoodlaw13_all.f k1 t232).bind fun t252 => (if t252 = true then (some false) else ((graftwoodlaw13_awake.f).bind fun t253 => (some t253)))))) = some r := by first | (rw [hy245]; with_reducible exact H) | (have H2_ := (Option.bind_some _ _).symm.trans H; rw [hy245]; with_reducible exact H2_) | (have H2_ := (Option.bind_some _ _).symm.trans H; with_reducible exact H2_) | with_reducible exact H | (rw [hy245]; exact H) | exact H
     have Ny245 := Aside0.mk hy245
     clear hy245
     replace H := Option.bind_eq_some_iff.mp H
     obtain ⟨⟨t248, t249⟩, A190, H⟩ := H
     replace H : (if t242 = 0 then (if t249 = 0 then (if (t241.length : Int) = 0 then (if (t248.length : Int) = 1 then (if 0 < (t248.length : Int) then (if (((((rd_T35 t248 0).f0.f0).toList) == t235.toList && ((((rd_T35 t248 0).f0.f1).toList) == t236.toList)) && (((rd_T35 t248 0).f1) == 1)) = true then ((graftwoodlaw13_awake.f).bind fun t255 => (some t255)) else (some false)) else (none)) else (some false)) else (some false)) else ((graftwoodref05_May.f k1 t235 t236).bind fun t256 => (if t256 = true then (some false) else ((graftwoodlaw13_awake.f).bind fun t257 => (some t257))))) else ((graftwoodlaw13_all.f k1 t232).bind fun t252 => (if t252 = true then (some false) else ((graftwoodlaw13_awake.f).bind fun t253 => (some t253))))) = some r := H
     have A19 := Aside0.mk A190
     clear A190
     by_cases c20 : t242 = 0
     ·rw [if_pos c20] at H
      have c20b0 : (t242 == 0) = true := beq_iff_eq.mpr c20
      have c20b1 : (t242 != 0) = false := bne_eq_false_iff_eq.mpr c20
      clear c20
      by_cases c21 : t249 = 0
      ·rw [if_pos c21] at H
       have c21b0 : (t249 == 0) = true := beq_iff_eq.mpr c21
       have c21b1 : (t249 != 0) = false := bne_eq_false_iff_eq.mpr c21
       clear c21
       by_cases c22 : (t241.length : Int) = 0
       ·rw [if_pos c22] at H
        have c22b0 : ((t241.length : Int) == 0) = true := beq_iff_eq.mpr c22
        have c22b1 : ((t241.length : Int) != 0) = false := bne_eq_false_iff_eq.mpr c22
        clear c22
        by_cases c23 : (t248.length : Int) = 1
        ·rw [if_pos c23] at H
         have c23b0 : ((t248.length : Int) == 1) = true := beq_iff_eq.mpr c23
         have c23b1 : ((t248.length : Int) != 1) = false := bne_eq_false_iff_eq.mpr c23
         clear c23
         by_cases c24 : 0 < (t248.length : Int)
         ·rw [if_pos c24] at H
          have c24b0 : decide (0 < (t248.length : Int)) = true := decide_eq_true c24
          have c24b1 : decide (0 < t248.length) = true := decide_eq_true (by omega)
          clear c24
          by_cases c25 : (((((rd_T35 t248 0).f0.f0).toList) == t235.toList && ((((rd_T35 t248 0).f0.f1).toList) == t236.toList)) && (((rd_T35 t248 0).f1) == 1)) = true
          ·rw [if_pos c25] at H
           have c25b0 : (((((rd_T35 t248 0).f0.f0).toList) == t235.toList && ((((rd_T35 t248 0).f0.f1).toList) == t236.toList)) && (((rd_T35 t248 0).f1) == 1)) = true := c25
           clear c25
           replace H := Option.bind_eq_some_iff.mp H
           obtain ⟨t255, A260, H⟩ := H
           replace H : (some t255) = some r := H
           have A26 := Aside0.mk A260
           clear A260
           obtain rfl := Option.some.inj H
           obtain ⟨Ao27, co27, eo27⟩ := Kd.R_slice HO_5.out
           subst eo27
           try go_wp2_with (first | ((with_reducible refine gate_callee (f := 9) rfl ?_); refine goesL_ (some 32) rfl rfl Tryz.func9 (by kernel_rfl) rfl #[.slice Ao11 t232.length co11, .slice Ao27 x5_1.length co27] rfl (by (try simp only [List.map_toArray, List.map_cons, List.map_nil]); first | done | rfl | (simp only [List.length_drop, List.length_take]; rfl)) ?_; (with_reducible refine (diff_Diff.calls _ _ t232 _ _ x5_1 t241 t242 _ ?side1 ?side2 ?side3 ?side4 A17.out).mono ?_); (case side1 => repeat (first | exact (Kd.R_reads' HO_0.out).2.2 | (with_reducible refine Kd.C_alloc ?_ _) | (with_reducible refine Kd.C_drewN ?_ _) | (with_reducible refine Kd.C_drew ?_))); (case side2 => exact (Kd.R_reads' HO_0.out).2.1); (case side3 => repeat (first | exact (Kd.R_reads' HO_5.out).2.2 | (with_reducible refine Kd.C_alloc ?_ _) | (with_reducible refine Kd.C_drewN ?_ _) | (with_reducible refine Kd.C_drew ?_))); (case side4 => exact (Kd.R_reads' HO_5.out).2.1); rintro e w28 ⟨v243, rfl, ho0, hb⟩; refine ⟨_, rfl, ?_⟩; have n0_ := Aside0.mk (Kd.R_below (by (with_reducible repeat (first | apply Kd.R_alloc | apply Kd.R_drewN | apply Kd.R_drew)); exact HO_0.out) hb); have n1_ := Aside0.mk (Kd.R_below (by (with_reducible repeat (first | apply Kd.R_alloc | apply Kd.R_drewN | apply Kd.R_drew)); exact HO_5.out) hb); have n2_ := Aside0.mk (Kd.R_lower ho0 (below_size (by repeat (first | (with_reducible first | exact HB.out | apply below_alloc | apply pw_below_drewN | apply below_drew1 | refine below_set ?_ GE231.out) | exact HB.out)))); have n3_ := Aside0.mk (blk_below (g := gb231) (o := .cells #[.string t235, .string t236] 24 (0, 0)) (by (with_reducible repeat (first | refine blk_drewN ?_ _ | refine blk_drew ?_ | refine blk_alloc ?_ _)); exact BK231.out) hb); have n4_ := Aside0.mk (below_step (by repeat (first | (with_reducible first | exact HB.out | apply below_alloc | apply pw_below_drewN | apply below_drew1 | refine below_set ?_ GE231.out) | exact HB.out)) hb); clear HO_0; clear HO_5; clear BK231; clear HB; have HO_0 := n0_; have HO_5 := n1_; have HO244 := n2_; have BK231 := n3_; have HB := n4_; clear n0_ n1_ n2_ n3_ n4_; (try clear hb); (try clear hb2); (try clear hk); (try clear hi); (try clear ho0); have hcz29_0 : w28.cell? ⟨gb231, 0, none⟩ = some (.string t235) := (blk_cell BK231.out 0).trans rfl; have hcz29_1 : w28.cell? ⟨gb231, 1, none⟩ = some (.string t236) := (blk_cell BK231.out 1).trans rfl; have hfz29_0 := blk_frozen BK231.out 0; have hfz29_1 := blk_frozen BK231.out 1) | ((with_reducible refine gate_builtin (b := .append) (xs := #[.tmp 37, .tmp 39]) rfl ?_); (try (refine gate_guard (by rfl) ?_; dsimp only)); at_builtin; refine Kd.R_append k24 (w0 := w) w.heap.size rfl (.tmp 37) (.tmp 39) 22 24 (.agg #[(.string ⟨#[]⟩), (.string ⟨#[]⟩)]) 32 rfl Tryz.underlying22 info24 rfl (by decide) (by omega) (.slice Ao27 x5_1.length co27) x5_1 (⟨t235, t236⟩ : S24) [.string t235, .string t236] (fun k_ => some k_ ≠ (.slice Ao11 t232.length co11 : Value).ownBlock ∧ k_ ≠ gb231) (fun _ => False) rfl rfl ?aP (fun _ hk => hk.elim) ?aF ?aO ?aB ?aS ?aL ?_; (case aP => exact k24_mkM _ _ _ (⟨t235, t236⟩ : S24)); (case aB => exact (by repeat (first | (with_reducible first | exact HB.out | apply below_alloc | apply pw_below_drewN | apply below_drew1 | refine below_set ?_ GE231.out) | exact HB.out))); (case aF => exact (fun k_ hk => ⟨Kd.fresh' (Kd.R_lt (by (with_reducible repeat (first | apply Kd.R_alloc | apply Kd.R_drewN | apply Kd.R_drew)); exact HO_0.out)) k_ hk, Kd.freshB (g := gb231) (o := .cells #[.string t235, .string t236] 24 (0, 0)) (by (with_reducible repeat (first | refine blk_drewN ?_ _ | refine blk_drew ?_ | refine blk_alloc ?_ _)); exact BK231.out) k_ hk⟩)); (case aO => exact (by (with_reducible repeat (first | apply Kd.R_alloc | apply Kd.R_drewN | apply Kd.R_drew)); exact HO_5.out)); (case aS => exact (below_size (by repeat (first | (with_reducible first | exact HB.out | apply below_alloc | apply pw_below_drewN | apply below_drew1 | refine below_set ?_ GE231.out) | exact HB.out)))); (case aL => have := LMc18.out; omega); intro v246 w30 ho hb hg hat; rw [← Ny245.out] at ho; have n0_ := Aside0.mk (Kd.R_after (ok := (fun k_ => k_ ≠ gb231)) (by (with_reducible repeat (first | apply Kd.R_alloc | apply Kd.R_drewN | apply Kd.R_drew)); exact Kd.R_mono HO_0.out (fun _ hk => ⟨hk.2, hk.1⟩)) hg hat); have n1_ := Aside0.mk (blk_grown (g := gb231) (o := .cells #[.string t235, .string t236] 24 (0, 0)) (by (with_reducible repeat (first | refine blk_drewN ?_ _ | refine blk_drew ?_ | refine blk_alloc ?_ _)); exact BK231.out) hg (Kd.R_away HO_5.out (fun _ hk => hk.2))); have n2_ := Aside0.mk (Kd.R_over' (by (with_reducible repeat (first | apply Kd.R_alloc | apply Kd.R_drewN | apply Kd.R_drew)); exact HO244.out) (Kd.R_typed (by (with_reducible repeat (first | apply Kd.R_alloc | apply Kd.R_drewN | apply Kd.R_drew)); exact HO_5.out)) (by decide) hg); have n3_ := Aside0.mk (hb); have n4_ := Aside0.mk (ho); clear HO_0; clear BK231; clear HO244; clear HB; clear HO_5; have HO_0 := n0_; have BK231 := n1_; have HO244 := n2_; have HB := n3_; have HO247 := n4_; clear n0_ n1_ n2_ n3_ n4_; clear ho hb hg hat; obtain ⟨Ao31, co31, eo31⟩ := Kd.R_slice HO247.out; subst eo31) | ((with_reducible refine gate_callee (f := 9) rfl ?_); refine goesL_ (some 41) rfl rfl Tryz.func9 (by kernel_rfl) rfl #[.slice Ao11 t232.length co11, .slice Ao31 y245.length co31] rfl (by (try simp only [List.map_toArray, List.map_cons, List.map_nil]); first | done | rfl | (simp only [List.length_drop, List.length_take]; rfl)) ?_; (with_reducible refine (diff_Diff.calls _ _ t232 _ _ y245 t248 t249 _ ?side1 ?side2 ?side3 ?side4 A19.out).mono ?_); (case side1 => repeat (first | exact (Kd.R_reads' HO_0.out).2.2 | (with_reducible refine Kd.C_alloc ?_ _) | (with_reducible refine Kd.C_drewN ?_ _) | (with_reducible refine Kd.C_drew ?_))); (case side2 => exact (Kd.R_reads' HO_0.out).2.1); (case side3 => repeat (first | exact (Kd.R_reads' HO247.out).2.2 | (with_reducible refine Kd.C_alloc ?_ _) | (with_reducible refine Kd.C_drewN ?_ _) | (with_reducible refine Kd.C_drew ?_))); (case side4 => exact (Kd.R_reads' HO247.out).2.1); rintro e w32 ⟨v250, rfl, ho0, hb⟩; refine ⟨_, rfl, ?_⟩; have n0_ := Aside0.mk (Kd.R_below (by (with_reducible repeat (first | apply Kd.R_alloc | apply Kd.R_drewN | apply Kd.R_drew)); exact HO_0.out) hb); have n1_ := Aside0.mk (Kd.R_elder' (by (with_reducible repeat (first | apply Kd.R_alloc | apply Kd.R_drewN | apply Kd.R_drew)); exact HO244.out) (Kd.R_base ho0) hb); have n2_ := Aside0.mk (Kd.R_below (by (with_reducible repeat (first | apply Kd.R_alloc | apply Kd.R_drewN | apply Kd.R_drew)); exact HO247.out) hb); have n3_ := Aside0.mk (Kd.R_lower (Kd.R_new' ho0 (Kd.R_lt (by (with_reducible repeat (first | apply Kd.R_alloc | apply Kd.R_drewN | apply Kd.R_drew)); exact HO244.out))) (below_size (by repeat (first | (with_reducible first | exact HB.out | apply below_alloc | apply pw_below_drewN | apply below_drew1 | refine below_set ?_ GE231.out) | exact HB.out)))); have n4_ := Aside0.mk (blk_below (g := gb231) (o := .cells #[.string t235, .string t236] 24 (0, 0)) (by (with_reducible repeat (first | refine blk_drewN ?_ _ | refine blk_drew ?_ | refine blk_alloc ?_ _)); exact BK231.out) hb); have n5_ := Aside0.mk (below_step (by repeat (first | (with_reducible first | exact HB.out | apply below_alloc | apply pw_below_drewN | apply below_drew1 | refine below_set ?_ GE231.out) | exact HB.out)) hb); clear HO_0; clear HO244; clear HO247; clear BK231; clear HB; have HO_0 := n0_; have HO244 := n1_; have HO247 := n2_; have HO251 := n3_; have BK231 := n4_; have HB := n5_; clear n0_ n1_ n2_ n3_ n4_ n5_; (try clear hb); (try clear hb2); (try clear hk); (try clear hi); (try clear ho0)))
           have n0_ := Aside0.mk (Kd.R_drew HO_0.out)
           have n1_ := Aside0.mk (Kd.R_drew HO244.out)
           have n2_ := Aside0.mk (Kd.R_drew HO247.out)
           have n3_ := Aside0.mk (Kd.R_drew HO251.out)
           have n4_ := Aside0.mk (blk_drew BK231.out)
           have n5_ := Aside0.mk (below_drew1 HB.out)
           clear HO_0 HO244 HO247 HO251 BK231 HB
           have HO_0 := n0_
           have HO244 := n1_
           have HO247 := n2_
           have HO251 := n3_
           have BK231 := n4_
           have HB := n5_
           clear n0_ n1_ n2_ n3_ n4_ n5_
           obtain ⟨Ao34, co34, eo34⟩ := Kd.R_slice HO244.out
           (first | subst eo34 | (injection eo34 with f1_ f2_ f3_; have f4_ := f1_.symm; have f5_ := f3_.symm; clear f1_ f2_ f3_; subst f4_; subst f5_))
           obtain ⟨Ao35, co35, eo35⟩ := Kd.R_slice HO251.out
           (first | subst eo35 | (injection eo35 with f1_ f2_ f3_; have f4_ := f1_.symm; have f5_ := f3_.symm; clear f1_ f2_ f3_; subst f4_; subst f5_))
           have p254 : 0 ≤ (0 : Int) := (by omega)
           have q254 : 0 < (t248.length : Int) := of_decide_eq_true (by first | (with_reducible assumption) | assumption)
           obtain ⟨ad254, e254, hx254_0, hx254_1, hx254_2⟩ := at_T35 (Kd.R_reads' HO251.out).2.2 0 p254 q254
           cases e254
           have qi254 : (0 < t248.length) = True := eq_true (by omega)
           (try rw [show ((0 : Int)).toNat = 0 from rfl] at hx254_0)
           (try rw [show 0 * 3 = 0 from rfl] at hx254_0)
           (try rw [Addr.add_zero'] at hx254_0)
           (try rw [show ((0 : Int)).toNat = 0 from rfl] at hx254_1)
           (try rw [show 0 * 3 = 0 from rfl] at hx254_1)
           (try rw [Addr.add_zero'] at hx254_1)
           (try rw [show ((0 : Int)).toNat = 0 from rfl] at hx254_2)
           (try rw [show 0 * 3 = 0 from rfl] at hx254_2)
           (try rw [Addr.add_zero'] at hx254_2)
           replace p254 := eq_true p254
           replace q254 := eq_true q254
           refine start_ (n := 20) (S := fun w' => w'.cell? ⟨gb231, 0, none⟩ = some (.string t235) ∧ w'.cell? ⟨gb231, 1, none⟩ = some (.string t236) ∧ w'.cell? ad254 = some (.string ((rd_T35 t248 0).f0.f0)) ∧ w'.cell? ⟨ad254.block, ad254.off + 1, none⟩ = some (.string ((rd_T35 t248 0).f0.f1)) ∧ w'.cell? ⟨ad254.block, ad254.off + 2, none⟩ = some (.int .i64 ((rd_T35 t248 0).f1))) (ds := []) #[false, false, false, false, false, false, false, false, false, false, false, false, false, false, false, false, false, false, false, false] (by kernel_rfl) rfl rfl ⟨(blk_cell BK231.out 0).trans rfl, (blk_cell BK231.out 1).trans rfl, hx254_0, hx254_1, hx254_2⟩ (fun hHeld => ?_); refine with_tabW graftwoodlaw13_DiffOrder.tab13 graftwoodlaw13_DiffOrder.bits13 (fun HT_ HW_ => ?_)
           generalize w32.drew = w33 at HO_0 HO244 HO247 HO251 BK231 HB hx254_0 hx254_1 hx254_2 hHeld ⊢
           refine pz_ 0 60 HT_.out ?_
           refine pz_ 1 61 HT_.out ?_
           refine pz_ 2 62 HT_.out ?_
           refine pz_ 3 63 HT_.out ?_
           refine pz_ 4 64 HT_.out ?_
           refine pz_ 5 65 HT_.out ?_
           refine pz_ 6 66 HT_.out ?_
           refine pz_ 7 67 HT_.out ?_
           refine pz_ 8 68 HT_.out ?_
           refine pz_ 9 69 HT_.out ?_
           refine pz_ 10 70 HT_.out ?_
           refine tz_ 11 71 HT_.out HW_.out hHeld ?_
           refine tz_ 12 72 HT_.out HW_.out hHeld ?_
           refine pz_ 13 73 HT_.out ?_
           refine pz_ 14 74 HT_.out ?_
           refine pz_ 15 75 HT_.out ?_
           refine pz_ 16 76 HT_.out ?_
           refine one_ (i := 17) (N := some 77) #[true, true, true, true, true, true, true, true, true, true, true, true, true, true, true, true, true, true, false, false] rfl rfl (one_of HT_.out (by kernel_rfl)) (by decide) (fun K hK => ?_)
           refine goes_ Tryz.func11 (by kernel_rfl) rfl #[] (by rfl) rfl rfl (by (try simp only [List.map_toArray, List.map_cons, List.map_nil]); first | done | rfl | (simp only [List.length_drop, List.length_take]; rfl)) ?_
           with_reducible refine (graftwoodlaw13_awake.calls  t255 _ A26.out HR_).mono ?_
           rintro e w36 ⟨rfl, hb⟩
           have HS2_ := (hb.cell (World.block_lt_of_cell? _ _ (hHeld.2.2.1))).trans (hHeld.2.2.1)
           have HS3_ := (hb.cell (World.block_lt_of_cell? _ _ (hHeld.2.2.2.1))).trans (hHeld.2.2.2.1)
           have HS4_ := (hb.cell (World.block_lt_of_cell? _ _ (hHeld.2.2.2.2))).trans (hHeld.2.2.2.2)
           refine ⟨_, rfl, ?_⟩
           have n0_ := Aside0.mk (Kd.R_below (by (with_reducible repeat (first | apply Kd.R_alloc | apply Kd.R_drewN | apply Kd.R_drew)); exact HO_0.out) hb)
           have n1_ := Aside0.mk (Kd.R_below (by (with_reducible repeat (first | apply Kd.R_alloc | apply Kd.R_drewN | apply Kd.R_drew)); exact HO244.out) hb)
           have n2_ := Aside0.mk (Kd.R_below (by (with_reducible repeat (first | apply Kd.R_alloc | apply Kd.R_drewN | apply Kd.R_drew)); exact HO247.out) hb)
           have n3_ := Aside0.mk (Kd.R_below (by (with_reducible repeat (first | apply Kd.R_alloc | apply Kd.R_drewN | apply Kd.R_drew)); exact HO251.out) hb)
           have n4_ := Aside0.mk (blk_below (g := gb231) (o := .cells #[.string t235, .string t236] 24 (0, 0)) (by (with_reducible repeat (first | refine blk_drewN ?_ _ | refine blk_drew ?_ | refine blk_alloc ?_ _)); exact BK231.out) hb)
           have n5_ := Aside0.mk (below_step (by repeat (first | (with_reducible first | exact HB.out | apply below_alloc | apply pw_below_drewN | apply below_drew1 | refine below_set ?_ GE231.out) | exact HB.out)) hb)
           clear HO_0 HO244 HO247 HO251 BK231 HB
           have HO_0 := n0_
           have HO244 := n1_
           have HO247 := n2_
           have HO251 := n3_
           have BK231 := n4_
           have HB := n5_
           clear n0_ n1_ n2_ n3_ n4_ n5_
           (try clear hb)
           (try clear hb2)
           (try clear hk)
           (try clear hi)
           refine hK.out _ _ ⟨(blk_cell BK231.out 0).trans rfl, (blk_cell BK231.out 1).trans rfl, HS2_, HS3_, HS4_⟩ (fun hHeld => ?_)
           clear hK K
           refine nz_ 77 ?_
           refine pz_ 18 78 HT_.out ?_
           refine pz_ 19 4 HT_.out ?_
           refine done_ (done_of HT_.out (by kernel_rfl)) ?_
           try go_wp2
           go_ret
           exact ⟨by first | rfl | (simp [errW_none, errW_some] <;> rfl) | (simp [*, errW_none, errW_some] <;> rfl), by repeat (first | (with_reducible first | exact HB.out | apply below_alloc | apply pw_below_drewN | apply below_drew1 | refine below_set ?_ GE231.out) | exact HB.out)⟩
          ·rw [if_neg c25] at H
           have c25b0 : (((((rd_T35 t248 0).f0.f0).toList) == t235.toList && ((((rd_T35 t248 0).f0.f1).toList) == t236.toList)) && (((rd_T35 t248 0).f1) == 1)) = false := by simpa using c25
           clear c25
           exact absurd ((Option.some.inj H).trans HR_.out) (by decide)
         ·rw [if_neg c24] at H
          exact absurd H (by simp)
        ·rw [if_neg c23] at H
         have c23b0 : ((t248.length : Int) == 1) = false := beq_eq_false_iff_ne.mpr c23
         have c23b1 : ((t248.length : Int) != 1) = true := bne_iff_ne.mpr c23
         exact absurd ((Option.some.inj H).trans HR_.out) (by decide)
       ·rw [if_neg c22] at H
        have c22b0 : ((t241.length : Int) == 0) = false := beq_eq_false_iff_ne.mpr c22
        have c22b1 : ((t241.length : Int) != 0) = true := bne_iff_ne.mpr c22
        have c22b2 : ¬ (t241 = []) := fun h_ => c22 (by rw [h_]; rfl)
        exact absurd ((Option.some.inj H).trans HR_.out) (by decide)
      ·rw [if_neg c21] at H
       have c21b0 : (t249 == 0) = false := beq_eq_false_iff_ne.mpr c21
       have c21b1 : (t249 != 0) = true := bne_iff_ne.mpr c21
       replace H := Option.bind_eq_some_iff.mp H
       obtain ⟨t256, A370, H⟩ := H
       replace H : (if t256 = true then (some false) else ((graftwoodlaw13_awake.f).bind fun t257 => (some t257))) = some r := H
       have A37 := Aside0.mk A370
       clear A370
       by_cases c38 : t256 = true
       ·subst c38
        have H1 : (some false) = some r := by rw [if_pos rfl] at H; exact H
        clear H
        have H := H1
        clear H1
        exact absurd ((Option.some.inj H).trans HR_.out) (by decide)
       ·replace c38 := Bool.eq_false_iff.mpr c38
        subst c38
        have H1 : ((graftwoodlaw13_awake.f).bind fun t257 => (some t257)) = some r := by rw [if_neg (show ¬ (false = true) by decide)] at H; exact H
        clear H
        have H := H1
        clear H1
        replace H := Option.bind_eq_some_iff.mp H
        obtain ⟨t257, A390, H⟩ := H
        replace H : (some t257) = some r := H
        have A39 := Aside0.mk A390
        clear A390
        obtain rfl := Option.some.inj H
        obtain ⟨Ao40, co40, eo40⟩ := Kd.R_slice HO_5.out
        subst eo40
        go_wp2_with (first | ((with_reducible refine gate_callee (f := 9) rfl ?_); refine goesL_ (some 32) rfl rfl Tryz.func9 (by kernel_rfl) rfl #[.slice Ao11 t232.length co11, .slice Ao40 x5_1.length co40] rfl (by (try simp only [List.map_toArray, List.map_cons, List.map_nil]); first | done | rfl | (simp only [List.length_drop, List.length_take]; rfl)) ?_; (with_reducible refine (diff_Diff.calls _ _ t232 _ _ x5_1 t241 t242 _ ?side1 ?side2 ?side3 ?side4 A17.out).mono ?_); (case side1 => repeat (first | exact (Kd.R_reads' HO_0.out).2.2 | (with_reducible refine Kd.C_alloc ?_ _) | (with_reducible refine Kd.C_drewN ?_ _) | (with_reducible refine Kd.C_drew ?_))); (case side2 => exact (Kd.R_reads' HO_0.out).2.1); (case side3 => repeat (first | exact (Kd.R_reads' HO_5.out).2.2 | (with_reducible refine Kd.C_alloc ?_ _) | (with_reducible refine Kd.C_drewN ?_ _) | (with_reducible refine Kd.C_drew ?_))); (case side4 => exact (Kd.R_reads' HO_5.out).2.1); rintro e w41 ⟨v243, rfl, ho0, hb⟩; refine ⟨_, rfl, ?_⟩; have n0_ := Aside0.mk (Kd.R_below (by (with_reducible repeat (first | apply Kd.R_alloc | apply Kd.R_drewN | apply Kd.R_drew)); exact HO_0.out) hb); have n1_ := Aside0.mk (Kd.R_below (by (with_reducible repeat (first | apply Kd.R_alloc | apply Kd.R_drewN | apply Kd.R_drew)); exact HO_5.out) hb); have n2_ := Aside0.mk (Kd.R_lower ho0 (below_size (by repeat (first | (with_reducible first | exact HB.out | apply below_alloc | apply pw_below_drewN | apply below_drew1 | refine below_set ?_ GE231.out) | exact HB.out)))); have n3_ := Aside0.mk (blk_below (g := gb231) (o := .cells #[.string t235, .string t236] 24 (0, 0)) (by (with_reducible repeat (first | refine blk_drewN ?_ _ | refine blk_drew ?_ | refine blk_alloc ?_ _)); exact BK231.out) hb); have n4_ := Aside0.mk (below_step (by repeat (first | (with_reducible first | exact HB.out | apply below_alloc | apply pw_below_drewN | apply below_drew1 | refine below_set ?_ GE231.out) | exact HB.out)) hb); clear HO_0; clear HO_5; clear BK231; clear HB; have HO_0 := n0_; have HO_5 := n1_; have HO244 := n2_; have BK231 := n3_; have HB := n4_; clear n0_ n1_ n2_ n3_ n4_; (try clear hb); (try clear hb2); (try clear hk); (try clear hi); (try clear ho0); have hcz42_0 : w41.cell? ⟨gb231, 0, none⟩ = some (.string t235) := (blk_cell BK231.out 0).trans rfl; have hcz42_1 : w41.cell? ⟨gb231, 1, none⟩ = some (.string t236) := (blk_cell BK231.out 1).trans rfl; have hfz42_0 := blk_frozen BK231.out 0; have hfz42_1 := blk_frozen BK231.out 1) | ((with_reducible refine gate_builtin (b := .append) (xs := #[.tmp 37, .tmp 39]) rfl ?_); (try (refine gate_guard (by rfl) ?_; dsimp only)); at_builtin; refine Kd.R_append k24 (w0 := w) w.heap.size rfl (.tmp 37) (.tmp 39) 22 24 (.agg #[(.string ⟨#[]⟩), (.string ⟨#[]⟩)]) 32 rfl Tryz.underlying22 info24 rfl (by decide) (by omega) (.slice Ao40 x5_1.length co40) x5_1 (⟨t235, t236⟩ : S24) [.string t235, .string t236] (fun k_ => some k_ ≠ (.slice Ao11 t232.length co11 : Value).ownBlock ∧ k_ ≠ gb231) (fun _ => False) rfl rfl ?aP (fun _ hk => hk.elim) ?aF ?aO ?aB ?aS ?aL ?_; (case aP => exact k24_mkM _ _ _ (⟨t235, t236⟩ : S24)); (case aB => exact (by repeat (first | (with_reducible first | exact HB.out | apply below_alloc | apply pw_below_drewN | apply below_drew1 | refine below_set ?_ GE231.out) | exact HB.out))); (case aF => exact (fun k_ hk => ⟨Kd.fresh' (Kd.R_lt (by (with_reducible repeat (first | apply Kd.R_alloc | apply Kd.R_drewN | apply Kd.R_drew)); exact HO_0.out)) k_ hk, Kd.freshB (g := gb231) (o := .cells #[.string t235, .string t236] 24 (0, 0)) (by (with_reducible repeat (first | refine blk_drewN ?_ _ | refine blk_drew ?_ | refine blk_alloc ?_ _)); exact BK231.out) k_ hk⟩)); (case aO => exact (by (with_reducible repeat (first | apply Kd.R_alloc | apply Kd.R_drewN | apply Kd.R_drew)); exact HO_5.out)); (case aS => exact (below_size (by repeat (first | (with_reducible first | exact HB.out | apply below_alloc | apply pw_below_drewN | apply below_drew1 | refine below_set ?_ GE231.out) | exact HB.out)))); (case aL => have := LMc18.out; omega); intro v246 w43 ho hb hg hat; rw [← Ny245.out] at ho; have n0_ := Aside0.mk (Kd.R_after (ok := (fun k_ => k_ ≠ gb231)) (by (with_reducible repeat (first | apply Kd.R_alloc | apply Kd.R_drewN | apply Kd.R_drew)); exact Kd.R_mono HO_0.out (fun _ hk => ⟨hk.2, hk.1⟩)) hg hat); have n1_ := Aside0.mk (blk_grown (g := gb231) (o := .cells #[.string t235, .string t236] 24 (0, 0)) (by (with_reducible repeat (first | refine blk_drewN ?_ _ | refine blk_drew ?_ | refine blk_alloc ?_ _)); exact BK231.out) hg (Kd.R_away HO_5.out (fun _ hk => hk.2))); have n2_ := Aside0.mk (Kd.R_over' (by (with_reducible repeat (first | apply Kd.R_alloc | apply Kd.R_drewN | apply Kd.R_drew)); exact HO244.out) (Kd.R_typed (by (with_reducible repeat (first | apply Kd.R_alloc | apply Kd.R_drewN | apply Kd.R_drew)); exact HO_5.out)) (by decide) hg); have n3_ := Aside0.mk (hb); have n4_ := Aside0.mk (ho); clear HO_0; clear BK231; clear HO244; clear HB; clear HO_5; have HO_0 := n0_; have BK231 := n1_; have HO244 := n2_; have HB := n3_; have HO247 := n4_; clear n0_ n1_ n2_ n3_ n4_; clear ho hb hg hat; obtain ⟨Ao44, co44, eo44⟩ := Kd.R_slice HO247.out; subst eo44) | ((with_reducible refine gate_callee (f := 9) rfl ?_); refine goesL_ (some 41) rfl rfl Tryz.func9 (by kernel_rfl) rfl #[.slice Ao11 t232.length co11, .slice Ao44 y245.length co44] rfl (by (try simp only [List.map_toArray, List.map_cons, List.map_nil]); first | done | rfl | (simp only [List.length_drop, List.length_take]; rfl)) ?_; (with_reducible refine (diff_Diff.calls _ _ t232 _ _ y245 t248 t249 _ ?side1 ?side2 ?side3 ?side4 A19.out).mono ?_); (case side1 => repeat (first | exact (Kd.R_reads' HO_0.out).2.2 | (with_reducible refine Kd.C_alloc ?_ _) | (with_reducible refine Kd.C_drewN ?_ _) | (with_reducible refine Kd.C_drew ?_))); (case side2 => exact (Kd.R_reads' HO_0.out).2.1); (case side3 => repeat (first | exact (Kd.R_reads' HO247.out).2.2 | (with_reducible refine Kd.C_alloc ?_ _) | (with_reducible refine Kd.C_drewN ?_ _) | (with_reducible refine Kd.C_drew ?_))); (case side4 => exact (Kd.R_reads' HO247.out).2.1); rintro e w45 ⟨v250, rfl, ho0, hb⟩; refine ⟨_, rfl, ?_⟩; have n0_ := Aside0.mk (Kd.R_below (by (with_reducible repeat (first | apply Kd.R_alloc | apply Kd.R_drewN | apply Kd.R_drew)); exact HO_0.out) hb); have n1_ := Aside0.mk (Kd.R_elder' (by (with_reducible repeat (first | apply Kd.R_alloc | apply Kd.R_drewN | apply Kd.R_drew)); exact HO244.out) (Kd.R_base ho0) hb); have n2_ := Aside0.mk (Kd.R_below (by (with_reducible repeat (first | apply Kd.R_alloc | apply Kd.R_drewN | apply Kd.R_drew)); exact HO247.out) hb); have n3_ := Aside0.mk (Kd.R_lower (Kd.R_new' ho0 (Kd.R_lt (by (with_reducible repeat (first | apply Kd.R_alloc | apply Kd.R_drewN | apply Kd.R_drew)); exact HO244.out))) (below_size (by repeat (first | (with_reducible first | exact HB.out | apply below_alloc | apply pw_below_drewN | apply below_drew1 | refine below_set ?_ GE231.out) | exact HB.out)))); have n4_ := Aside0.mk (blk_below (g := gb231) (o := .cells #[.string t235, .string t236] 24 (0, 0)) (by (with_reducible repeat (first | refine blk_drewN ?_ _ | refine blk_drew ?_ | refine blk_alloc ?_ _)); exact BK231.out) hb); have n5_ := Aside0.mk (below_step (by repeat (first | (with_reducible first | exact HB.out | apply below_alloc | apply pw_below_drewN | apply below_drew1 | refine below_set ?_ GE231.out) | exact HB.out)) hb); clear HO_0; clear HO244; clear HO247; clear BK231; clear HB; have HO_0 := n0_; have HO244 := n1_; have HO247 := n2_; have HO251 := n3_; have BK231 := n4_; have HB := n5_; clear n0_ n1_ n2_ n3_ n4_ n5_; (try clear hb); (try clear hb2); (try clear hk); (try clear hi); (try clear ho0); have hcz46_0 : w45.cell? ⟨gb231, 0, none⟩ = some (.string t235) := (blk_cell BK231.out 0).trans rfl; have hcz46_1 : w45.cell? ⟨gb231, 1, none⟩ = some (.string t236) := (blk_cell BK231.out 1).trans rfl; have hfz46_0 := blk_frozen BK231.out 0; have hfz46_1 := blk_frozen BK231.out 1) | ((with_reducible refine gate_callee (f := 12) rfl ?_); refine goesL_ (some 55) rfl rfl Tryz.func12 (by kernel_rfl) rfl #[.agg #[.string t235, .string t236]] rfl (by (try simp only [List.map_toArray, List.map_cons, List.map_nil]); first | done | rfl | (simp only [List.length_drop, List.length_take]; rfl)) ?_; (with_reducible refine (graftwoodref05_May.calls k1 t235 t236 false _ A37.out).mono ?_); rintro e w47 ⟨rfl, hb⟩; refine ⟨_, rfl, ?_⟩; have n0_ := Aside0.mk (Kd.R_below (by (with_reducible repeat (first | apply Kd.R_alloc | apply Kd.R_drewN | apply Kd.R_drew)); exact HO_0.out) hb); have n1_ := Aside0.mk (Kd.R_below (by (with_reducible repeat (first | apply Kd.R_alloc | apply Kd.R_drewN | apply Kd.R_drew)); exact HO244.out) hb); have n2_ := Aside0.mk (Kd.R_below (by (with_reducible repeat (first | apply Kd.R_alloc | apply Kd.R_drewN | apply Kd.R_drew)); exact HO247.out) hb); have n3_ := Aside0.mk (Kd.R_below (by (with_reducible repeat (first | apply Kd.R_alloc | apply Kd.R_drewN | apply Kd.R_drew)); exact HO251.out) hb); have n4_ := Aside0.mk (blk_below (g := gb231) (o := .cells #[.string t235, .string t236] 24 (0, 0)) (by (with_reducible repeat (first | refine blk_drewN ?_ _ | refine blk_drew ?_ | refine blk_alloc ?_ _)); exact BK231.out) hb); have n5_ := Aside0.mk (below_step (by repeat (first | (with_reducible first | exact HB.out | apply below_alloc | apply pw_below_drewN | apply below_drew1 | refine below_set ?_ GE231.out) | exact HB.out)) hb); clear HO_0; clear HO244; clear HO247; clear HO251; clear BK231; clear HB; have HO_0 := n0_; have HO244 := n1_; have HO247 := n2_; have HO251 := n3_; have BK231 := n4_; have HB := n5_; clear n0_ n1_ n2_ n3_ n4_ n5_; (try clear hb); (try clear hb2); (try clear hk); (try clear hi)) | (go_at_call 11; (with_reducible refine (graftwoodlaw13_awake.calls  t257 _ A39.out HR_).mono ?_); rintro e w48 ⟨rfl, hb⟩; have n0_ := Aside0.mk (Kd.R_below (by (with_reducible repeat (first | apply Kd.R_alloc | apply Kd.R_drewN | apply Kd.R_drew)); exact HO_0.out) hb); have n1_ := Aside0.mk (Kd.R_below (by (with_reducible repeat (first | apply Kd.R_alloc | apply Kd.R_drewN | apply Kd.R_drew)); exact HO244.out) hb); have n2_ := Aside0.mk (Kd.R_below (by (with_reducible repeat (first | apply Kd.R_alloc | apply Kd.R_drewN | apply Kd.R_drew)); exact HO247.out) hb); have n3_ := Aside0.mk (Kd.R_below (by (with_reducible repeat (first | apply Kd.R_alloc | apply Kd.R_drewN | apply Kd.R_drew)); exact HO251.out) hb); have n4_ := Aside0.mk (blk_below (g := gb231) (o := .cells #[.string t235, .string t236] 24 (0, 0)) (by (with_reducible repeat (first | refine blk_drewN ?_ _ | refine blk_drew ?_ | refine blk_alloc ?_ _)); exact BK231.out) hb); have n5_ := Aside0.mk (below_step (by repeat (first | (with_reducible first | exact HB.out | apply below_alloc | apply pw_below_drewN | apply below_drew1 | refine below_set ?_ GE231.out) | exact HB.out)) hb); clear HO_0; clear HO244; clear HO247; clear HO251; clear BK231; clear HB; have HO_0 := n0_; have HO244 := n1_; have HO247 := n2_; have HO251 := n3_; have BK231 := n4_; have HB := n5_; clear n0_ n1_ n2_ n3_ n4_ n5_; (try clear hb); (try clear hb2); (try clear hk); (try clear hi)))
        go_ret
        exact ⟨by first | rfl | (simp [errW_none, errW_some] <;> rfl) | (simp [*, errW_none, errW_some] <;> rfl), by repeat (first | (with_reducible first | exact HB.out | apply below_alloc | apply pw_below_drewN | apply below_drew1 | refine below_set ?_ GE231.out) | exact HB.out)⟩
     ·rw [if_neg c20] at H
      have c20b0 : (t242 == 0) = false := beq_eq_false_iff_ne.mpr c20
      have c20b1 : (t242 != 0) = true := bne_iff_ne.mpr c20
      replace H := Option.bind_eq_some_iff.mp H
      obtain ⟨t252, A490, H⟩ := H
      replace H : (if t252 = true then (some false) else ((graftwoodlaw13_awake.f).bind fun t253 => (some t253))) = some r := H
      have A49 := Aside0.mk A490
      clear A490
      by_cases c50 : t252 = true
      ·subst c50
       have H1 : (some false) = some r := by rw [if_pos rfl] at H; exact H
       clear H
       have H := H1
       clear H1
       exact absurd ((Option.some.inj H).trans HR_.out) (by decide)
      ·replace c50 := Bool.eq_false_iff.mpr c50
       subst c50
       have H1 : ((graftwoodlaw13_awake.f).bind fun t253 => (some t253)) = some r := by rw [if_neg (show ¬ (false = true) by decide)] at H; exact H
       clear H
       have H := H1
       clear H1
       replace H := Option.bind_eq_some_iff.mp H
       obtain ⟨t253, A510, H⟩ := H
       replace H : (some t253) = some r := H
       have A51 := Aside0.mk A510
       clear A510
       obtain rfl := Option.some.inj H
       obtain ⟨Ao52, co52, eo52⟩ := Kd.R_slice HO_5.out
       subst eo52
       go_wp2_with (first | ((with_reducible refine gate_callee (f := 9) rfl ?_); refine goesL_ (some 32) rfl rfl Tryz.func9 (by kernel_rfl) rfl #[.slice Ao11 t232.length co11, .slice Ao52 x5_1.length co52] rfl (by (try simp only [List.map_toArray, List.map_cons, List.map_nil]); first | done | rfl | (simp only [List.length_drop, List.length_take]; rfl)) ?_; (with_reducible refine (diff_Diff.calls _ _ t232 _ _ x5_1 t241 t242 _ ?side1 ?side2 ?side3 ?side4 A17.out).mono ?_); (case side1 => repeat (first | exact (Kd.R_reads' HO_0.out).2.2 | (with_reducible refine Kd.C_alloc ?_ _) | (with_reducible refine Kd.C_drewN ?_ _) | (with_reducible refine Kd.C_drew ?_))); (case side2 => exact (Kd.R_reads' HO_0.out).2.1); (case side3 => repeat (first | exact (Kd.R_reads' HO_5.out).2.2 | (with_reducible refine Kd.C_alloc ?_ _) | (with_reducible refine Kd.C_drewN ?_ _) | (with_reducible refine Kd.C_drew ?_))); (case side4 => exact (Kd.R_reads' HO_5.out).2.1); rintro e w53 ⟨v243, rfl, ho0, hb⟩; refine ⟨_, rfl, ?_⟩; have n0_ := Aside0.mk (Kd.R_below (by (with_reducible repeat (first | apply Kd.R_alloc | apply Kd.R_drewN | apply Kd.R_drew)); exact HO_0.out) hb); have n1_ := Aside0.mk (Kd.R_below (by (with_reducible repeat (first | apply Kd.R_alloc | apply Kd.R_drewN | apply Kd.R_drew)); exact HO_5.out) hb); have n2_ := Aside0.mk (Kd.R_lower ho0 (below_size (by repeat (first | (with_reducible first | exact HB.out | apply below_alloc | apply pw_below_drewN | apply below_drew1 | refine below_set ?_ GE231.out) | exact HB.out)))); have n3_ := Aside0.mk (blk_below (g := gb231) (o := .cells #[.string t235, .string t236] 24 (0, 0)) (by (with_reducible repeat (first | refine blk_drewN ?_ _ | refine blk_drew ?_ | refine blk_alloc ?_ _)); exact BK231.out) hb); have n4_ := Aside0.mk (below_step (by repeat (first | (with_reducible first | exact HB.out | apply below_alloc | apply pw_below_drewN | apply below_drew1 | refine below_set ?_ GE231.out) | exact HB.out)) hb); clear HO_0; clear HO_5; clear BK231; clear HB; have HO_0 := n0_; have HO_5 := n1_; have HO244 := n2_; have BK231 := n3_; have HB := n4_; clear n0_ n1_ n2_ n3_ n4_; (try clear hb); (try clear hb2); (try clear hk); (try clear hi); (try clear ho0); have hcz54_0 : w53.cell? ⟨gb231, 0, none⟩ = some (.string t235) := (blk_cell BK231.out 0).trans rfl; have hcz54_1 : w53.cell? ⟨gb231, 1, none⟩ = some (.string t236) := (blk_cell BK231.out 1).trans rfl; have hfz54_0 := blk_frozen BK231.out 0; have hfz54_1 := blk_frozen BK231.out 1) | ((with_reducible refine gate_builtin (b := .append) (xs := #[.tmp 37, .tmp 39]) rfl ?_); (try (refine gate_guard (by rfl) ?_; dsimp only)); at_builtin; refine Kd.R_append k24 (w0 := w) w.heap.size rfl (.tmp 37) (.tmp 39) 22 24 (.agg #[(.string ⟨#[]⟩), (.string ⟨#[]⟩)]) 32 rfl Tryz.underlying22 info24 rfl (by decide) (by omega) (.slice Ao52 x5_1.length co52) x5_1 (⟨t235, t236⟩ : S24) [.string t235, .string t236] (fun k_ => some k_ ≠ (.slice Ao11 t232.length co11 : Value).ownBlock ∧ k_ ≠ gb231) (fun _ => False) rfl rfl ?aP (fun _ hk => hk.elim) ?aF ?aO ?aB ?aS ?aL ?_; (case aP => exact k24_mkM _ _ _ (⟨t235, t236⟩ : S24)); (case aB => exact (by repeat (first | (with_reducible first | exact HB.out | apply below_alloc | apply pw_below_drewN | apply below_drew1 | refine below_set ?_ GE231.out) | exact HB.out))); (case aF => exact (fun k_ hk => ⟨Kd.fresh' (Kd.R_lt (by (with_reducible repeat (first | apply Kd.R_alloc | apply Kd.R_drewN | apply Kd.R_drew)); exact HO_0.out)) k_ hk, Kd.freshB (g := gb231) (o := .cells #[.string t235, .string t236] 24 (0, 0)) (by (with_reducible repeat (first | refine blk_drewN ?_ _ | refine blk_drew ?_ | refine blk_alloc ?_ _)); exact BK231.out) k_ hk⟩)); (case aO => exact (by (with_reducible repeat (first | apply Kd.R_alloc | apply Kd.R_drewN | apply Kd.R_drew)); exact HO_5.out)); (case aS => exact (below_size (by repeat (first | (with_reducible first | exact HB.out | apply below_alloc | apply pw_below_drewN | apply below_drew1 | refine below_set ?_ GE231.out) | exact HB.out)))); (case aL => have := LMc18.out; omega); intro v246 w55 ho hb hg hat; rw [← Ny245.out] at ho; have n0_ := Aside0.mk (Kd.R_after (ok := (fun k_ => k_ ≠ gb231)) (by (with_reducible repeat (first | apply Kd.R_alloc | apply Kd.R_drewN | apply Kd.R_drew)); exact Kd.R_mono HO_0.out (fun _ hk => ⟨hk.2, hk.1⟩)) hg hat); have n1_ := Aside0.mk (blk_grown (g := gb231) (o := .cells #[.string t235, .string t236] 24 (0, 0)) (by (with_reducible repeat (first | refine blk_drewN ?_ _ | refine blk_drew ?_ | refine blk_alloc ?_ _)); exact BK231.out) hg (Kd.R_away HO_5.out (fun _ hk => hk.2))); have n2_ := Aside0.mk (Kd.R_over' (by (with_reducible repeat (first | apply Kd.R_alloc | apply Kd.R_drewN | apply Kd.R_drew)); exact HO244.out) (Kd.R_typed (by (with_reducible repeat (first | apply Kd.R_alloc | apply Kd.R_drewN | apply Kd.R_drew)); exact HO_5.out)) (by decide) hg); have n3_ := Aside0.mk (hb); have n4_ := Aside0.mk (ho); clear HO_0; clear BK231; clear HO244; clear HB; clear HO_5; have HO_0 := n0_; have BK231 := n1_; have HO244 := n2_; have HB := n3_; have HO247 := n4_; clear n0_ n1_ n2_ n3_ n4_; clear ho hb hg hat; obtain ⟨Ao56, co56, eo56⟩ := Kd.R_slice HO247.out; subst eo56) | ((with_reducible refine gate_callee (f := 9) rfl ?_); refine goesL_ (some 41) rfl rfl Tryz.func9 (by kernel_rfl) rfl #[.slice Ao11 t232.length co11, .slice Ao56 y245.length co56] rfl (by (try simp only [List.map_toArray, List.map_cons, List.map_nil]); first | done | rfl | (simp only [List.length_drop, List.length_take]; rfl)) ?_; (with_reducible refine (diff_Diff.calls _ _ t232 _ _ y245 t248 t249 _ ?side1 ?side2 ?side3 ?side4 A19.out).mono ?_); (case side1 => repeat (first | exact (Kd.R_reads' HO_0.out).2.2 | (with_reducible refine Kd.C_alloc ?_ _) | (with_reducible refine Kd.C_drewN ?_ _) | (with_reducible refine Kd.C_drew ?_))); (case side2 => exact (Kd.R_reads' HO_0.out).2.1); (case side3 => repeat (first | exact (Kd.R_reads' HO247.out).2.2 | (with_reducible refine Kd.C_alloc ?_ _) | (with_reducible refine Kd.C_drewN ?_ _) | (with_reducible refine Kd.C_drew ?_))); (case side4 => exact (Kd.R_reads' HO247.out).2.1); rintro e w57 ⟨v250, rfl, ho0, hb⟩; refine ⟨_, rfl, ?_⟩; have n0_ := Aside0.mk (Kd.R_below (by (with_reducible repeat (first | apply Kd.R_alloc | apply Kd.R_drewN | apply Kd.R_drew)); exact HO_0.out) hb); have n1_ := Aside0.mk (Kd.R_elder' (by (with_reducible repeat (first | apply Kd.R_alloc | apply Kd.R_drewN | apply Kd.R_drew)); exact HO244.out) (Kd.R_base ho0) hb); have n2_ := Aside0.mk (Kd.R_below (by (with_reducible repeat (first | apply Kd.R_alloc | apply Kd.R_drewN | apply Kd.R_drew)); exact HO247.out) hb); have n3_ := Aside0.mk (Kd.R_lower (Kd.R_new' ho0 (Kd.R_lt (by (with_reducible repeat (first | apply Kd.R_alloc | apply Kd.R_drewN | apply Kd.R_drew)); exact HO244.out))) (below_size (by repeat (first | (with_reducible first | exact HB.out | apply below_alloc | apply pw_below_drewN | apply below_drew1 | refine below_set ?_ GE231.out) | exact HB.out)))); have n4_ := Aside0.mk (blk_below (g := gb231) (o := .cells #[.string t235, .string t236] 24 (0, 0)) (by (with_reducible repeat (first | refine blk_drewN ?_ _ | refine blk_drew ?_ | refine blk_alloc ?_ _)); exact BK231.out) hb); have n5_ := Aside0.mk (below_step (by repeat (first | (with_reducible first | exact HB.out | apply below_alloc | apply pw_below_drewN | apply below_drew1 | refine below_set ?_ GE231.out) | exact HB.out)) hb); clear HO_0; clear HO244; clear HO247; clear BK231; clear HB; have HO_0 := n0_; have HO244 := n1_; have HO247 := n2_; have HO251 := n3_; have BK231 := n4_; have HB := n5_; clear n0_ n1_ n2_ n3_ n4_ n5_; (try clear hb); (try clear hb2); (try clear hk); (try clear hi); (try clear ho0)) | ((with_reducible refine gate_callee (f := 10) rfl ?_); refine goesL_ (some 47) rfl rfl Tryz.func10 (by kernel_rfl) rfl #[.slice Ao11 t232.length co11] rfl (by (try simp only [List.map_toArray, List.map_cons, List.map_nil]); first | done | rfl | (simp only [List.length_drop, List.length_take]; rfl)) ?_; (with_reducible refine (graftwoodlaw13_all.calls k1 _ _ t232 false _ ?side1 ?side2 A49.out).mono ?_); (case side1 => repeat (first | exact (Kd.R_reads' HO_0.out).2.2 | (with_reducible refine Kd.C_alloc ?_ _) | (with_reducible refine Kd.C_drewN ?_ _) | (with_reducible refine Kd.C_drew ?_))); (case side2 => exact (Kd.R_reads' HO_0.out).2.1); rintro e w58 ⟨rfl, hb⟩; refine ⟨_, rfl, ?_⟩; have n0_ := Aside0.mk (Kd.R_below (by (with_reducible repeat (first | apply Kd.R_alloc | apply Kd.R_drewN | apply Kd.R_drew)); exact HO_0.out) hb); have n1_ := Aside0.mk (Kd.R_below (by (with_reducible repeat (first | apply Kd.R_alloc | apply Kd.R_drewN | apply Kd.R_drew)); exact HO244.out) hb); have n2_ := Aside0.mk (Kd.R_below (by (with_reducible repeat (first | apply Kd.R_alloc | apply Kd.R_drewN | apply Kd.R_drew)); exact HO247.out) hb); have n3_ := Aside0.mk (Kd.R_below (by (with_reducible repeat (first | apply Kd.R_alloc | apply Kd.R_drewN | apply Kd.R_drew)); exact HO251.out) hb); have n4_ := Aside0.mk (blk_below (g := gb231) (o := .cells #[.string t235, .string t236] 24 (0, 0)) (by (with_reducible repeat (first | refine blk_drewN ?_ _ | refine blk_drew ?_ | refine blk_alloc ?_ _)); exact BK231.out) hb); have n5_ := Aside0.mk (below_step (by repeat (first | (with_reducible first | exact HB.out | apply below_alloc | apply pw_below_drewN | apply below_drew1 | refine below_set ?_ GE231.out) | exact HB.out)) hb); clear HO_0; clear HO244; clear HO247; clear HO251; clear BK231; clear HB; have HO_0 := n0_; have HO244 := n1_; have HO247 := n2_; have HO251 := n3_; have BK231 := n4_; have HB := n5_; clear n0_ n1_ n2_ n3_ n4_ n5_; (try clear hb); (try clear hb2); (try clear hk); (try clear hi)) | (go_at_call 11; (with_reducible refine (graftwoodlaw13_awake.calls  t253 _ A51.out HR_).mono ?_); rintro e w59 ⟨rfl, hb⟩; have n0_ := Aside0.mk (Kd.R_below (by (with_reducible repeat (first | apply Kd.R_alloc | apply Kd.R_drewN | apply Kd.R_drew)); exact HO_0.out) hb); have n1_ := Aside0.mk (Kd.R_below (by (with_reducible repeat (first | apply Kd.R_alloc | apply Kd.R_drewN | apply Kd.R_drew)); exact HO244.out) hb); have n2_ := Aside0.mk (Kd.R_below (by (with_reducible repeat (first | apply Kd.R_alloc | apply Kd.R_drewN | apply Kd.R_drew)); exact HO247.out) hb); have n3_ := Aside0.mk (Kd.R_below (by (with_reducible repeat (first | apply Kd.R_alloc | apply Kd.R_drewN | apply Kd.R_drew)); exact HO251.out) hb); have n4_ := Aside0.mk (blk_below (g := gb231) (o := .cells #[.string t235, .string t236] 24 (0, 0)) (by (with_reducible repeat (first | refine blk_drewN ?_ _ | refine blk_drew ?_ | refine blk_alloc ?_ _)); exact BK231.out) hb); have n5_ := Aside0.mk (below_step (by repeat (first | (with_reducible first | exact HB.out | apply below_alloc | apply pw_below_drewN | apply below_drew1 | refine below_set ?_ GE231.out) | exact HB.out)) hb); clear HO_0; clear HO244; clear HO247; clear HO251; clear BK231; clear HB; have HO_0 := n0_; have HO244 := n1_; have HO247 := n2_; have HO251 := n3_; have BK231 := n4_; have HB := n5_; clear n0_ n1_ n2_ n3_ n4_ n5_; (try clear hb); (try clear hb2); (try clear hk); (try clear hi)))
       go_ret
       exact ⟨by first | rfl | (simp [errW_none, errW_some] <;> rfl) | (simp [*, errW_none, errW_some] <;> rfl), by repeat (first | (with_reducible first | exact HB.out | apply below_alloc | apply pw_below_drewN | apply below_drew1 | refine below_set ?_ GE231.out) | exact HB.out)⟩
    ·rw [if_neg c18] at H
     exact absurd H (by simp)
end Go.Proofs.YtcfphieogalnbaaGreatDoor.Q
end

section
namespace Go.Proofs.YtcfphieogalnbaaGreatDoor.Q
open Go.RowKit Gw
set_option linter.unusedVariables false
theorem cutDash_split : ∀ r : List Nat, r = (cutDash r).1 ++ (match (cutDash r).2 with | none => [] | some p => 45 :: p)
  | [] => rfl
  | c :: r => by
    have ih := cutDash_split r
    by_cases h : c = 45
    · subst h; rfl
    · simp only [cutDash, if_neg h, List.cons_append]
      rw [← ih]
theorem cutFrom_v (r : List Nat) : cutFrom (118 :: r) 0 = (cutDash r).1.length + 1 := by simp [cutFrom, cutDash]
theorem take_v (r : List Nat) : ((118 :: r).take (cutFrom (118 :: r) 0)).drop 1 = (cutDash r).1 := by
  rw [cutFrom_v, List.take_succ_cons, List.drop_succ_cons, List.drop_zero]
  have h := cutDash_split r
  generalize (cutDash r).1 = x at *
  generalize (cutDash r).2 = y at *
  rw [h, List.take_left']
  rfl
theorem drop_v (r p : List Nat) (hp : (cutDash r).2 = some p) : (118 :: r).drop (cutFrom (118 :: r) 0 + 1) = p := by
  rw [cutFrom_v, List.drop_succ_cons]
  have h := cutDash_split r
  rw [hp] at h
  generalize (cutDash r).1 = x at *
  rw [h]
  simp
theorem cut_size (r : List Nat) : cutFrom (118 :: r) 0 = (118 :: r).length ↔ (cutDash r).2 = none := by
  rw [cutFrom_v, List.length_cons]
  have h := congrArg List.length (cutDash_split r)
  rw [List.length_append] at h
  cases hp : (cutDash r).2 with
  | none => rw [hp] at h; simp at h; simp; omega
  | some p => rw [hp] at h; simp at h; simp; omega
theorem splitOf_len (s : ByteArray) (cut : Nat) (l : List ByteArray) (h : l.length ≠ 3) : splitOf s cut l = zeroV := by
  match l, h with
  | [], _ => rfl
  | [_], _ => rfl
  | [_, _], _ => rfl
  | [_, _, _], h => exact absurd rfl h
  | _ :: _ :: _ :: _ :: _, _ => rfl
theorem splitV_ok (s : ByteArray) : (splitV s).2.2.2.2 = isVersion (bs s) := by
  unfold splitV
  cases hb : bs s with
  | nil => rfl
  | cons c r =>
    rw [if_neg (by simp)]
    by_cases h : c = 118
    · subst h
      rw [if_pos (by simp)]
      have hsz : s.size = (118 :: r).length := by rw [← bs_length, hb]
      unfold splitS
      rw [hb, take_v]
      simp only [isVersion, coreOk]
      by_cases h3 : (parts 46 (cutDash r).1).length = 3
      · obtain ⟨a, b, c, hp⟩ : ∃ a b c, parts 46 (cutDash r).1 = [a, b, c] := by
          match parts 46 (cutDash r).1, h3 with
          | [a, b, c], _ => exact ⟨a, b, c, rfl⟩
        have ho : ∀ p ∈ parts 46 (cutDash r).1, ∀ x ∈ p, x < 256 := by
          refine parts_oct (fun x hx => bs_oct s x ?_)
          rw [hb]
          refine List.mem_cons_of_mem _ ?_
          rw [cutDash_split r]
          exact List.mem_append_left _ hx
        rw [hp] at ho ⊢
        simp only [List.map_cons, List.map_nil, splitOf, bs_ofB (ho a (by simp)), bs_ofB (ho b (by simp)), bs_ofB (ho c (by simp))]
        simp only [List.length_cons, List.length_nil, List.all_cons, List.all_nil, Bool.and_true]
        by_cases hn : (isNum a && isNum b && isNum c) = true
        · rw [if_pos hn, hsz]
          rw [show (isNum a && (isNum b && isNum c)) = true from by rw [← Bool.and_assoc]; exact hn]
          by_cases hc : cutFrom (118 :: r) 0 = (118 :: r).length
          · rw [if_pos hc, (cut_size r).1 hc]; rfl
          · rw [if_neg hc]
            cases hp2 : (cutDash r).2 with
            | none => exact absurd ((cut_size r).2 hp2) hc
            | some p =>
              rw [hb, drop_v r p hp2]
              simp only [preOk]
              by_cases hw : (parts 46 p).all isWord = true
              · rw [if_pos hw, hw]; rfl
              · rw [if_neg hw, Bool.eq_false_iff.2 hw]; rfl
        · rw [if_neg hn, show (isNum a && (isNum b && isNum c)) = false from by rw [← Bool.and_assoc]; exact Bool.eq_false_iff.2 hn]; rfl
      · rw [splitOf_len _ _ _ (by rw [List.length_map]; exact h3), beq_eq_false_iff_ne.2 h3]; rfl
    · rw [if_neg (by simp; exact h)]
      unfold isVersion
      split
      · rename_i heq; exact absurd (List.cons.inj heq).1 h
      · rfl
end Go.Proofs.YtcfphieogalnbaaGreatDoor.Q
end

section
namespace Go.Proofs.YtcfphieogalnbaaGreatDoor.Q
open Go Go.RowKit Go.Lib Go.Proofs.YtcfphieogalnbaaGreatDoorW.PrintWords Go.Proofs.YtcfphieogalnbaaGreatDoorW.PrintLast Go.Proofs.YtcfphieogalnbaaGreatDoorW.PrintMore Gw
set_option linter.unusedVariables false
set_option linter.unusedSimpArgs false
theorem split_some (s : ByteArray) (p q r : List Nat) (l : List (List Nat)) (h : vparts (bs s) = some (p, q, r, l)) : splitV s = (ofB p, ofB q, ofB r, l.map ofB, true) := by
  have hv : isVersion (bs s) = true := by rw [← vparts_some, h]; rfl
  unfold splitV
  cases hb : bs s with
  | nil => rw [hb] at h; cases h
  | cons c t =>
    rw [if_neg (by simp)]
    by_cases hc : c = 118
    · subst hc
      rw [if_pos (by simp)]
      have hsz : s.size = (118 :: t).length := by rw [← bs_length, hb]
      unfold splitS
      rw [hb, take_v]
      rw [hb] at h
      have h' : vcore (cutDash t).1 (cutDash t).2 = some (p, q, r, l) := h
      unfold vcore at h'
      split at h'
      · rename_i a b c hp
        split at h'
        · rename_i hn
          have ho : ∀ p ∈ parts 46 (cutDash t).1, ∀ x ∈ p, x < 256 := by
            refine parts_oct (fun x hx => bs_oct s x ?_)
            rw [hb]
            refine List.mem_cons_of_mem _ ?_
            rw [cutDash_split t]
            exact List.mem_append_left _ hx
          rw [hp] at ho ⊢
          simp only [List.map_cons, List.map_nil, splitOf, bs_ofB (ho a (by simp)), bs_ofB (ho b (by simp)), bs_ofB (ho c (by simp))]
          rw [if_pos hn, hsz]
          unfold vpre at h'
          split at h'
          · rename_i hc
            rw [if_pos ((cut_size t).2 hc)]
            injection h' with h'
            simp only [Prod.mk.injEq] at h'
            obtain ⟨rfl, rfl, rfl, rfl⟩ := h'
            rfl
          · rename_i pp hc
            rw [if_neg (fun e => by rw [(cut_size t).1 e] at hc; cases hc), hb, drop_v t pp hc]
            split at h'
            · rename_i hw
              injection h' with h'
              simp only [Prod.mk.injEq] at h'
              obtain ⟨rfl, rfl, rfl, rfl⟩ := h'
              rw [if_pos hw]
            · cases h'
        · cases h'
      · cases h'
    · rw [hb] at hv
      unfold isVersion at hv
      split at hv <;> simp_all
theorem rcmp1_l0 (a b : ByteArray) (ha : Small a) (hb : Small b) : ∀ (n i k : Nat), a.size ≤ i + n → i ≤ a.size → i ≤ b.size → 2 * n + 2 ≤ k →
    graftwoodref01_Cmp.l0 k a b (i : Int) = some (lexC ((bs a).drop i) ((bs b).drop i)) := by
  intro n
  induction n with
  | zero =>
    intro i k h1 h2 h3 hk
    obtain ⟨j, rfl⟩ : ∃ j, k = j + 2 := ⟨k - 2, by omega⟩
    have e : i = a.size := by omega
    subst e
    rw [List.drop_eq_nil_of_le (by rw [bs_length]; exact Nat.le_refl _)]
    simp only [graftwoodref01_Cmp.l0, graftwoodref01_Cmp.j1]
    rw [if_neg (by omega)]
    simp only [Bool.false_eq_true, if_false]
    by_cases h : a.size < b.size
    · rw [if_pos (by omega), List.drop_eq_getElem_cons (by rw [bs_length]; exact h)]
      rfl
    · rw [if_neg (by omega), if_neg (by omega), List.drop_eq_nil_of_le (by rw [bs_length]; omega)]
      rfl
  | succ n ih =>
    intro i k h1 h2 h3 hk
    obtain ⟨j, rfl⟩ : ∃ j, k = j + 2 := ⟨k - 2, by omega⟩
    by_cases h : i < a.size
    · by_cases h' : i < b.size
      · have d1 : (bs a).drop i = (bs a)[i]'(by rw [bs_length]; exact h) :: (bs a).drop (i + 1) := List.drop_eq_getElem_cons _
        have d2 : (bs b).drop i = (bs b)[i]'(by rw [bs_length]; exact h') :: (bs b).drop (i + 1) := List.drop_eq_getElem_cons _
        have t1 := (bt_drop d1).2.1
        have t2 := (bt_drop d2).2.1
        rw [d1, d2]
        simp only [graftwoodref01_Cmp.l0, graftwoodref01_Cmp.j1]
        rw [if_pos (by omega), decide_eq_true (show (i : Int) < (b.size : Int) by omega), if_pos rfl, if_pos (by omega), if_pos (by omega), if_pos (by omega), t1, t2]
        generalize (bs a)[i]'(by rw [bs_length]; exact h) = x
        generalize (bs b)[i]'(by rw [bs_length]; exact h') = y
        simp only [lexC]
        by_cases c1 : x < y
        · rw [if_pos (by omega), if_pos c1]
        · rw [if_neg (by omega), if_neg c1]
          by_cases c2 : y < x
          · rw [if_pos (by omega), if_pos c2]
          · rw [if_neg (by omega), if_neg c2, show wrap64 ((i : Int) + 1) = ((i + 1 : Nat) : Int) by unfold wrap64; unfold Small at ha; omega]
            exact ih (i + 1) j (by omega) (by omega) (by omega) (by omega)
      · simp only [graftwoodref01_Cmp.l0, graftwoodref01_Cmp.j1]
        rw [if_pos (by omega), decide_eq_false (show ¬ (i : Int) < (b.size : Int) by omega), List.drop_eq_getElem_cons (show i < (bs a).length by rw [bs_length]; exact h), List.drop_eq_nil_of_le (show (bs b).length ≤ i by rw [bs_length]; omega)]
        simp only [Bool.false_eq_true, if_false]
        rw [if_neg (by omega), if_pos (by omega)]
        rfl
    · exact ih i (j + 2) (by omega) h2 h3 (by omega)
theorem rcmp1_val (a b : ByteArray) (ha : Small a) (hb : Small b) (k : Nat) (hk : 2 * a.size + 2 ≤ k) : graftwoodref01_Cmp.f k a b = some (lexC (bs a) (bs b)) := by
  have h := rcmp1_l0 a b ha hb a.size 0 k (by omega) (Nat.zero_le _) (Nat.zero_le _) hk
  exact h
/-- The digit of a place from the lowest one on. -/
def atI (l : List Nat) (i : Nat) : Int := if i ≥ l.length then 0 else ((l.getD (l.length - 1 - i) 48 : Nat) : Int) - 48
theorem at_val (s : ByteArray) (hs : Small s) (hd : (bs s).all dig = true) (i : Nat) (hi : i ≤ 4398046511104) : graftwoodref02_at.f s (i : Int) = some (atI (bs s) i) := by
  unfold graftwoodref02_at.f atI
  rw [bs_length]
  by_cases h : i ≥ s.size
  · rw [if_pos (by omega), if_pos h]
  · have hw : wrap64 (wrap64 ((s.size : Int) - 1) - (i : Int)) = ((s.size - 1 - i : Nat) : Int) := by unfold wrap64; unfold Small at hs; omega
    have hl : s.size - 1 - i < (bs s).length := by rw [bs_length]; omega
    have hb : bt s ((s.size - 1 - i : Nat) : Int) = (((bs s)[s.size - 1 - i]'hl : Nat) : Int) := bt_at_get s _ (by omega)
    have hmem : (bs s)[s.size - 1 - i]'hl ∈ bs s := List.getElem_mem _
    have hdg := List.all_eq_true.1 hd _ hmem
    rw [if_neg (by omega), if_neg h, hw, if_pos (by omega), if_pos (by omega), hb, digit_tot _ (bs_oct s _ hmem), if_pos hdg]
    simp [List.getD_eq_getElem?_getD, List.getElem?_eq_getElem hl]
theorem rnum_l0 (a b : ByteArray) (ha : Small a) (hb : Small b) (da : (bs a).all dig = true) (db : (bs b).all dig = true) (hl : a.size = b.size) : ∀ (n k : Nat), n ≤ a.size → n + 1 ≤ k →
    graftwoodref02_Cmp.l0 k a b ((n : Int) - 1) = some (lexC ((bs a).drop (a.size - n)) ((bs b).drop (a.size - n))) := by
  intro n
  induction n with
  | zero =>
    intro k h1 hk
    obtain ⟨j, rfl⟩ : ∃ j, k = j + 1 := ⟨k - 1, by omega⟩
    rw [List.drop_eq_nil_of_le (by rw [bs_length]; omega), List.drop_eq_nil_of_le (by rw [bs_length]; omega)]
    simp [graftwoodref02_Cmp.l0, lexC]
  | succ n ih =>
    intro k h1 hk
    obtain ⟨j, rfl⟩ : ∃ j, k = j + 1 := ⟨k - 1, by omega⟩
    have e : ((n + 1 : Nat) : Int) - 1 = (n : Int) := by omega
    have la : a.size - (n + 1) < (bs a).length := by rw [bs_length]; omega
    have lb : a.size - (n + 1) < (bs b).length := by rw [bs_length]; omega
    have va := at_val a ha da n (by unfold Small at ha; omega)
    have vb := at_val b hb db n (by unfold Small at ha; omega)
    have xa : atI (bs a) n = (((bs a)[a.size - (n + 1)]'la : Nat) : Int) - 48 := by
      unfold atI
      rw [bs_length, if_neg (by omega), show a.size - 1 - n = a.size - (n + 1) by omega]
      simp [List.getD_eq_getElem?_getD, List.getElem?_eq_getElem la]
    have xb : atI (bs b) n = (((bs b)[a.size - (n + 1)]'lb : Nat) : Int) - 48 := by
      unfold atI
      rw [bs_length, if_neg (by omega), show b.size - 1 - n = a.size - (n + 1) by omega]
      simp [List.getD_eq_getElem?_getD, List.getElem?_eq_getElem lb]
    rw [e, List.drop_eq_getElem_cons la, List.drop_eq_getElem_cons lb, show a.size - (n + 1) + 1 = a.size - n by omega]
    simp only [graftwoodref02_Cmp.l0]
    rw [if_pos (by omega), va, vb]
    simp only [Option.bind_some]
    rw [xa, xb]
    have ih' := ih j (by omega) (by omega)
    rw [show wrap64 ((n : Int) - 1) = (n : Int) - 1 by unfold wrap64; unfold Small at ha; omega, ih']
    generalize (bs a)[a.size - (n + 1)]'la = x
    generalize (bs b)[a.size - (n + 1)]'lb = y
    simp only [lexC]
    by_cases c1 : x < y
    · rw [if_pos (by omega), if_pos c1]
    · rw [if_neg (by omega), if_neg c1]
      by_cases c2 : y < x
      · rw [if_pos (by omega), if_pos c2]
      · rw [if_neg (by omega), if_neg c2]
theorem lead_digit {s : List Nat} (h : isNum s = true) (hl : 2 ≤ s.length) : 49 ≤ s.getD 0 48 := by
  match s, hl with
  | c :: d :: r, _ =>
    unfold isNum at h
    simp only [List.all_cons, List.isEmpty_cons, Bool.false_or, Bool.and_eq_true, bne_iff_ne] at h
    have := h.1.1
    simp only [dig, Bool.and_eq_true, decide_eq_true_eq] at this
    have h2 := h.2
    simp
    omega
theorem num_dig {s : List Nat} (h : isNum s = true) : s.all dig = true := by
  unfold isNum at h
  rw [Bool.and_eq_true] at h
  exact h.1
theorem num_ne {s : List Nat} (h : isNum s = true) : 1 ≤ s.length := by
  cases s with
  | nil => simp [isNum] at h
  | cons => simp
theorem rnum_val (a b : ByteArray) (ha : Small a) (hb : Small b) (na : isNum (bs a) = true) (nb : isNum (bs b) = true) (k : Nat) (hk : a.size + b.size + 2 ≤ k) : graftwoodref02_Cmp.f k a b = some (numC (bs a) (bs b)) := by
  have la := num_ne na
  have lb := num_ne nb
  rw [bs_length] at la lb
  unfold graftwoodref02_Cmp.f numC
  rw [bs_length, bs_length]
  have hsa : a.size ≤ 4398046511104 := ha
  have hsb : b.size ≤ 4398046511104 := hb
  rcases Nat.lt_trichotomy a.size b.size with h | h | h
  · have e : wrap64 (mx (a.size : Int) (b.size : Int) - 1) = ((b.size - 1 : Nat) : Int) := by unfold wrap64 mx; (repeat' split) <;> omega
    rw [e]
    obtain ⟨j, rfl⟩ : ∃ j, k = j + 1 := ⟨k - 1, by omega⟩
    simp only [graftwoodref02_Cmp.l0]
    rw [if_pos (by omega), at_val a ha (num_dig na) _ (by omega), at_val b hb (num_dig nb) _ (by omega)]
    simp only [Option.bind_some]
    have x1 : atI (bs a) (b.size - 1) = 0 := by unfold atI; rw [bs_length, if_pos (by omega)]
    have x2 : 1 ≤ atI (bs b) (b.size - 1) := by
      have := lead_digit nb (by rw [bs_length]; omega)
      unfold atI
      rw [bs_length, if_neg (by omega), show b.size - 1 - (b.size - 1) = 0 by omega]
      omega
    rw [x1, if_pos (by omega)]
    simp [cmpN, h, orI]
  · have e : wrap64 (mx (a.size : Int) (b.size : Int) - 1) = (a.size : Int) - 1 := by unfold wrap64 mx; (repeat' split) <;> omega
    rw [e, rnum_l0 a b ha hb (num_dig na) (num_dig nb) h a.size k (Nat.le_refl _) (by omega), Nat.sub_self]
    simp [cmpN, h, orI]
  · have e : wrap64 (mx (a.size : Int) (b.size : Int) - 1) = ((a.size - 1 : Nat) : Int) := by unfold wrap64 mx; (repeat' split) <;> omega
    rw [e]
    obtain ⟨j, rfl⟩ : ∃ j, k = j + 1 := ⟨k - 1, by omega⟩
    simp only [graftwoodref02_Cmp.l0]
    rw [if_pos (by omega), at_val a ha (num_dig na) _ (by omega), at_val b hb (num_dig nb) _ (by omega)]
    simp only [Option.bind_some]
    have x1 : atI (bs b) (a.size - 1) = 0 := by unfold atI; rw [bs_length, if_pos (by omega)]
    have x2 : 1 ≤ atI (bs a) (a.size - 1) := by
      have := lead_digit na (by rw [bs_length]; omega)
      unfold atI
      rw [bs_length, if_neg (by omega), show a.size - 1 - (a.size - 1) = 0 by omega]
      omega
    rw [x1, if_neg (by omega), if_pos (by omega)]
    have h3 : ¬ a.size < b.size := by omega
    simp [cmpN, h, h3, orI]
theorem rwords_val (a b : ByteArray) (ha : Small a) (hb : Small b) (k : Nat) (hk : 2 * a.size + b.size + 4 ≤ k) : graftwoodref03_words.f k a b = some (wordC (bs a) (bs b)) := by
  obtain ⟨j, rfl⟩ : ∃ j, k = j + 1 := ⟨k - 1, by omega⟩
  unfold graftwoodref03_words.f
  rw [ref2May_tot a ha _ (by omega), ref2May_tot b hb _ (by omega)]
  cases na : isNum (bs a) <;> cases nb : isNum (bs b)
  · simp [graftwoodref03_words.j0, wordC, na, nb, rcmp1_val a b ha hb j (by omega)]
  · simp [graftwoodref03_words.j0, wordC, na, nb]
  · simp [graftwoodref03_words.j0, wordC, na, nb]
  · simp [graftwoodref03_words.j0, wordC, na, nb, rnum_val a b ha hb na nb j (by omega)]
end Go.Proofs.YtcfphieogalnbaaGreatDoor.Q
end

section
namespace Go.Proofs.YtcfphieogalnbaaGreatDoor.Q
open Go.Proofs.YtcfphieogalnbaaGreatDoor.QB.D
open Go Go.RowKit Go.Lib Go.Proofs.YtcfphieogalnbaaGreatDoorW.PrintWords Go.Proofs.YtcfphieogalnbaaGreatDoorW.PrintLast Go.Proofs.YtcfphieogalnbaaGreatDoorW.PrintMore Gw
set_option linter.unusedVariables false
set_option linter.unusedSimpArgs false
theorem ref5May_val (k : Nat) (x : S24) (hx : Brief x) (hk : 900 ≤ k) : graftwoodref05_May.f k x.f0 x.f1 = some (mayN x) := by
  have h0 : Small x.f0 := by have := hx.1; unfold Small; omega
  have h1 : Small x.f1 := by have := hx.2; unfold Small; omega
  unfold graftwoodref05_May.f
  rw [ref4May_tot _ h0 k (by have := hx.1; omega)]
  unfold graftwoodref03_May.f graftwoodref03_Split.f
  rw [if_pos h1]
  simp only [Option.bind_some]
  rw [splitV_ok]
  show _ = some (isPath (bs x.f0) && isVersion (bs x.f1))
  cases isPath (bs x.f0) <;> rfl
theorem all13_l0 (l : List S24) (hl : l.length ≤ 65536) (hb : ∀ x ∈ l, Brief x) : ∀ (r i k : Nat), i + r = l.length → r + 1000 ≤ k → graftwoodlaw13_all.l0 k l (i : Int) = some ((l.drop i).all mayN) := by
  intro r
  induction r with
  | zero =>
    intro i k hi hk
    obtain ⟨j, rfl⟩ : ∃ j, k = j + 1 := ⟨k - 1, by omega⟩
    simp only [graftwoodlaw13_all.l0]
    rw [if_neg (by omega), List.drop_eq_nil_of_le (by omega)]
    rfl
  | succ r ih =>
    intro i k hi hk
    obtain ⟨j, rfl⟩ : ∃ j, k = j + 1 := ⟨k - 1, by omega⟩
    have hil : i < l.length := by omega
    have hrd : rd_T24 l (i : Int) = l[i] := by simp [rd_T24, List.getD_eq_getElem?_getD, List.getElem?_eq_getElem hil]
    have hwr : wrap64 ((i : Int) + 1) = ((i + 1 : Nat) : Int) := by unfold wrap64; omega
    simp only [graftwoodlaw13_all.l0]
    rw [if_pos (by omega), if_pos (by omega), hrd, ref5May_val j l[i] (hb _ (List.getElem_mem hil)) (by omega), List.drop_eq_getElem_cons hil, List.all_cons]
    simp only [Option.bind_some]
    cases mayN l[i]
    · rfl
    · rw [if_pos rfl, hwr, ih (i + 1) j (by omega) (by omega), Bool.true_and]
theorem all13_val (l : List S24) (hl : l.length ≤ 65536) (hb : ∀ x ∈ l, Brief x) (k : Nat) (hk : l.length + 1000 ≤ k) : graftwoodlaw13_all.f k l = some (l.all mayN) := by
  have h := all13_l0 l hl hb l.length 0 k (by omega) (by omega)
  rwa [List.drop_zero] at h
theorem diff_val (l m : List S24) (hl : l.length ≤ 100) (hm : m.length ≤ 100) (bl : ∀ x ∈ l, Brief x) (bm : ∀ x ∈ m, Brief x) : diff_Diff.f l m = some (if l.all mayN = true ∧ m.all mayN = true then (diffV l m, 0) else ([], 1)) :=
  if_pos ⟨by omega, by omega, fun x h => (bl x h).tiny, fun x h => (bm x h).tiny⟩
theorem diffOrder_end (F : List S24) (hF : F.length ≤ 24) (bF : ∀ x ∈ F, Brief x) (n : S24) (bn : Brief n) (k : Nat) (hk : 2000 ≤ k) :
    graftwoodlaw13_DiffOrder.l0 (k + 1) F F.reverse (-1) n.f0 n.f1 = some true := by
  have hrl : F.reverse.length = F.length := List.length_reverse
  have h1 := diff_val F F.reverse (by omega) (by omega) bF (fun x h => bF x (List.mem_reverse.1 h))
  have h2 := diff_val F (F.reverse ++ [n]) (by omega) (by rw [List.length_append, hrl]; simp; omega) bF (fun x h => by
    rcases List.mem_append.1 h with h | h
    · exact bF x (List.mem_reverse.1 h)
    · rw [List.mem_singleton] at h; rw [h]; exact bn)
  have h3 := all13_val F (by omega) bF k (by omega)
  have h4 := ref5May_val k n bn (by omega)
  have hra : F.reverse.all mayN = F.all mayN := by rw [Bool.eq_iff_iff]; simp
  rw [hra] at h1
  rw [List.all_append, hra] at h2
  simp only [graftwoodlaw13_DiffOrder.l0]
  rw [if_neg (by omega), h1]
  simp only [Option.bind_some]
  rw [if_pos (by omega), h2]
  simp only [Option.bind_some]
  cases hall : F.all mayN
  · have e1 : ¬ (false = true ∧ false = true) := by simp
    have e2 : ¬ (false = true ∧ (false && [n].all mayN) = true) := by simp
    rw [if_neg e1, if_neg e2, if_neg (by decide), h3, hall]
    simp only [Option.bind_some]
    rw [if_neg (by decide), awake13_val]
    rfl
  · cases hn : mayN n
    · have e1 : (true = true ∧ true = true) := ⟨rfl, rfl⟩
      have e2 : ¬ (true = true ∧ (true && [n].all mayN) = true) := by simp [hn]
      rw [if_pos e1, if_neg e2, if_pos rfl, if_neg (by decide), h4, hn]
      simp only [Option.bind_some]
      rw [if_neg (by decide), awake13_val]
      rfl
    · have e1 : (true = true ∧ true = true) := ⟨rfl, rfl⟩
      have e2 : (true = true ∧ (true && [n].all mayN) = true) := by simp [hn]
      have d1 : diffV F F.reverse = [] := diffV_same (fun x => (cntN_perm (List.reverse_perm F) x).symm)
      have hok := diffC_ok F (F.reverse ++ [n]) (by omega) (by rw [List.length_append, hrl]; simp; omega) (fun x h => ⟨(bF x h).tiny, List.all_eq_true.1 hall x h⟩) (fun x h => by
        rcases List.mem_append.1 h with h | h
        · exact ⟨(bF x (List.mem_reverse.1 h)).tiny, List.all_eq_true.1 hall x (List.mem_reverse.1 h)⟩
        · rw [List.mem_singleton] at h; rw [h]; exact ⟨bn.tiny, hn⟩)
      have d2 : diffV F (F.reverse ++ [n]) = [⟨n, 1⟩] := diffV_more n hok.nodup (by simp) (fun x => by rw [cntN_append, cntN_perm (List.reverse_perm F) x, cntN_cons]; simp [cntN])
      rw [if_pos e1, if_pos e2, d1, d2]
      dsimp only
      rw [if_pos rfl, if_pos rfl]
      have hrd : rd_T35 [⟨n, 1⟩] 0 = ⟨n, 1⟩ := by simp [rd_T35]
      rw [if_pos (by rfl), if_pos (by rfl), if_pos (by simp), hrd, awake13_val]
      simp
theorem diffOrder_l0 (F : List S24) (hF : F.length ≤ 24) (bF : ∀ x ∈ F, Brief x) (n : S24) (bn : Brief n) : ∀ (i k : Nat), i ≤ F.length → i + 2001 ≤ k →
    graftwoodlaw13_DiffOrder.l0 k F (F.drop i).reverse ((i : Int) - 1) n.f0 n.f1 = some true := by
  intro i
  induction i with
  | zero =>
    intro k hi hk
    obtain ⟨j, rfl⟩ : ∃ j, k = j + 1 := ⟨k - 1, by omega⟩
    rw [List.drop_zero]
    exact diffOrder_end F hF bF n bn j (by omega)
  | succ i ih =>
    intro k hi hk
    obtain ⟨j, rfl⟩ : ∃ j, k = j + 1 := ⟨k - 1, by omega⟩
    have hil : i < F.length := by omega
    have hrd : rd_T24 F (((i + 1 : Nat) : Int) - 1) = F[i] := by rw [show ((i + 1 : Nat) : Int) - 1 = (i : Int) by omega]; simp [rd_T24, List.getD_eq_getElem?_getD, List.getElem?_eq_getElem hil]
    have hwr : wrap64 (((i + 1 : Nat) : Int) - 1 - 1) = (i : Int) - 1 := by unfold wrap64; omega
    have ih' := ih j (by omega) (by omega)
    rw [List.drop_eq_getElem_cons hil, List.reverse_cons] at ih'
    simp only [graftwoodlaw13_DiffOrder.l0]
    rw [if_pos (by omega), if_pos (by omega), if_pos (by omega), if_pos (by rw [List.length_reverse, List.length_drop]; omega), hrd, hwr]
    exact ih'
theorem diffOrder_true (K : Nat) (hK : 8589935999 ≤ K) (l : List S24) (n0 n1 : ByteArray) : graftwoodlaw13_DiffOrder.f (K + 1) l n0 n1 = some true := by
  unfold graftwoodlaw13_DiffOrder.f
  rw [fewN_val l _ (by omega), One_val]
  simp only [Option.bind_some]
  have hl := fewN_len l
  have h := diffOrder_l0 (fewN l) hl (fewN_brief l) ⟨few n0, few n1⟩ (oneN_brief ⟨n0, n1⟩) (fewN l).length (K + 1) (Nat.le_refl _) (by omega)
  rw [List.drop_length, List.reverse_nil] at h
  rw [show wrap64 (((fewN l).length : Int) - 1) = ((fewN l).length : Int) - 1 by unfold wrap64; omega]
  exact h
end Go.Proofs.YtcfphieogalnbaaGreatDoor.Q
end
