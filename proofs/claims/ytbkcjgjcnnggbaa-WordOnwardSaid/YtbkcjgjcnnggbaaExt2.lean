/- Word: word.read's contract: the printed walk at the kinds that there are, with what the kit's print has no law for (l == nil) laid by hand; at other kinds by hand. No conditions. -/
import Derived.Test.YtbkcjgjcnnggbaaExt
import Derived.WalkSpells
namespace Go.Proofs.Ytbkcjgjcnnggbaa.Q
open Go.RowKit Go.Proofs.YtbkcjgjcnnggbaaW.PrintWords Go.Proofs.YtbkcjgjcnnggbaaW.PrintLast Go.Proofs.YtbkcjgjcnnggbaaW.PrintMore
attribute [local go_sem] max2_int min2_int max_two min_two max_three min_three max_four min_four
set_option linter.unusedVariables false
set_option linter.unusedSimpArgs false
/-! ### word_step: function 26 -/
def word_step.l0 : Nat → Int → List (S54) → Int → Int → Option (Int × Bool)
  | 0, _, _, _, _ => none
  | k + 1, x1, x9, x10, x11 => if x11 < x10 then (if 0 ≤ x11 then (if x11 < (x9.length : Int) then ((strings_IndexByte.f ((rd_T54 x9 x11).f0) x1).bind fun t105 => (if t105 ≥ 0 then (some ((rd_T54 x9 x11).f1, true)) else (word_step.l0 k x1 x9 x10 (wrap64 (x11 + 1))))) else (none)) else (none)) else (some (0, false))
def word_step.f (k : Nat) (l0_0 : List (S54)) (a0_1 : Bool) (a0_2 : ByteArray) (a1 : Int) : Option (Int × Bool) := word_step.l0 k a1 l0_0 (l0_0.length : Int) 0
theorem word_step.mono_l : ∀ k, (∀ y0 y1 y2 y3, LeO (word_step.l0 k y0 y1 y2 y3) (word_step.l0 (k + 1) y0 y1 y2 y3))
  | 0 => fun _ _ _ _ r h => by simp [word_step.l0] at h
  | k + 1 => by
    have ih0 := word_step.mono_l k
    · intro y0 y1 y2 y3
      unfold word_step.l0
      repeat' first
      | (with_reducible exact ih0 _ _ _ _)
      | (with_reducible exact LeO.refl _)
      | (with_reducible exact LeO.none _)
      | (with_reducible refine LeO.ite ?_ ?_)
      | (with_reducible refine LeO.bind ?_ (fun _ => ?_))
      | exact ih0 _ _ _ _
      | exact LeO.none _
      | refine LeO.ite ?_ ?_
      | refine LeO.bind ?_ (fun _ => ?_)
theorem word_step.mono : ∀ a0 a1 a2 a3 k, LeO (word_step.f k a0 a1 a2 a3) (word_step.f (k + 1) a0 a1 a2 a3) := by
  intro a0 a1 a2 a3 k
  have ih0 := word_step.mono_l k
  unfold word_step.f
  repeat' first
      | (with_reducible exact ih0 _ _ _ _)
      | (with_reducible exact LeO.refl _)
      | (with_reducible exact LeO.none _)
      | (with_reducible refine LeO.ite ?_ ?_)
      | (with_reducible refine LeO.bind ?_ (fun _ => ?_))
      | exact ih0 _ _ _ _
      | exact LeO.none _
      | refine LeO.ite ?_ ?_
      | refine LeO.bind ?_ (fun _ => ?_)
set_option maxHeartbeats 8000000 in
set_option maxRecDepth 100000 in
theorem word_step.calls (k : Nat) (A0_0 : Option Addr) (c0_0 : Nat) (l0_0 : List (S54)) (a0_1 : Bool) (a0_2 : ByteArray) (a1 : Int) (r1 : Int) (r2 : Bool) (w : World) (hr0_0 : Kd.C k54 w A0_0 l0_0.length l0_0) (hc0_0 : l0_0.length ≤ c0_0) (h : word_step.f k l0_0 a0_1 a0_2 a1 = some (r1, r2)) :
    Calls Try.prog 26 #[.agg #[.slice A0_0 l0_0.length c0_0, .bool a0_1, .string a0_2], .int .u8 a1] w fun e w' => e = .returned (.tuple #[.int .i64 r1, .bool r2]) ∧ Below w.heap.size w w' := by
  have hu38 := Try.underlying38
  have hu54 := Try.underlying54
  have HR0_0 := Aside0.mk hr0_0
  have HC0_0 := Aside0.mk hc0_0
  clear hr0_0 hc0_0
  have HB := Aside0.mk (Below.refl w.heap.size w)
  have H : (word_step.l0 k a1 l0_0 (l0_0.length : Int) 0) = some (r1, r2) := h
  clear h
  have H' := Aside0.mk H
  clear H
  go_enter Try.func26, Try.ntmps26
  go_wp2_with (first | ((with_reducible refine gate_dst (N := 2) rfl ?_); refine box_event ?hg (N := 2) ?hd (cs := #[.slice A0_0 l0_0.length c0_0, .bool a0_1, .string a0_2]) (t := 38) ?hr ?_; (case hd => rfl); (case hg => rfl); (case hr => first | (go_simp; done) | (go_simp; rfl)); intro gb102 hg w3 hbox hb; have n0_ := Aside0.mk (below_step (by repeat (first | (with_reducible first | exact HB.out | apply below_alloc | apply pw_below_drewN | apply below_drew1) | exact HB.out)) hb); have n1_ := Aside0.mk (hbox); have n2_ := Aside0.mk ((by rw [hg]; exact (below_size (by repeat (first | (with_reducible first | exact HB.out | apply below_alloc | apply pw_below_drewN | apply below_drew1) | exact HB.out))) : w.heap.size ≤ gb102)); have n3_ := Aside0.mk ((by rw [hg]; exact (below_size (by repeat (first | (with_reducible first | exact HB.out | apply below_alloc | apply pw_below_drewN | apply below_drew1) | exact HB.out))) : w.heap.size ≤ gb102)); clear HB; have HB := n0_; have BK102 := n1_; have GW102 := n2_; have GE102 := n3_; clear n0_ n1_ n2_ n3_; clear hb hbox hg; have hcz4_0 : w3.cell? ⟨gb102, 0, none⟩ = some (.slice A0_0 l0_0.length c0_0) := (blk_cell BK102.out 0).trans rfl; have hcz4_1 : w3.cell? ⟨gb102, 1, none⟩ = some (.bool a0_1) := (blk_cell BK102.out 1).trans rfl; have hcz4_2 : w3.cell? ⟨gb102, 2, none⟩ = some (.string a0_2) := (blk_cell BK102.out 2).trans rfl; have hfz4_0 := blk_frozen BK102.out 0; have hfz4_1 := blk_frozen BK102.out 1; have hfz4_2 := blk_frozen BK102.out 2))
  go_loopg [11] k (fun kq v11 w' => ∃ (x11_1 : Int), v11 = .int .i64 x11_1 ∧ Aside0 (word_step.l0 kq a1 l0_0 (l0_0.length : Int) x11_1 = some (r1, r2)) ∧ Aside0 (kq ≤ k) ∧ Aside0 (w'.heap[gb102]? = some (.cells #[(.slice A0_0 l0_0.length c0_0), .bool a0_1, .string a0_2] 38 (0, 0))) ∧ Aside0 (Below w.heap.size w w'))
  case atStart => exact ⟨(0), (by first | rfl | (simp; done) | (simp [*]; done)), H', ⟨Nat.le_refl _⟩, ⟨by (with_reducible repeat (first | refine blk_drewN ?_ _ | refine blk_drew ?_ | refine blk_alloc ?_ _)); exact BK102.out⟩, ⟨by repeat (first | (with_reducible first | exact HB.out | apply below_alloc | apply pw_below_drewN | apply below_drew1 | refine below_set ?_ GE102.out) | exact HB.out)⟩⟩
  case round =>
    clear H'
    try clear c2
    try clear p2
    try clear hcz4_0
    try clear hcz4_1
    try clear hcz4_2
    try clear hfz4_0
    try clear hfz4_1
    try clear hfz4_2
    obtain ⟨x11_1, rfl, HA, HK1, BK102, HB⟩ := hrel
    cases gk with
    | zero => exact absurd HA.out (by simp [word_step.l0])
    | succ k1 =>
      have H := HA.out
      clear HA
      simp only [word_step.l0] at H
      by_cases c5 : x11_1 < (l0_0.length : Int)
      · rw [if_pos c5] at H
        have c5b0 : decide (x11_1 < (l0_0.length : Int)) = true := decide_eq_true c5
        clear c5
        by_cases c6 : 0 ≤ x11_1
        · rw [if_pos c6] at H
          have c6b0 : decide (0 ≤ x11_1) = true := decide_eq_true c6
          clear c6
          by_cases c7 : x11_1 < (l0_0.length : Int)
          · rw [if_pos c7] at H
            have c7b0 : decide (x11_1 < (l0_0.length : Int)) = true := decide_eq_true c7
            clear c7
            replace H := Option.bind_eq_some_iff.mp H
            obtain ⟨t105, A80, H⟩ := H
            replace H : (if t105 ≥ 0 then (some ((rd_T54 l0_0 x11_1).f1, true)) else (word_step.l0 k1 a1 l0_0 (l0_0.length : Int) (wrap64 (x11_1 + 1)))) = some (r1, r2) := H
            have A8 := Aside0.mk A80
            clear A80
            by_cases c9 : t105 ≥ 0
            · rw [if_pos c9] at H
              have c9b0 : decide (0 ≤ t105) = true := decide_eq_true c9
              clear c9
              simp only [Option.some.injEq, Prod.mk.injEq] at H
              obtain ⟨rfl, rfl⟩ := H
              have p103 : 0 ≤ (x11_1 : Int) := of_decide_eq_true (by first | (with_reducible assumption) | assumption)
              have q103 : x11_1 < (l0_0.length : Int) := of_decide_eq_true (by first | (with_reducible assumption) | assumption)
              obtain ⟨ad103, e103, hx103_0, hx103_1⟩ := at_T54 HR0_0.out x11_1 p103 q103
              cases e103
              replace hx103_0 := (HB.out.cell (World.block_lt_of_cell? w _ hx103_0)).trans hx103_0
              replace hx103_1 := (HB.out.cell (World.block_lt_of_cell? w _ hx103_1)).trans hx103_1
              replace p103 := eq_true p103
              replace q103 := eq_true q103
              go_wp2_with (first | ((with_reducible refine gate_dst (N := 7) rfl ?_); refine box_event ?hg (N := 7) ?hd (cs := #[.string (⟨#[]⟩ : ByteArray), .int .i64 0]) (t := 54) ?hr ?_; (case hd => rfl); (case hg => rfl); (case hr => first | (go_simp; done) | (go_simp; rfl)); intro gb104 hg w10 hbox hb; have n0_ := Aside0.mk (blk_below (g := gb102) (o := .cells #[.slice (some ad103) l0_0.length c0_0, .bool a0_1, .string a0_2] 38 (0, 0)) (by (with_reducible repeat (first | refine blk_drewN ?_ _ | refine blk_drew ?_ | refine blk_alloc ?_ _)); exact BK102.out) hb); have n1_ := Aside0.mk (below_step (by repeat (first | (with_reducible first | exact HB.out | apply below_alloc | apply pw_below_drewN | apply below_drew1 | refine below_set ?_ GE102.out) | exact HB.out)) hb); have n2_ := Aside0.mk (hbox); have n3_ := Aside0.mk ((by rw [hg]; exact (below_size (by repeat (first | (with_reducible first | exact HB.out | apply below_alloc | apply pw_below_drewN | apply below_drew1 | refine below_set ?_ GE102.out) | exact HB.out))) : w.heap.size ≤ gb104)); have n4_ := Aside0.mk ((by rw [hg]; exact (below_size (by repeat (first | (with_reducible first | exact HB.out | apply below_alloc | apply pw_below_drewN | apply below_drew1 | refine below_set ?_ GE102.out) | exact HB.out))) : w.heap.size ≤ gb104)); have n5_ := Aside0.mk ((by rw [hg]; exact Nat.ne_of_lt (blk_lt (g := gb102) (o := .cells #[.slice (some ad103) l0_0.length c0_0, .bool a0_1, .string a0_2] 38 (0, 0)) (by (with_reducible repeat (first | refine blk_drewN ?_ _ | refine blk_drew ?_ | refine blk_alloc ?_ _)); exact BK102.out)) : gb102 ≠ gb104)); have n6_ := Aside0.mk ((by rw [hg]; exact Nat.ne_of_gt (blk_lt (g := gb102) (o := .cells #[.slice (some ad103) l0_0.length c0_0, .bool a0_1, .string a0_2] 38 (0, 0)) (by (with_reducible repeat (first | refine blk_drewN ?_ _ | refine blk_drew ?_ | refine blk_alloc ?_ _)); exact BK102.out)) : gb104 ≠ gb102)); clear BK102; clear HB; have BK102 := n0_; have HB := n1_; have BK104 := n2_; have GW104 := n3_; have GE104 := n4_; have NB102_104 := n5_; have NB104_102 := n6_; clear n0_ n1_ n2_ n3_ n4_ n5_ n6_; clear hb hbox hg; have hnb11 := NB104_102.out; have hnc11 := NB102_104.out; have hcz12_0 : w10.cell? ⟨gb104, 0, none⟩ = some (.string (⟨#[]⟩ : ByteArray)) := (blk_cell BK104.out 0).trans rfl; have hcz12_1 : w10.cell? ⟨gb104, 1, none⟩ = some (.int .i64 0) := (blk_cell BK104.out 1).trans rfl; have hfz12_0 := blk_frozen BK104.out 0; have hfz12_1 := blk_frozen BK104.out 1) | ((with_reducible refine gate_callee (f := 32) rfl ?_); refine goesL_ (some 18) rfl rfl Try.func32 (by kernel_rfl) rfl #[.string ((rd_T54 l0_0 x11_1).f0), .int .u8 a1] rfl (by (try simp only [List.map_toArray, List.map_cons, List.map_nil]); first | done | rfl | (simp only [List.length_drop, List.length_take]; rfl)) ?_; (with_reducible refine (strings_IndexByte.calls ((rd_T54 l0_0 x11_1).f0) a1 t105 _ A8.out).mono ?_); rintro e w' ⟨rfl, ⟨nd, rfl⟩⟩; refine ⟨_, rfl, ?_⟩))
              go_ret2
              exact ⟨by first | rfl | (simp [errW_none, errW_some] <;> rfl) | (simp [*, errW_none, errW_some] <;> rfl), by repeat (first | (with_reducible first | exact HB.out | apply below_alloc | apply pw_below_drewN | apply below_drew1 | refine below_set ?_ GE102.out | refine below_set ?_ GE104.out) | exact HB.out)⟩
            · rw [if_neg c9] at H
              have c9b0 : decide (0 ≤ t105) = false := decide_eq_false c9
              clear c9
              have H' := Aside0.mk H
              clear H
              have p103 : 0 ≤ (x11_1 : Int) := of_decide_eq_true (by first | (with_reducible assumption) | assumption)
              have q103 : x11_1 < (l0_0.length : Int) := of_decide_eq_true (by first | (with_reducible assumption) | assumption)
              obtain ⟨ad103, e103, hx103_0, hx103_1⟩ := at_T54 HR0_0.out x11_1 p103 q103
              cases e103
              replace hx103_0 := (HB.out.cell (World.block_lt_of_cell? w _ hx103_0)).trans hx103_0
              replace hx103_1 := (HB.out.cell (World.block_lt_of_cell? w _ hx103_1)).trans hx103_1
              replace p103 := eq_true p103
              replace q103 := eq_true q103
              go_wp2_with (first | ((with_reducible refine gate_dst (N := 7) rfl ?_); refine box_event ?hg (N := 7) ?hd (cs := #[.string (⟨#[]⟩ : ByteArray), .int .i64 0]) (t := 54) ?hr ?_; (case hd => rfl); (case hg => rfl); (case hr => first | (go_simp; done) | (go_simp; rfl)); intro gb104 hg w13 hbox hb; have n0_ := Aside0.mk (blk_below (g := gb102) (o := .cells #[.slice (some ad103) l0_0.length c0_0, .bool a0_1, .string a0_2] 38 (0, 0)) (by (with_reducible repeat (first | refine blk_drewN ?_ _ | refine blk_drew ?_ | refine blk_alloc ?_ _)); exact BK102.out) hb); have n1_ := Aside0.mk (below_step (by repeat (first | (with_reducible first | exact HB.out | apply below_alloc | apply pw_below_drewN | apply below_drew1 | refine below_set ?_ GE102.out) | exact HB.out)) hb); have n2_ := Aside0.mk (hbox); have n3_ := Aside0.mk ((by rw [hg]; exact (below_size (by repeat (first | (with_reducible first | exact HB.out | apply below_alloc | apply pw_below_drewN | apply below_drew1 | refine below_set ?_ GE102.out) | exact HB.out))) : w.heap.size ≤ gb104)); have n4_ := Aside0.mk ((by rw [hg]; exact (below_size (by repeat (first | (with_reducible first | exact HB.out | apply below_alloc | apply pw_below_drewN | apply below_drew1 | refine below_set ?_ GE102.out) | exact HB.out))) : w.heap.size ≤ gb104)); have n5_ := Aside0.mk ((by rw [hg]; exact Nat.ne_of_lt (blk_lt (g := gb102) (o := .cells #[.slice (some ad103) l0_0.length c0_0, .bool a0_1, .string a0_2] 38 (0, 0)) (by (with_reducible repeat (first | refine blk_drewN ?_ _ | refine blk_drew ?_ | refine blk_alloc ?_ _)); exact BK102.out)) : gb102 ≠ gb104)); have n6_ := Aside0.mk ((by rw [hg]; exact Nat.ne_of_gt (blk_lt (g := gb102) (o := .cells #[.slice (some ad103) l0_0.length c0_0, .bool a0_1, .string a0_2] 38 (0, 0)) (by (with_reducible repeat (first | refine blk_drewN ?_ _ | refine blk_drew ?_ | refine blk_alloc ?_ _)); exact BK102.out)) : gb104 ≠ gb102)); clear BK102; clear HB; have BK102 := n0_; have HB := n1_; have BK104 := n2_; have GW104 := n3_; have GE104 := n4_; have NB102_104 := n5_; have NB104_102 := n6_; clear n0_ n1_ n2_ n3_ n4_ n5_ n6_; clear hb hbox hg; have hnb14 := NB104_102.out; have hnc14 := NB102_104.out; have hcz15_0 : w13.cell? ⟨gb104, 0, none⟩ = some (.string (⟨#[]⟩ : ByteArray)) := (blk_cell BK104.out 0).trans rfl; have hcz15_1 : w13.cell? ⟨gb104, 1, none⟩ = some (.int .i64 0) := (blk_cell BK104.out 1).trans rfl; have hfz15_0 := blk_frozen BK104.out 0; have hfz15_1 := blk_frozen BK104.out 1) | ((with_reducible refine gate_callee (f := 32) rfl ?_); refine goesL_ (some 18) rfl rfl Try.func32 (by kernel_rfl) rfl #[.string ((rd_T54 l0_0 x11_1).f0), .int .u8 a1] rfl (by (try simp only [List.map_toArray, List.map_cons, List.map_nil]); first | done | rfl | (simp only [List.length_drop, List.length_take]; rfl)) ?_; (with_reducible refine (strings_IndexByte.calls ((rd_T54 l0_0 x11_1).f0) a1 t105 _ A8.out).mono ?_); rintro e w' ⟨rfl, ⟨nd, rfl⟩⟩; refine ⟨_, rfl, ?_⟩))
              go_roundg k1
              case measure => have := HK1.out; omega
              case rel => exact ⟨(wrap64 (x11_1 + 1)), (by first | rfl | (simp; done) | (simp [*]; done)), H', ⟨by have := HK1.out; omega⟩, ⟨by (with_reducible repeat (first | refine blk_drewN ?_ _ | refine blk_drew ?_ | refine blk_alloc ?_ _)); refine blk_far ?_ NB102_104.out _; (with_reducible repeat (first | refine blk_drewN ?_ _ | refine blk_drew ?_ | refine blk_alloc ?_ _)); refine blk_far ?_ NB102_104.out _; (with_reducible repeat (first | refine blk_drewN ?_ _ | refine blk_drew ?_ | refine blk_alloc ?_ _)); exact BK102.out⟩, ⟨by repeat (first | (with_reducible first | exact HB.out | apply below_alloc | apply pw_below_drewN | apply below_drew1 | refine below_set ?_ GE102.out | refine below_set ?_ GE104.out) | exact HB.out)⟩⟩
          · rw [if_neg c7] at H
            exact absurd H (by simp)
        · rw [if_neg c6] at H
          exact absurd H (by simp)
      · rw [if_neg c5] at H
        have c5b0 : decide (x11_1 < (l0_0.length : Int)) = false := decide_eq_false c5
        clear c5
        simp only [Option.some.injEq, Prod.mk.injEq] at H
        obtain ⟨rfl, rfl⟩ := H
        go_wp2
        go_ret2
        exact ⟨by first | rfl | (simp [errW_none, errW_some] <;> rfl) | (simp [*, errW_none, errW_some] <;> rfl), by repeat (first | (with_reducible first | exact HB.out | apply below_alloc | apply pw_below_drewN | apply below_drew1 | refine below_set ?_ GE102.out) | exact HB.out)⟩

theorem statesT_len (k : Int) (r : List S38) (hk : 0 ≤ k ∧ k ≤ 2) (h : word_states.f k = some r) : 0 < r.length := by
  obtain rfl := Option.some.inj h
  have : k = 0 ∨ k = 1 ∨ k = 2 := by omega
  rcases this with rfl | rfl | rfl <;> decide
theorem nil_no {w : World} {base : Nat} {ok : Nat → Prop} {v : Value} {xs : List S38} (h : Kd.N k38 38 w base ok v xs) (hp : 0 < xs.length) : ∀ W, (binOp .eql 46 v (.slice none 0 0)).run Try.prog W = .ok (.bool false) W := by
  obtain ⟨g, cap, rfl, _⟩ := Kd.N_form h hp
  intro W
  exact Lib.run_eql_slice_nil W 46 38 (some ⟨g, 0, none⟩) xs.length cap 0 0 Try.underlying46
theorem nil_gu {w : World} {base : Nat} {ok : Nat → Prop} {v : Value} {xs : List S38} (h : Kd.N k38 38 w base ok v xs) (hp : 0 < xs.length) : ∀ (x y : Operand) W, (eqGuard .eql 46 x y v (.slice none 0 0)).run Try.prog W = .ok () W := by
  obtain ⟨g, cap, rfl, _⟩ := Kd.N_form h hp
  intro x y W
  simp [go_sem]
/-! ### word_read: function 20 -/
def word_read1.l0 : Nat → ByteArray → List (S38) → Int → Int → Int → Option (Int × (List (S54)) × Bool × ByteArray)
  | 0, _, _, _, _, _ => none
  | k + 1, x1, x6, x7, x17, x18 => if x18 < x17 then (if 0 ≤ x7 then (if x7 < (x6.length : Int) then (if 0 ≤ x18 then (if x18 < (x1.size : Int) then ((word_step.f k ((rd_T38 x6 x7).f0) ((rd_T38 x6 x7).f1) ((rd_T38 x6 x7).f2) (bt x1 x18)).bind fun bt111 => (if bt111.2 = true then (word_read1.l0 k x1 x6 bt111.1 x17 (wrap64 (x18 + 1))) else (some (x18, (rd_T38 x6 x7).f0, (rd_T38 x6 x7).f1, (rd_T38 x6 x7).f2)))) else (none)) else (none)) else (none)) else (none)) else (if 0 ≤ x7 then (if x7 < (x6.length : Int) then (some ((x1.size : Int), (rd_T38 x6 x7).f0, (rd_T38 x6 x7).f1, (rd_T38 x6 x7).f2)) else (none)) else (none))
def word_read1.f (k : Nat) (a0 : Int) (a1 : ByteArray) : Option (Int × (List (S54)) × Bool × ByteArray) := (word_states.f a0).bind fun t107 => (word_read1.l0 k a1 t107 0 (a1.size : Int) 0)
theorem word_read1.mono_l : ∀ k, (∀ y0 y1 y2 y3 y4, LeO (word_read1.l0 k y0 y1 y2 y3 y4) (word_read1.l0 (k + 1) y0 y1 y2 y3 y4))
  | 0 => fun _ _ _ _ _ r h => by simp [word_read1.l0] at h
  | k + 1 => by
    have ih0 := word_read1.mono_l k
    · intro y0 y1 y2 y3 y4
      unfold word_read1.l0
      repeat' first
      | (with_reducible exact ih0 _ _ _ _ _)
      | (with_reducible exact word_step.mono _ _ _ _ _)
      | (with_reducible exact LeO.refl _)
      | (with_reducible exact LeO.none _)
      | (with_reducible refine LeO.ite ?_ ?_)
      | (with_reducible refine LeO.bind ?_ (fun _ => ?_))
      | exact ih0 _ _ _ _ _
      | exact word_step.mono _ _ _ _ _
      | exact LeO.none _
      | refine LeO.ite ?_ ?_
      | refine LeO.bind ?_ (fun _ => ?_)
theorem word_read1.mono : ∀ a0 a1 k, LeO (word_read1.f k a0 a1) (word_read1.f (k + 1) a0 a1) := by
  intro a0 a1 k
  have ih0 := word_read1.mono_l k
  unfold word_read1.f
  repeat' first
      | (with_reducible exact ih0 _ _ _ _ _)
      | (with_reducible exact word_step.mono _ _ _ _ _)
      | (with_reducible exact LeO.refl _)
      | (with_reducible exact LeO.none _)
      | (with_reducible refine LeO.ite ?_ ?_)
      | (with_reducible refine LeO.bind ?_ (fun _ => ?_))
      | exact ih0 _ _ _ _ _
      | exact word_step.mono _ _ _ _ _
      | exact LeO.none _
      | refine LeO.ite ?_ ?_
      | refine LeO.bind ?_ (fun _ => ?_)
def word_read1.T8 : Bool × List (List Nat × List Nat) := (true, [([], []), ([], []), ([0, 1], [0, 1]), ([2], [2]), ([], []), ([], []), ([4, 5], [4, 5]), ([3, 6], [3, 6]), ([7], [7]), ([8], [8]), ([8], [8]), ([9, 7, 0, 1, 2, 3, 4, 5, 6, 7, 8, 9], [9]), ([10, 11, 0, 1, 2, 3, 4, 5, 6, 7, 8, 9, 10, 11], [10])])
def word_read1.B8 : List Nat := [0, 0, 3, 7, 0, 0, 48, 127, 255, 511, 511, 1023, 4095]
theorem word_read1.tab8 : rtab .any (opsOf Try.f20 8) = word_read1.T8 := by kernel_rfl
theorem word_read1.bits8 : waitsOk word_read1.T8.2 word_read1.B8 = true := by kernel_rfl
def word_read1.T13 : Bool × List (List Nat × List Nat) := (true, [([], []), ([0], [0]), ([], []), ([], []), ([2, 3], [2, 3]), ([4], [4]), ([1, 0, 1], [1]), ([5, 6, 0, 1, 2, 3, 4, 5, 6], [5])])
def word_read1.B13 : List Nat := [0, 1, 0, 0, 12, 28, 3, 127]
theorem word_read1.tab13 : rtab .any (opsOf Try.f20 13) = word_read1.T13 := by kernel_rfl
theorem word_read1.bits13 : waitsOk word_read1.T13.2 word_read1.B13 = true := by kernel_rfl
set_option maxHeartbeats 8000000 in
set_option maxRecDepth 100000 in
theorem word_read1.calls (k : Nat) (a0 : Int) (a1 : ByteArray) (r1 : Int) (r2 : List (S54)) (r3 : Bool) (r4 : ByteArray) (w : World) (hk0 : 0 ≤ a0 ∧ a0 ≤ 2) (h : word_read1.f k a0 a1 = some (r1, r2, r3, r4)) :
    Calls Try.prog 20 #[.int .i64 a0, .string a1] w fun e w' => ∃ v1_ : Value, e = .returned (.tuple #[.int .i64 r1, .agg #[v1_, .bool r3, .string r4]]) ∧ Kd.V k54 54 w' w.heap.size (fun k_ => (w.heap.size ≤ k_)) v1_ r2 ∧ Below w.heap.size w w' := by
  have hu38 := Try.underlying38
  have HB := Aside0.mk (Below.refl w.heap.size w)
  have H : ((word_states.f a0).bind fun t107 => (word_read1.l0 k a1 t107 0 (a1.size : Int) 0)) = some (r1, r2, r3, r4) := h
  clear h
  replace H := Option.bind_eq_some_iff.mp H
  obtain ⟨t107, A30, H⟩ := H
  replace H : (word_read1.l0 k a1 t107 0 (a1.size : Int) 0) = some (r1, r2, r3, r4) := H
  have hlen := Aside0.mk (statesT_len a0 t107 hk0 A30)
  clear hk0
  have A3 := Aside0.mk A30
  clear A30
  have H' := Aside0.mk H
  clear H
  go_enter Try.func20, Try.ntmps20
  go_wp2_with (first | ((with_reducible refine gate_dst (N := 5) rfl ?_); refine box_event ?hg (N := 5) ?hd (cs := #[.slice none 0 0, .bool false, .string (⟨#[]⟩ : ByteArray)]) (t := 38) ?hr ?_; (case hd => rfl); (case hg => rfl); (case hr => first | (go_simp; done) | (go_simp; rfl)); intro gb106 hg w4 hbox hb; have n0_ := Aside0.mk (below_step (by repeat (first | (with_reducible first | exact HB.out | apply below_alloc | apply pw_below_drewN | apply below_drew1) | exact HB.out)) hb); have n1_ := Aside0.mk (hbox); have n2_ := Aside0.mk ((by rw [hg]; exact (below_size (by repeat (first | (with_reducible first | exact HB.out | apply below_alloc | apply pw_below_drewN | apply below_drew1) | exact HB.out))) : w.heap.size ≤ gb106)); have n3_ := Aside0.mk ((by rw [hg]; exact (below_size (by repeat (first | (with_reducible first | exact HB.out | apply below_alloc | apply pw_below_drewN | apply below_drew1) | exact HB.out))) : w.heap.size ≤ gb106)); clear HB; have HB := n0_; have BK106 := n1_; have GW106 := n2_; have GE106 := n3_; clear n0_ n1_ n2_ n3_; clear hb hbox hg) | ((with_reducible refine gate_callee (f := 28) rfl ?_); refine goesL_ (some 12) rfl rfl Try.func28 (by kernel_rfl) rfl #[.int .i64 a0] rfl (by (try simp only [List.map_toArray, List.map_cons, List.map_nil]); first | done | rfl | (simp only [List.length_drop, List.length_take]; rfl)) ?_; (with_reducible refine (word_states.calls a0 t107 _ A3.out).mono ?_); rintro e w5 ⟨v108, rfl, ho0, hb⟩; refine ⟨_, rfl, ?_⟩; have n0_ := Aside0.mk (Kd.N_lower (Kd.N_mono (ok' := fun k_ => (w.heap.size ≤ k_) ∧ k_ ≠ gb106) ho0 (fun k_ hk_ => ⟨(Nat.le_trans (below_size (by repeat (first | (with_reducible first | exact HB.out | apply below_alloc | apply pw_below_drewN | apply below_drew1 | refine below_set ?_ GE106.out) | exact HB.out))) hk_), (Kd.freshB (g := gb106) (o := .cells #[.slice none 0 0, .bool false, .string (⟨#[]⟩ : ByteArray)] 38 (0, 0)) (by (with_reducible repeat (first | refine blk_drewN ?_ _ | refine blk_drew ?_ | refine blk_alloc ?_ _)); exact BK106.out) k_ hk_)⟩)) (below_size (by repeat (first | (with_reducible first | exact HB.out | apply below_alloc | apply pw_below_drewN | apply below_drew1 | refine below_set ?_ GE106.out) | exact HB.out)))); have n1_ := Aside0.mk (blk_below (g := gb106) (o := .cells #[.slice none 0 0, .bool false, .string (⟨#[]⟩ : ByteArray)] 38 (0, 0)) (by (with_reducible repeat (first | refine blk_drewN ?_ _ | refine blk_drew ?_ | refine blk_alloc ?_ _)); exact BK106.out) hb); have n2_ := Aside0.mk (below_step (by repeat (first | (with_reducible first | exact HB.out | apply below_alloc | apply pw_below_drewN | apply below_drew1 | refine below_set ?_ GE106.out) | exact HB.out)) hb); clear BK106; clear HB; have HO109 := n0_; have BK106 := n1_; have HB := n2_; clear n0_ n1_ n2_; (try clear hb); (try clear hb2); (try clear hk); (try clear hi); (try clear ho0); have hnil := nil_no HO109.out hlen.out; have hngu := nil_gu HO109.out hlen.out))
  clear hnil hngu
  go_loopg [7, 18] k (fun kq v7 v18 w' => ∃ (x7_1 : Int) (x18_1 : Int) (x107001_1 : Bool) (x107002_1 : ByteArray), v7 = .int .i64 x7_1 ∧ v18 = .int .i64 x18_1 ∧ Aside0 (word_read1.l0 kq a1 t107 x7_1 (a1.size : Int) x18_1 = some (r1, r2, r3, r4)) ∧ Aside0 (kq ≤ k) ∧ Aside0 (Kd.N k38 38 w' w.heap.size (fun k_ => (w.heap.size ≤ k_) ∧ k_ ≠ gb106) v108 t107) ∧ Aside0 (w'.heap[gb106]? = some (.cells #[(.slice none 0 0), .bool x107001_1, .string x107002_1] 38 (0, 0))) ∧ Aside0 (Below w.heap.size w w'))
  case atStart => exact ⟨(0), (0), (false), ((⟨#[]⟩ : ByteArray)), (by first | rfl | (simp; done) | (simp [*]; done)), (by first | rfl | (simp; done) | (simp [*]; done)), H', ⟨Nat.le_refl _⟩, ⟨by (with_reducible repeat (first | apply Kd.N_alloc | apply Kd.N_drewN | apply Kd.N_drew)); exact HO109.out⟩, ⟨by (with_reducible repeat (first | refine blk_drewN ?_ _ | refine blk_drew ?_ | refine blk_alloc ?_ _)); exact BK106.out⟩, ⟨by repeat (first | (with_reducible first | exact HB.out | apply below_alloc | apply pw_below_drewN | apply below_drew1 | refine below_set ?_ GE106.out) | exact HB.out)⟩⟩
  case round =>
    clear H'
    try clear c2
    try clear p2
    obtain ⟨x7_1, x18_1, x107001_1, x107002_1, rfl, rfl, HA, HK1, HO_6, BK106, HB⟩ := hrel
    cases gk with
    | zero => exact absurd HA.out (by simp [word_read1.l0])
    | succ k1 =>
      have H := HA.out
      clear HA
      simp only [word_read1.l0] at H
      by_cases c6 : x18_1 < (a1.size : Int)
      · rw [if_pos c6] at H
        have c6b0 : decide (x18_1 < (a1.size : Int)) = true := decide_eq_true c6
        clear c6
        by_cases c7 : 0 ≤ x7_1
        · rw [if_pos c7] at H
          have c7b0 : decide (0 ≤ x7_1) = true := decide_eq_true c7
          clear c7
          by_cases c8 : x7_1 < (t107.length : Int)
          · rw [if_pos c8] at H
            have c8b0 : decide (x7_1 < (t107.length : Int)) = true := decide_eq_true c8
            clear c8
            by_cases c9 : 0 ≤ x18_1
            · rw [if_pos c9] at H
              have c9b0 : decide (0 ≤ x18_1) = true := decide_eq_true c9
              clear c9
              by_cases c10 : x18_1 < (a1.size : Int)
              · rw [if_pos c10] at H
                have c10b0 : decide (x18_1 < (a1.size : Int)) = true := decide_eq_true c10
                clear c10
                replace H := Option.bind_eq_some_iff.mp H
                obtain ⟨⟨t111, t112⟩, A120, H⟩ := H
                replace H : (if t112 = true then (word_read1.l0 k1 a1 t107 t111 (a1.size : Int) (wrap64 (x18_1 + 1))) else (some (x18_1, (rd_T38 t107 x7_1).f0, (rd_T38 t107 x7_1).f1, (rd_T38 t107 x7_1).f2))) = some (r1, r2, r3, r4) := H
                have A12 := Aside0.mk A120
                clear A120
                by_cases c13 : t112 = true
                · subst c13
                  have H1 : (word_read1.l0 k1 a1 t107 t111 (a1.size : Int) (wrap64 (x18_1 + 1))) = some (r1, r2, r3, r4) := by rw [if_pos rfl] at H; exact H
                  clear H
                  have H := H1
                  clear H1
                  have H' := Aside0.mk H
                  clear H
                  try go_wp2
                  have n0_ := Aside0.mk (Kd.N_drew HO_6.out)
                  have n1_ := Aside0.mk (blk_drew BK106.out)
                  have n2_ := Aside0.mk (below_drew1 HB.out)
                  clear HO_6
                  clear BK106
                  clear HB
                  have HO_6 := n0_
                  have BK106 := n1_
                  have HB := n2_
                  clear n0_ n1_ n2_
                  obtain ⟨Ao15, co15, eo15⟩ := Kd.N_slice HO_6.out
                  (first | subst eo15 | (injection eo15 with f1_ f2_ f3_; have f4_ := f1_.symm; have f5_ := f3_.symm; clear f1_ f2_ f3_; subst f4_; subst f5_))
                  have p110 : 0 ≤ (x7_1 : Int) := of_decide_eq_true (by first | (with_reducible assumption) | assumption)
                  have q110 : x7_1 < (t107.length : Int) := of_decide_eq_true (by first | (with_reducible assumption) | assumption)
                  obtain ⟨ad110, A110_0, c110_0, e110, hx110_0, hx110_1, hx110_2, hl110_0, hi110_0⟩ := at_T38 (Kd.N_reads' HO_6.out).2.2 x7_1 p110 q110
                  cases e110
                  obtain ⟨ce110, hce110, hMe110, hcc110⟩ := Kd.N_get HO_6.out z38 x7_1 p110 (by first | exact q110 | exact of_decide_eq_true (by first | (with_reducible assumption) | assumption) | (have e_ := (Kd.N_reads' HO_6.out).1; omega))
                  obtain ⟨ua110_0, uc110_0, rfl, ul110_0, ge110_0⟩ := k38_openF hMe110
                  have hv110_0 := hcc110 0 _ rfl
                  rw [Nat.add_zero] at hv110_0
                  replace hv110_0 := Option.some.inj (hv110_0.symm.trans hx110_0)
                  injection hv110_0 with hva_ hvn_ hvc_
                  rw [hva_] at ge110_0
                  rw [hvc_] at ul110_0
                  have HL110_0 := Aside0.mk (show Kd.V k54 54 _ w.heap.size _ _ ((rd_T38 t107 x7_1).f0) from Kd.V_mk ul110_0 ge110_0)
                  clear hva_ hvn_ hvc_ ge110_0 ul110_0
                  clear hcc110 hce110
                  have HR110_0 := Aside0.mk hi110_0
                  have HC110_0 := Aside0.mk hl110_0
                  clear hi110_0 hl110_0
                  replace p110 := eq_true p110
                  replace q110 := eq_true q110
                  have p11 : 0 ≤ (x18_1 : Int) := of_decide_eq_true (by first | (with_reducible assumption) | assumption)
                  have q11 : x18_1 < (a1.size : Int) := of_decide_eq_true (by first | (with_reducible assumption) | assumption)
                  have hx11 := bt_at a1 x18_1
                  replace p11 := eq_true p11
                  replace q11 := eq_true q11
                  refine start_ (n := 13) (S := fun w' => w'.cell? (ad110.add ((x7_1).toNat * 3)) = some (.slice A110_0 ((rd_T38 t107 x7_1).f0).length c110_0) ∧ w'.cell? ⟨(ad110.add ((x7_1).toNat * 3)).block, (ad110.add ((x7_1).toNat * 3)).off + 1, none⟩ = some (.bool ((rd_T38 t107 x7_1).f1)) ∧ w'.cell? ⟨(ad110.add ((x7_1).toNat * 3)).block, (ad110.add ((x7_1).toNat * 3)).off + 2, none⟩ = some (.string ((rd_T38 t107 x7_1).f2))) (ds := []) #[false, false, false, false, false, false, false, false, false, false, false, false, false] (by kernel_rfl) rfl rfl ⟨hx110_0, hx110_1, hx110_2⟩ (fun hHeld => ?_); refine with_tabW word_read1.tab8 word_read1.bits8 (fun HT_ HW_ => ?_)
                  generalize wr.drew = w14 at HO_6 BK106 HB HL110_0 HR110_0 hx110_0 hx110_1 hx110_2 hHeld ⊢
                  refine pure_ (i := 0) (N := some 22) (v := ?_) (a' := ?_) #[true, false, false, false, false, false, false, false, false, false, false, false, false] rfl rfl (any_of HT_.out (by kernel_rfl)) (fun _ _ _ h => h) (Or.inl ⟨by rfl, ?_⟩) ?_ ?_
                  rotate_left
                  · intro w'
                    go_simp
                    with_reducible rfl
                  rotate_left
                  · simp only [Act.put, List.setIfInBounds_toArray, List.set_cons_zero, List.set_cons_succ, i64_w, i32_w]
                    rfl
                  refine pure_ (i := 1) (N := some 23) (v := ?_) (a' := ?_) #[true, true, false, false, false, false, false, false, false, false, false, false, false] rfl rfl (any_of HT_.out (by kernel_rfl)) (fun _ _ _ h => h) (Or.inl ⟨by rfl, ?_⟩) ?_ ?_
                  rotate_left
                  · intro w'
                    go_simp
                    with_reducible rfl
                  rotate_left
                  · simp only [Act.put, List.setIfInBounds_toArray, List.set_cons_zero, List.set_cons_succ, i64_w, i32_w]
                    rfl
                  refine pure_ (i := 2) (N := some 24) (v := ?_) (a' := ?_) #[true, true, true, false, false, false, false, false, false, false, false, false, false] rfl rfl (any_of HT_.out (by kernel_rfl)) (fun _ _ _ h => h) (Or.inl ⟨by rfl, ?_⟩) ?_ ?_
                  rotate_left
                  · intro w'
                    go_simp
                    with_reducible rfl
                  rotate_left
                  · simp only [Act.put, List.setIfInBounds_toArray, List.set_cons_zero, List.set_cons_succ, i64_w, i32_w]
                    rfl
                  refine pure_ (i := 4) (N := some 26) (v := ?_) (a' := ?_) #[true, true, true, false, true, false, false, false, false, false, false, false, false] rfl rfl (any_of HT_.out (by kernel_rfl)) (fun _ _ _ h => h) (Or.inl ⟨by rfl, ?_⟩) ?_ ?_
                  rotate_left
                  · intro w'
                    go_simp
                    with_reducible rfl
                  rotate_left
                  · simp only [Act.put, List.setIfInBounds_toArray, List.set_cons_zero, List.set_cons_succ, i64_w, i32_w]
                    rfl
                  refine pure_ (i := 5) (N := some 27) (v := ?_) (a' := ?_) #[true, true, true, false, true, true, false, false, false, false, false, false, false] rfl rfl (any_of HT_.out (by kernel_rfl)) (fun _ _ _ h => h) (Or.inl ⟨by rfl, ?_⟩) ?_ ?_
                  rotate_left
                  · intro w'
                    go_simp
                    with_reducible rfl
                  rotate_left
                  · simp only [Act.put, List.setIfInBounds_toArray, List.set_cons_zero, List.set_cons_succ, i64_w, i32_w]
                    rfl
                  refine take_ (i := 3) (N := some 25) (v := ?_) (a' := ?_) #[true, true, true, true, true, true, false, false, false, false, false, false, false] rfl rfl (take_ofW HT_.out HW_.out (by kernel_rfl)) (fun _ _ _ h => h) (Or.inl ⟨by rfl, ?_⟩) hHeld ?_ ?_
                  rotate_left
                  · rintro w' ⟨s0, s1, s2⟩
                    go_simp
                    with_reducible rfl
                  rotate_left
                  · simp only [Act.put, List.setIfInBounds_toArray, List.set_cons_zero, List.set_cons_succ, i64_w, i32_w]
                    rfl
                  refine take_ (i := 6) (N := some 28) (v := ?_) (a' := ?_) #[true, true, true, true, true, true, true, false, false, false, false, false, false] rfl rfl (take_ofW HT_.out HW_.out (by kernel_rfl)) (fun _ _ _ h => h) (Or.inl ⟨by rfl, ?_⟩) hHeld ?_ ?_
                  rotate_left
                  · rintro w' ⟨s0, s1, s2⟩
                    go_simp
                    with_reducible rfl
                  rotate_left
                  · simp only [Act.put, List.setIfInBounds_toArray, List.set_cons_zero, List.set_cons_succ, i64_w, i32_w]
                    rfl
                  refine one_ (i := 7) (N := some 29) #[true, true, true, true, true, true, true, true, false, false, false, false, false] rfl rfl (one_of HT_.out (by kernel_rfl)) (by decide) (fun K hK => ?_)
                  refine goes_ Try.func26 (by kernel_rfl) rfl #[.agg #[.slice A110_0 ((rd_T38 t107 x7_1).f0).length c110_0, .bool ((rd_T38 t107 x7_1).f1), .string ((rd_T38 t107 x7_1).f2)], .int .u8 (bt a1 x18_1)] (by rfl) rfl rfl (by (try simp only [List.map_toArray, List.map_cons, List.map_nil]); first | done | rfl | (simp only [List.length_drop, List.length_take]; rfl)) ?_
                  with_reducible refine (word_step.calls k1 _ _ ((rd_T38 t107 x7_1).f0) ((rd_T38 t107 x7_1).f1) ((rd_T38 t107 x7_1).f2) (bt a1 x18_1) t111 true _ ?side1 ?side2 A12.out).mono ?_
                  (case side1 => repeat (first | exact (by repeat (first | (with_reducible exact HR110_0.out) | (with_reducible refine Kd.C_alloc ?_ _) | (with_reducible refine Kd.C_drewN ?_ _) | (with_reducible refine Kd.C_drew ?_) | exact HR110_0.out)) | (with_reducible refine Kd.C_alloc ?_ _) | (with_reducible refine Kd.C_drewN ?_ _) | (with_reducible refine Kd.C_drew ?_)))
                  (case side2 => exact HC110_0.out)
                  rintro e w16 ⟨rfl, hb⟩
                  have HS0_ := (hb.cell (World.block_lt_of_cell? _ _ (hHeld.1))).trans (hHeld.1)
                  have HS1_ := (hb.cell (World.block_lt_of_cell? _ _ (hHeld.2.1))).trans (hHeld.2.1)
                  have HS2_ := (hb.cell (World.block_lt_of_cell? _ _ (hHeld.2.2))).trans (hHeld.2.2)
                  refine ⟨_, rfl, ?_⟩
                  have n0_ := Aside0.mk (Kd.N_below (by (with_reducible repeat (first | apply Kd.N_alloc | apply Kd.N_drewN | apply Kd.N_drew)); exact HO_6.out) hb)
                  have n1_ := Aside0.mk (Kd.V_below (by (with_reducible repeat (first | apply Kd.V_alloc | apply Kd.V_drewN | apply Kd.V_drew)); exact HL110_0.out) hb)
                  have n2_ := Aside0.mk (blk_below (g := gb106) (o := .cells #[.slice none 0 0, .bool x107001_1, .string x107002_1] 38 (0, 0)) (by (with_reducible repeat (first | refine blk_drewN ?_ _ | refine blk_drew ?_ | refine blk_alloc ?_ _)); exact BK106.out) hb)
                  have n3_ := Aside0.mk (Kd.C_below (by repeat (first | (with_reducible exact HR110_0.out) | (with_reducible refine Kd.C_alloc ?_ _) | (with_reducible refine Kd.C_drewN ?_ _) | (with_reducible refine Kd.C_drew ?_) | exact HR110_0.out)) hb)
                  have n4_ := Aside0.mk (below_step (by repeat (first | (with_reducible first | exact HB.out | apply below_alloc | apply pw_below_drewN | apply below_drew1 | refine below_set ?_ GE106.out) | exact HB.out)) hb)
                  clear HO_6
                  clear HL110_0
                  clear BK106
                  clear HR110_0
                  clear HB
                  have HO_6 := n0_
                  have HL110_0 := n1_
                  have BK106 := n2_
                  have HR110_0 := n3_
                  have HB := n4_
                  clear n0_ n1_ n2_ n3_ n4_
                  (try clear hb)
                  (try clear hb2)
                  (try clear hk)
                  (try clear hi)
                  refine hK.out _ _ ⟨HS0_, HS1_, HS2_⟩ (fun hHeld => ?_)
                  clear hK K
                  refine norm_ (a' := ?_) ?_ ?_
                  rotate_left
                  · show Act.put _ (some 29) _ = _
                    simp only [Act.put, List.setIfInBounds_toArray, List.set_cons_zero, List.set_cons_succ, i64_w, i32_w]
                    rfl
                  refine pure_ (i := 8) (N := some 21) (v := ?_) (a' := ?_) #[true, true, true, true, true, true, true, true, true, false, false, false, false] rfl rfl (any_of HT_.out (by kernel_rfl)) (fun _ _ _ h => h) (Or.inl ⟨by rfl, ?_⟩) ?_ ?_
                  rotate_left
                  · intro w'
                    go_simp
                    with_reducible rfl
                  rotate_left
                  · simp only [Act.put, List.setIfInBounds_toArray, List.set_cons_zero, List.set_cons_succ, i64_w, i32_w]
                    rfl
                  refine pure_ (i := 9) (N := some 30) (v := ?_) (a' := ?_) #[true, true, true, true, true, true, true, true, true, true, false, false, false] rfl rfl (any_of HT_.out (by kernel_rfl)) (fun _ _ _ h => h) (Or.inl ⟨by rfl, ?_⟩) ?_ ?_
                  rotate_left
                  · intro w'
                    go_simp
                    with_reducible rfl
                  rotate_left
                  · simp only [Act.put, List.setIfInBounds_toArray, List.set_cons_zero, List.set_cons_succ, i64_w, i32_w]
                    rfl
                  refine pure_ (i := 10) (N := some 31) (v := ?_) (a' := ?_) #[true, true, true, true, true, true, true, true, true, true, true, false, false] rfl rfl (any_of HT_.out (by kernel_rfl)) (fun _ _ _ h => h) (Or.inl ⟨by rfl, ?_⟩) ?_ ?_
                  rotate_left
                  · intro w'
                    go_simp
                    with_reducible rfl
                  rotate_left
                  · simp only [Act.put, List.setIfInBounds_toArray, List.set_cons_zero, List.set_cons_succ, i64_w, i32_w]
                    rfl
                  refine pure_ (i := 11) (N := some 9) (v := ?_) (a' := ?_) #[true, true, true, true, true, true, true, true, true, true, true, true, false] rfl rfl (any_of HT_.out (by kernel_rfl)) (fun _ _ _ h => h) (Or.inl ⟨by rfl, ?_⟩) ?_ ?_
                  rotate_left
                  · intro w'
                    go_simp
                    with_reducible rfl
                  rotate_left
                  · simp only [Act.put, List.setIfInBounds_toArray, List.set_cons_zero, List.set_cons_succ, i64_w, i32_w]
                    rfl
                  refine pure_ (i := 12) (N := some 10) (v := ?_) (a' := ?_) #[true, true, true, true, true, true, true, true, true, true, true, true, true] rfl rfl (any_of HT_.out (by kernel_rfl)) (fun _ _ _ h => h) (Or.inl ⟨by rfl, ?_⟩) ?_ ?_
                  rotate_left
                  · intro w'
                    go_simp
                    with_reducible rfl
                  rotate_left
                  · simp only [Act.put, List.setIfInBounds_toArray, List.set_cons_zero, List.set_cons_succ, i64_w, i32_w]
                    rfl
                  refine done_ (done_of HT_.out (by kernel_rfl)) ?_
                  try go_wp2
                  go_roundg k1
                  case measure => have := HK1.out; omega
                  case rel => exact ⟨(t111), (wrap64 (x18_1 + 1)), (x107001_1), (x107002_1), (by first | rfl | (simp; done) | (simp [*]; done)), (by first | rfl | (simp; done) | (simp [*]; done)), H', ⟨by have := HK1.out; omega⟩, ⟨by (with_reducible repeat (first | apply Kd.N_alloc | apply Kd.N_drewN | apply Kd.N_drew)); exact HO_6.out⟩, ⟨by (with_reducible repeat (first | refine blk_drewN ?_ _ | refine blk_drew ?_ | refine blk_alloc ?_ _)); exact BK106.out⟩, ⟨by repeat (first | (with_reducible first | exact HB.out | apply below_alloc | apply pw_below_drewN | apply below_drew1 | refine below_set ?_ GE106.out) | exact HB.out)⟩⟩
                · replace c13 := Bool.eq_false_iff.mpr c13
                  subst c13
                  have H1 : (some (x18_1, (rd_T38 t107 x7_1).f0, (rd_T38 t107 x7_1).f1, (rd_T38 t107 x7_1).f2)) = some (r1, r2, r3, r4) := by rw [if_neg (show ¬ (false = true) by decide)] at H; exact H
                  clear H
                  have H := H1
                  clear H1
                  simp only [Option.some.injEq, Prod.mk.injEq] at H
                  obtain ⟨rfl, rfl, rfl, rfl⟩ := H
                  try go_wp2
                  have n0_ := Aside0.mk (Kd.N_drew HO_6.out)
                  have n1_ := Aside0.mk (blk_drew BK106.out)
                  have n2_ := Aside0.mk (below_drew1 HB.out)
                  clear HO_6
                  clear BK106
                  clear HB
                  have HO_6 := n0_
                  have BK106 := n1_
                  have HB := n2_
                  clear n0_ n1_ n2_
                  obtain ⟨Ao18, co18, eo18⟩ := Kd.N_slice HO_6.out
                  (first | subst eo18 | (injection eo18 with f1_ f2_ f3_; have f4_ := f1_.symm; have f5_ := f3_.symm; clear f1_ f2_ f3_; subst f4_; subst f5_))
                  have p110 : 0 ≤ (x7_1 : Int) := of_decide_eq_true (by first | (with_reducible assumption) | assumption)
                  have q110 : x7_1 < (t107.length : Int) := of_decide_eq_true (by first | (with_reducible assumption) | assumption)
                  obtain ⟨ad110, A110_0, c110_0, e110, hx110_0, hx110_1, hx110_2, hl110_0, hi110_0⟩ := at_T38 (Kd.N_reads' HO_6.out).2.2 x7_1 p110 q110
                  cases e110
                  obtain ⟨ce110, hce110, hMe110, hcc110⟩ := Kd.N_get HO_6.out z38 x7_1 p110 (by first | exact q110 | exact of_decide_eq_true (by first | (with_reducible assumption) | assumption) | (have e_ := (Kd.N_reads' HO_6.out).1; omega))
                  obtain ⟨ua110_0, uc110_0, rfl, ul110_0, ge110_0⟩ := k38_openF hMe110
                  have hv110_0 := hcc110 0 _ rfl
                  rw [Nat.add_zero] at hv110_0
                  replace hv110_0 := Option.some.inj (hv110_0.symm.trans hx110_0)
                  injection hv110_0 with hva_ hvn_ hvc_
                  rw [hva_] at ge110_0
                  rw [hvc_] at ul110_0
                  have HL110_0 := Aside0.mk (show Kd.V k54 54 _ w.heap.size _ _ ((rd_T38 t107 x7_1).f0) from Kd.V_mk ul110_0 ge110_0)
                  clear hva_ hvn_ hvc_ ge110_0 ul110_0
                  clear hcc110 hce110
                  have HR110_0 := Aside0.mk hi110_0
                  have HC110_0 := Aside0.mk hl110_0
                  clear hi110_0 hl110_0
                  replace p110 := eq_true p110
                  replace q110 := eq_true q110
                  have p11 : 0 ≤ (x18_1 : Int) := of_decide_eq_true (by first | (with_reducible assumption) | assumption)
                  have q11 : x18_1 < (a1.size : Int) := of_decide_eq_true (by first | (with_reducible assumption) | assumption)
                  have hx11 := bt_at a1 x18_1
                  replace p11 := eq_true p11
                  replace q11 := eq_true q11
                  refine start_ (n := 13) (S := fun w' => w'.cell? (ad110.add ((x7_1).toNat * 3)) = some (.slice A110_0 ((rd_T38 t107 x7_1).f0).length c110_0) ∧ w'.cell? ⟨(ad110.add ((x7_1).toNat * 3)).block, (ad110.add ((x7_1).toNat * 3)).off + 1, none⟩ = some (.bool ((rd_T38 t107 x7_1).f1)) ∧ w'.cell? ⟨(ad110.add ((x7_1).toNat * 3)).block, (ad110.add ((x7_1).toNat * 3)).off + 2, none⟩ = some (.string ((rd_T38 t107 x7_1).f2))) (ds := []) #[false, false, false, false, false, false, false, false, false, false, false, false, false] (by kernel_rfl) rfl rfl ⟨hx110_0, hx110_1, hx110_2⟩ (fun hHeld => ?_); refine with_tabW word_read1.tab8 word_read1.bits8 (fun HT_ HW_ => ?_)
                  generalize wr.drew = w17 at HO_6 BK106 HB HL110_0 HR110_0 hx110_0 hx110_1 hx110_2 hHeld ⊢
                  refine pure_ (i := 0) (N := some 22) (v := ?_) (a' := ?_) #[true, false, false, false, false, false, false, false, false, false, false, false, false] rfl rfl (any_of HT_.out (by kernel_rfl)) (fun _ _ _ h => h) (Or.inl ⟨by rfl, ?_⟩) ?_ ?_
                  rotate_left
                  · intro w'
                    go_simp
                    with_reducible rfl
                  rotate_left
                  · simp only [Act.put, List.setIfInBounds_toArray, List.set_cons_zero, List.set_cons_succ, i64_w, i32_w]
                    rfl
                  refine pure_ (i := 1) (N := some 23) (v := ?_) (a' := ?_) #[true, true, false, false, false, false, false, false, false, false, false, false, false] rfl rfl (any_of HT_.out (by kernel_rfl)) (fun _ _ _ h => h) (Or.inl ⟨by rfl, ?_⟩) ?_ ?_
                  rotate_left
                  · intro w'
                    go_simp
                    with_reducible rfl
                  rotate_left
                  · simp only [Act.put, List.setIfInBounds_toArray, List.set_cons_zero, List.set_cons_succ, i64_w, i32_w]
                    rfl
                  refine pure_ (i := 2) (N := some 24) (v := ?_) (a' := ?_) #[true, true, true, false, false, false, false, false, false, false, false, false, false] rfl rfl (any_of HT_.out (by kernel_rfl)) (fun _ _ _ h => h) (Or.inl ⟨by rfl, ?_⟩) ?_ ?_
                  rotate_left
                  · intro w'
                    go_simp
                    with_reducible rfl
                  rotate_left
                  · simp only [Act.put, List.setIfInBounds_toArray, List.set_cons_zero, List.set_cons_succ, i64_w, i32_w]
                    rfl
                  refine pure_ (i := 4) (N := some 26) (v := ?_) (a' := ?_) #[true, true, true, false, true, false, false, false, false, false, false, false, false] rfl rfl (any_of HT_.out (by kernel_rfl)) (fun _ _ _ h => h) (Or.inl ⟨by rfl, ?_⟩) ?_ ?_
                  rotate_left
                  · intro w'
                    go_simp
                    with_reducible rfl
                  rotate_left
                  · simp only [Act.put, List.setIfInBounds_toArray, List.set_cons_zero, List.set_cons_succ, i64_w, i32_w]
                    rfl
                  refine pure_ (i := 5) (N := some 27) (v := ?_) (a' := ?_) #[true, true, true, false, true, true, false, false, false, false, false, false, false] rfl rfl (any_of HT_.out (by kernel_rfl)) (fun _ _ _ h => h) (Or.inl ⟨by rfl, ?_⟩) ?_ ?_
                  rotate_left
                  · intro w'
                    go_simp
                    with_reducible rfl
                  rotate_left
                  · simp only [Act.put, List.setIfInBounds_toArray, List.set_cons_zero, List.set_cons_succ, i64_w, i32_w]
                    rfl
                  refine take_ (i := 3) (N := some 25) (v := ?_) (a' := ?_) #[true, true, true, true, true, true, false, false, false, false, false, false, false] rfl rfl (take_ofW HT_.out HW_.out (by kernel_rfl)) (fun _ _ _ h => h) (Or.inl ⟨by rfl, ?_⟩) hHeld ?_ ?_
                  rotate_left
                  · rintro w' ⟨s0, s1, s2⟩
                    go_simp
                    with_reducible rfl
                  rotate_left
                  · simp only [Act.put, List.setIfInBounds_toArray, List.set_cons_zero, List.set_cons_succ, i64_w, i32_w]
                    rfl
                  refine take_ (i := 6) (N := some 28) (v := ?_) (a' := ?_) #[true, true, true, true, true, true, true, false, false, false, false, false, false] rfl rfl (take_ofW HT_.out HW_.out (by kernel_rfl)) (fun _ _ _ h => h) (Or.inl ⟨by rfl, ?_⟩) hHeld ?_ ?_
                  rotate_left
                  · rintro w' ⟨s0, s1, s2⟩
                    go_simp
                    with_reducible rfl
                  rotate_left
                  · simp only [Act.put, List.setIfInBounds_toArray, List.set_cons_zero, List.set_cons_succ, i64_w, i32_w]
                    rfl
                  refine one_ (i := 7) (N := some 29) #[true, true, true, true, true, true, true, true, false, false, false, false, false] rfl rfl (one_of HT_.out (by kernel_rfl)) (by decide) (fun K hK => ?_)
                  refine goes_ Try.func26 (by kernel_rfl) rfl #[.agg #[.slice A110_0 ((rd_T38 t107 x7_1).f0).length c110_0, .bool ((rd_T38 t107 x7_1).f1), .string ((rd_T38 t107 x7_1).f2)], .int .u8 (bt a1 x18_1)] (by rfl) rfl rfl (by (try simp only [List.map_toArray, List.map_cons, List.map_nil]); first | done | rfl | (simp only [List.length_drop, List.length_take]; rfl)) ?_
                  with_reducible refine (word_step.calls k1 _ _ ((rd_T38 t107 x7_1).f0) ((rd_T38 t107 x7_1).f1) ((rd_T38 t107 x7_1).f2) (bt a1 x18_1) t111 false _ ?side1 ?side2 A12.out).mono ?_
                  (case side1 => repeat (first | exact (by repeat (first | (with_reducible exact HR110_0.out) | (with_reducible refine Kd.C_alloc ?_ _) | (with_reducible refine Kd.C_drewN ?_ _) | (with_reducible refine Kd.C_drew ?_) | exact HR110_0.out)) | (with_reducible refine Kd.C_alloc ?_ _) | (with_reducible refine Kd.C_drewN ?_ _) | (with_reducible refine Kd.C_drew ?_)))
                  (case side2 => exact HC110_0.out)
                  rintro e w19 ⟨rfl, hb⟩
                  have HS0_ := (hb.cell (World.block_lt_of_cell? _ _ (hHeld.1))).trans (hHeld.1)
                  have HS1_ := (hb.cell (World.block_lt_of_cell? _ _ (hHeld.2.1))).trans (hHeld.2.1)
                  have HS2_ := (hb.cell (World.block_lt_of_cell? _ _ (hHeld.2.2))).trans (hHeld.2.2)
                  refine ⟨_, rfl, ?_⟩
                  have n0_ := Aside0.mk (Kd.N_below (by (with_reducible repeat (first | apply Kd.N_alloc | apply Kd.N_drewN | apply Kd.N_drew)); exact HO_6.out) hb)
                  have n1_ := Aside0.mk (Kd.V_below (by (with_reducible repeat (first | apply Kd.V_alloc | apply Kd.V_drewN | apply Kd.V_drew)); exact HL110_0.out) hb)
                  have n2_ := Aside0.mk (blk_below (g := gb106) (o := .cells #[.slice none 0 0, .bool x107001_1, .string x107002_1] 38 (0, 0)) (by (with_reducible repeat (first | refine blk_drewN ?_ _ | refine blk_drew ?_ | refine blk_alloc ?_ _)); exact BK106.out) hb)
                  have n3_ := Aside0.mk (Kd.C_below (by repeat (first | (with_reducible exact HR110_0.out) | (with_reducible refine Kd.C_alloc ?_ _) | (with_reducible refine Kd.C_drewN ?_ _) | (with_reducible refine Kd.C_drew ?_) | exact HR110_0.out)) hb)
                  have n4_ := Aside0.mk (below_step (by repeat (first | (with_reducible first | exact HB.out | apply below_alloc | apply pw_below_drewN | apply below_drew1 | refine below_set ?_ GE106.out) | exact HB.out)) hb)
                  clear HO_6
                  clear HL110_0
                  clear BK106
                  clear HR110_0
                  clear HB
                  have HO_6 := n0_
                  have HL110_0 := n1_
                  have BK106 := n2_
                  have HR110_0 := n3_
                  have HB := n4_
                  clear n0_ n1_ n2_ n3_ n4_
                  (try clear hb)
                  (try clear hb2)
                  (try clear hk)
                  (try clear hi)
                  refine hK.out _ _ ⟨HS0_, HS1_, HS2_⟩ (fun hHeld => ?_)
                  clear hK K
                  refine norm_ (a' := ?_) ?_ ?_
                  rotate_left
                  · show Act.put _ (some 29) _ = _
                    simp only [Act.put, List.setIfInBounds_toArray, List.set_cons_zero, List.set_cons_succ, i64_w, i32_w]
                    rfl
                  refine pure_ (i := 8) (N := some 21) (v := ?_) (a' := ?_) #[true, true, true, true, true, true, true, true, true, false, false, false, false] rfl rfl (any_of HT_.out (by kernel_rfl)) (fun _ _ _ h => h) (Or.inl ⟨by rfl, ?_⟩) ?_ ?_
                  rotate_left
                  · intro w'
                    go_simp
                    with_reducible rfl
                  rotate_left
                  · simp only [Act.put, List.setIfInBounds_toArray, List.set_cons_zero, List.set_cons_succ, i64_w, i32_w]
                    rfl
                  refine pure_ (i := 9) (N := some 30) (v := ?_) (a' := ?_) #[true, true, true, true, true, true, true, true, true, true, false, false, false] rfl rfl (any_of HT_.out (by kernel_rfl)) (fun _ _ _ h => h) (Or.inl ⟨by rfl, ?_⟩) ?_ ?_
                  rotate_left
                  · intro w'
                    go_simp
                    with_reducible rfl
                  rotate_left
                  · simp only [Act.put, List.setIfInBounds_toArray, List.set_cons_zero, List.set_cons_succ, i64_w, i32_w]
                    rfl
                  refine pure_ (i := 10) (N := some 31) (v := ?_) (a' := ?_) #[true, true, true, true, true, true, true, true, true, true, true, false, false] rfl rfl (any_of HT_.out (by kernel_rfl)) (fun _ _ _ h => h) (Or.inl ⟨by rfl, ?_⟩) ?_ ?_
                  rotate_left
                  · intro w'
                    go_simp
                    with_reducible rfl
                  rotate_left
                  · simp only [Act.put, List.setIfInBounds_toArray, List.set_cons_zero, List.set_cons_succ, i64_w, i32_w]
                    rfl
                  refine pure_ (i := 11) (N := some 9) (v := ?_) (a' := ?_) #[true, true, true, true, true, true, true, true, true, true, true, true, false] rfl rfl (any_of HT_.out (by kernel_rfl)) (fun _ _ _ h => h) (Or.inl ⟨by rfl, ?_⟩) ?_ ?_
                  rotate_left
                  · intro w'
                    go_simp
                    with_reducible rfl
                  rotate_left
                  · simp only [Act.put, List.setIfInBounds_toArray, List.set_cons_zero, List.set_cons_succ, i64_w, i32_w]
                    rfl
                  refine pure_ (i := 12) (N := some 10) (v := ?_) (a' := ?_) #[true, true, true, true, true, true, true, true, true, true, true, true, true] rfl rfl (any_of HT_.out (by kernel_rfl)) (fun _ _ _ h => h) (Or.inl ⟨by rfl, ?_⟩) ?_ ?_
                  rotate_left
                  · intro w'
                    go_simp
                    with_reducible rfl
                  rotate_left
                  · simp only [Act.put, List.setIfInBounds_toArray, List.set_cons_zero, List.set_cons_succ, i64_w, i32_w]
                    rfl
                  refine done_ (done_of HT_.out (by kernel_rfl)) ?_
                  try go_wp2
                  have n0_ := Aside0.mk (Kd.N_drew HO_6.out)
                  have n1_ := Aside0.mk (Kd.V_drew HL110_0.out)
                  have n2_ := Aside0.mk (blk_drew BK106.out)
                  have n3_ := Aside0.mk (Kd.C_drew HR110_0.out)
                  have n4_ := Aside0.mk (below_drew1 HB.out)
                  clear HO_6
                  clear HL110_0
                  clear BK106
                  clear HR110_0
                  clear HB
                  have HO_6 := n0_
                  have HL110_0 := n1_
                  have BK106 := n2_
                  have HR110_0 := n3_
                  have HB := n4_
                  clear n0_ n1_ n2_ n3_ n4_
                  have p113 : 0 ≤ (x7_1 : Int) := of_decide_eq_true (by first | (with_reducible assumption) | assumption)
                  have q113 : x7_1 < (t107.length : Int) := of_decide_eq_true (by first | (with_reducible assumption) | assumption)
                  obtain ⟨ad113, A113_0, c113_0, e113, hx113_0, hx113_1, hx113_2, hl113_0, hi113_0⟩ := at_T38 (Kd.N_reads' HO_6.out).2.2 x7_1 p113 q113
                  obtain rfl : ad110 = ad113 := (by injection e113)
                  obtain ⟨ce113, hce113, hMe113, hcc113⟩ := Kd.N_get HO_6.out z38 x7_1 p113 (by first | exact q113 | exact of_decide_eq_true (by first | (with_reducible assumption) | assumption) | (have e_ := (Kd.N_reads' HO_6.out).1; omega))
                  obtain ⟨ua113_0, uc113_0, rfl, ul113_0, ge113_0⟩ := k38_openF hMe113
                  have hv113_0 := hcc113 0 _ rfl
                  rw [Nat.add_zero] at hv113_0
                  replace hv113_0 := Option.some.inj (hv113_0.symm.trans hx113_0)
                  injection hv113_0 with hva_ hvn_ hvc_
                  rw [hva_] at ge113_0
                  rw [hvc_] at ul113_0
                  have HL113_0 := Aside0.mk (show Kd.V k54 54 _ w.heap.size _ _ ((rd_T38 t107 x7_1).f0) from Kd.V_mk ul113_0 ge113_0)
                  clear hva_ hvn_ hvc_ ge113_0 ul113_0
                  clear hcc113 hce113
                  have HR113_0 := Aside0.mk hi113_0
                  have HC113_0 := Aside0.mk hl113_0
                  clear hi113_0 hl113_0
                  replace p113 := eq_true p113
                  replace q113 := eq_true q113
                  refine start_ (n := 7) (S := fun w' => w'.cell? (ad110.add ((x7_1).toNat * 3)) = some (.slice A113_0 ((rd_T38 t107 x7_1).f0).length c113_0) ∧ w'.cell? ⟨(ad110.add ((x7_1).toNat * 3)).block, (ad110.add ((x7_1).toNat * 3)).off + 1, none⟩ = some (.bool ((rd_T38 t107 x7_1).f1)) ∧ w'.cell? ⟨(ad110.add ((x7_1).toNat * 3)).block, (ad110.add ((x7_1).toNat * 3)).off + 2, none⟩ = some (.string ((rd_T38 t107 x7_1).f2))) (ds := []) #[false, false, false, false, false, false, false] (by kernel_rfl) rfl rfl ⟨hx113_0, hx113_1, hx113_2⟩ (fun hHeld => ?_)
                  generalize w19.drew = w20 at HO_6 HL110_0 BK106 HR110_0 HB HL113_0 HR113_0 hx113_0 hx113_1 hx113_2 hHeld ⊢
                  refine pure_ (i := 0) (N := some 34) (v := ?_) (a' := ?_) #[true, false, false, false, false, false, false] rfl rfl (by kernel_rfl) (fun _ _ _ h => h) (Or.inl ⟨by rfl, ?_⟩) ?_ ?_
                  rotate_left
                  · intro w'
                    go_simp
                    with_reducible rfl
                  rotate_left
                  · simp only [Act.put, List.setIfInBounds_toArray, List.set_cons_zero, List.set_cons_succ, i64_w, i32_w]
                    rfl
                  refine pure_ (i := 1) (N := some 35) (v := ?_) (a' := ?_) #[true, true, false, false, false, false, false] rfl rfl (by kernel_rfl) (fun _ _ _ h => h) (Or.inl ⟨by rfl, ?_⟩) ?_ ?_
                  rotate_left
                  · intro w'
                    go_simp
                    with_reducible rfl
                  rotate_left
                  · simp only [Act.put, List.setIfInBounds_toArray, List.set_cons_zero, List.set_cons_succ, i64_w, i32_w]
                    rfl
                  refine pure_ (i := 2) (N := some 36) (v := ?_) (a' := ?_) #[true, true, true, false, false, false, false] rfl rfl (by kernel_rfl) (fun _ _ _ h => h) (Or.inl ⟨by rfl, ?_⟩) ?_ ?_
                  rotate_left
                  · intro w'
                    go_simp
                    with_reducible rfl
                  rotate_left
                  · simp only [Act.put, List.setIfInBounds_toArray, List.set_cons_zero, List.set_cons_succ, i64_w, i32_w]
                    rfl
                  refine pure_ (i := 3) (N := some 37) (v := ?_) (a' := ?_) #[true, true, true, true, false, false, false] rfl rfl (by kernel_rfl) (fun _ _ _ h => h) (Or.inl ⟨by rfl, ?_⟩) ?_ ?_
                  rotate_left
                  · intro w'
                    go_simp
                    with_reducible rfl
                  rotate_left
                  · simp only [Act.put, List.setIfInBounds_toArray, List.set_cons_zero, List.set_cons_succ, i64_w, i32_w]
                    rfl
                  refine pure_ (i := 5) (N := some 4) (v := ?_) (a' := ?_) #[true, true, true, true, false, true, false] rfl rfl (by kernel_rfl) (fun _ _ _ h => h) (Or.inl ⟨by rfl, ?_⟩) ?_ ?_
                  rotate_left
                  · intro w'
                    go_simp
                    with_reducible rfl
                  rotate_left
                  · simp only [Act.put, List.setIfInBounds_toArray, List.set_cons_zero, List.set_cons_succ, i64_w, i32_w]
                    rfl
                  refine take_ (i := 4) (N := some 38) (v := ?_) (a' := ?_) #[true, true, true, true, true, true, false] rfl rfl (by kernel_rfl) (fun _ _ _ h => h) (Or.inl ⟨by rfl, ?_⟩) hHeld ?_ ?_
                  rotate_left
                  · rintro w' ⟨s0, s1, s2⟩
                    go_simp
                    with_reducible rfl
                  rotate_left
                  · simp only [Act.put, List.setIfInBounds_toArray, List.set_cons_zero, List.set_cons_succ, i64_w, i32_w]
                    rfl
                  refine one_ (i := 6) (N := none) #[true, true, true, true, true, true, true] rfl rfl (by kernel_rfl) (by decide) (fun K hK => ?_)
                  have hs21 : w20.cell? ⟨gb106, 0, none⟩ = some (.slice none 0 0) := (blk_cell BK106.out 0).trans rfl
                  have hfs21 := blk_frozen BK106.out 0
                  have hs22 : w20.cell? ⟨gb106, 1, none⟩ = some (.bool x107001_1) := (blk_cell BK106.out 1).trans rfl
                  have hfs22 := blk_frozen BK106.out 1
                  have hs23 : w20.cell? ⟨gb106, 2, none⟩ = some (.string x107002_1) := (blk_cell BK106.out 2).trans rfl
                  have hfs23 := blk_frozen BK106.out 2
                  refine skip_ (w1 := ?_) (by rfl) rfl ?_ ?_
                  rotate_left
                  · go_simp
                    rfl
                  refine hK.out _ _ ⟨((cell_far (p := ⟨gb106, _, none⟩) (by first | exact Kd.own_blk (Kd.N_away HO_6.out (fun _ hk => hk.2)) | (rw [add_block]; exact Kd.own_blk (Kd.N_away HO_6.out (fun _ hk => hk.2))) | (show (Addr.add _ _).block ≠ _; rw [add_block]; exact Kd.own_blk (Kd.N_away HO_6.out (fun _ hk => hk.2))) | (dsimp only; exact Kd.own_blk (Kd.N_away HO_6.out (fun _ hk => hk.2)))) _).trans (((cell_far (p := ⟨gb106, _, none⟩) (by first | exact Kd.own_blk (Kd.N_away HO_6.out (fun _ hk => hk.2)) | (rw [add_block]; exact Kd.own_blk (Kd.N_away HO_6.out (fun _ hk => hk.2))) | (show (Addr.add _ _).block ≠ _; rw [add_block]; exact Kd.own_blk (Kd.N_away HO_6.out (fun _ hk => hk.2))) | (dsimp only; exact Kd.own_blk (Kd.N_away HO_6.out (fun _ hk => hk.2)))) _).trans (((cell_far (p := ⟨gb106, _, none⟩) (by first | exact Kd.own_blk (Kd.N_away HO_6.out (fun _ hk => hk.2)) | (rw [add_block]; exact Kd.own_blk (Kd.N_away HO_6.out (fun _ hk => hk.2))) | (show (Addr.add _ _).block ≠ _; rw [add_block]; exact Kd.own_blk (Kd.N_away HO_6.out (fun _ hk => hk.2))) | (dsimp only; exact Kd.own_blk (Kd.N_away HO_6.out (fun _ hk => hk.2)))) _).trans (hHeld.1)))))), ((cell_far (p := ⟨gb106, _, none⟩) (by first | exact Kd.own_blk (Kd.N_away HO_6.out (fun _ hk => hk.2)) | (rw [add_block]; exact Kd.own_blk (Kd.N_away HO_6.out (fun _ hk => hk.2))) | (show (Addr.add _ _).block ≠ _; rw [add_block]; exact Kd.own_blk (Kd.N_away HO_6.out (fun _ hk => hk.2))) | (dsimp only; exact Kd.own_blk (Kd.N_away HO_6.out (fun _ hk => hk.2)))) _).trans (((cell_far (p := ⟨gb106, _, none⟩) (by first | exact Kd.own_blk (Kd.N_away HO_6.out (fun _ hk => hk.2)) | (rw [add_block]; exact Kd.own_blk (Kd.N_away HO_6.out (fun _ hk => hk.2))) | (show (Addr.add _ _).block ≠ _; rw [add_block]; exact Kd.own_blk (Kd.N_away HO_6.out (fun _ hk => hk.2))) | (dsimp only; exact Kd.own_blk (Kd.N_away HO_6.out (fun _ hk => hk.2)))) _).trans (((cell_far (p := ⟨gb106, _, none⟩) (by first | exact Kd.own_blk (Kd.N_away HO_6.out (fun _ hk => hk.2)) | (rw [add_block]; exact Kd.own_blk (Kd.N_away HO_6.out (fun _ hk => hk.2))) | (show (Addr.add _ _).block ≠ _; rw [add_block]; exact Kd.own_blk (Kd.N_away HO_6.out (fun _ hk => hk.2))) | (dsimp only; exact Kd.own_blk (Kd.N_away HO_6.out (fun _ hk => hk.2)))) _).trans (hHeld.2.1)))))), ((cell_far (p := ⟨gb106, _, none⟩) (by first | exact Kd.own_blk (Kd.N_away HO_6.out (fun _ hk => hk.2)) | (rw [add_block]; exact Kd.own_blk (Kd.N_away HO_6.out (fun _ hk => hk.2))) | (show (Addr.add _ _).block ≠ _; rw [add_block]; exact Kd.own_blk (Kd.N_away HO_6.out (fun _ hk => hk.2))) | (dsimp only; exact Kd.own_blk (Kd.N_away HO_6.out (fun _ hk => hk.2)))) _).trans (((cell_far (p := ⟨gb106, _, none⟩) (by first | exact Kd.own_blk (Kd.N_away HO_6.out (fun _ hk => hk.2)) | (rw [add_block]; exact Kd.own_blk (Kd.N_away HO_6.out (fun _ hk => hk.2))) | (show (Addr.add _ _).block ≠ _; rw [add_block]; exact Kd.own_blk (Kd.N_away HO_6.out (fun _ hk => hk.2))) | (dsimp only; exact Kd.own_blk (Kd.N_away HO_6.out (fun _ hk => hk.2)))) _).trans (((cell_far (p := ⟨gb106, _, none⟩) (by first | exact Kd.own_blk (Kd.N_away HO_6.out (fun _ hk => hk.2)) | (rw [add_block]; exact Kd.own_blk (Kd.N_away HO_6.out (fun _ hk => hk.2))) | (show (Addr.add _ _).block ≠ _; rw [add_block]; exact Kd.own_blk (Kd.N_away HO_6.out (fun _ hk => hk.2))) | (dsimp only; exact Kd.own_blk (Kd.N_away HO_6.out (fun _ hk => hk.2)))) _).trans (hHeld.2.2))))))⟩ (fun hHeld => ?_)
                  clear hK K
                  refine done_ (by kernel_rfl) ?_
                  try go_wp2
                  refine bodyPost_ret (results_tc rfl _ _ gb106 38 #[.slice A113_0 ((rd_T38 t107 x7_1).f0).length c113_0, .bool ((rd_T38 t107 x7_1).f1), .string ((rd_T38 t107 x7_1).f2)] (0, 0) _ rfl (by (with_reducible repeat (first | refine blk_drewN ?_ _ | refine blk_drew ?_ | refine blk_alloc ?_ _)); refine blk_put (cs := #[.slice A113_0 ((rd_T38 t107 x7_1).f0).length c113_0, .bool ((rd_T38 t107 x7_1).f1), .string x107002_1]) ?_ 2 _ rfl; (with_reducible repeat (first | refine blk_drewN ?_ _ | refine blk_drew ?_ | refine blk_alloc ?_ _)); refine blk_put (cs := #[.slice A113_0 ((rd_T38 t107 x7_1).f0).length c113_0, .bool x107001_1, .string x107002_1]) ?_ 1 _ rfl; (with_reducible repeat (first | refine blk_drewN ?_ _ | refine blk_drew ?_ | refine blk_alloc ?_ _)); refine blk_put (cs := #[.slice none 0 0, .bool x107001_1, .string x107002_1]) ?_ 0 _ rfl; (with_reducible repeat (first | refine blk_drewN ?_ _ | refine blk_drew ?_ | refine blk_alloc ?_ _)); exact BK106.out) Try.underlying38 rfl (by kernel_rfl)) rfl ?_
                  exact ⟨_, by first | rfl | (simp [errW_none, errW_some] <;> rfl) | (simp [*, errW_none, errW_some] <;> rfl), by (with_reducible repeat (first | apply Kd.V_alloc | apply Kd.V_drewN | apply Kd.V_drew)); exact Kd.V_mono (Kd.V_far (p := ⟨gb106, 2, none⟩) (Kd.V_far (p := ⟨gb106, 1, none⟩) (Kd.V_far (p := ⟨gb106, 0, none⟩) (Kd.V_mono HL113_0.out (fun k_ hk => (⟨hk, hk.1.2⟩ : _ ∧ k_ ≠ gb106))) (fun _ hk => hk.2) (.slice A113_0 ((rd_T38 t107 x7_1).f0).length c113_0)) (fun _ hk => hk.2) (.bool ((rd_T38 t107 x7_1).f1))) (fun _ hk => hk.2) (.string ((rd_T38 t107 x7_1).f2))) (fun _ hk => hk.1.1.1), by repeat (first | (with_reducible first | exact HB.out | apply below_alloc | apply pw_below_drewN | apply below_drew1 | refine below_set ?_ GE106.out) | exact HB.out)⟩
              · rw [if_neg c10] at H
                exact absurd H (by simp)
            · rw [if_neg c9] at H
              exact absurd H (by simp)
          · rw [if_neg c8] at H
            exact absurd H (by simp)
        · rw [if_neg c7] at H
          exact absurd H (by simp)
      · rw [if_neg c6] at H
        have c6b0 : decide (x18_1 < (a1.size : Int)) = false := decide_eq_false c6
        clear c6
        by_cases c24 : 0 ≤ x7_1
        · rw [if_pos c24] at H
          have c24b0 : decide (0 ≤ x7_1) = true := decide_eq_true c24
          clear c24
          by_cases c25 : x7_1 < (t107.length : Int)
          · rw [if_pos c25] at H
            have c25b0 : decide (x7_1 < (t107.length : Int)) = true := decide_eq_true c25
            clear c25
            simp only [Option.some.injEq, Prod.mk.injEq] at H
            obtain ⟨rfl, rfl, rfl, rfl⟩ := H
            try go_wp2
            have n0_ := Aside0.mk (Kd.N_drew HO_6.out)
            have n1_ := Aside0.mk (blk_drew BK106.out)
            have n2_ := Aside0.mk (below_drew1 HB.out)
            clear HO_6
            clear BK106
            clear HB
            have HO_6 := n0_
            have BK106 := n1_
            have HB := n2_
            clear n0_ n1_ n2_
            obtain ⟨Ao27, co27, eo27⟩ := Kd.N_slice HO_6.out
            (first | subst eo27 | (injection eo27 with f1_ f2_ f3_; have f4_ := f1_.symm; have f5_ := f3_.symm; clear f1_ f2_ f3_; subst f4_; subst f5_))
            have p114 : 0 ≤ (x7_1 : Int) := of_decide_eq_true (by first | (with_reducible assumption) | assumption)
            have q114 : x7_1 < (t107.length : Int) := of_decide_eq_true (by first | (with_reducible assumption) | assumption)
            obtain ⟨ad114, A114_0, c114_0, e114, hx114_0, hx114_1, hx114_2, hl114_0, hi114_0⟩ := at_T38 (Kd.N_reads' HO_6.out).2.2 x7_1 p114 q114
            cases e114
            obtain ⟨ce114, hce114, hMe114, hcc114⟩ := Kd.N_get HO_6.out z38 x7_1 p114 (by first | exact q114 | exact of_decide_eq_true (by first | (with_reducible assumption) | assumption) | (have e_ := (Kd.N_reads' HO_6.out).1; omega))
            obtain ⟨ua114_0, uc114_0, rfl, ul114_0, ge114_0⟩ := k38_openF hMe114
            have hv114_0 := hcc114 0 _ rfl
            rw [Nat.add_zero] at hv114_0
            replace hv114_0 := Option.some.inj (hv114_0.symm.trans hx114_0)
            injection hv114_0 with hva_ hvn_ hvc_
            rw [hva_] at ge114_0
            rw [hvc_] at ul114_0
            have HL114_0 := Aside0.mk (show Kd.V k54 54 _ w.heap.size _ _ ((rd_T38 t107 x7_1).f0) from Kd.V_mk ul114_0 ge114_0)
            clear hva_ hvn_ hvc_ ge114_0 ul114_0
            clear hcc114 hce114
            have HR114_0 := Aside0.mk hi114_0
            have HC114_0 := Aside0.mk hl114_0
            clear hi114_0 hl114_0
            replace p114 := eq_true p114
            replace q114 := eq_true q114
            refine start_ (n := 8) (S := fun w' => w'.cell? (ad114.add ((x7_1).toNat * 3)) = some (.slice A114_0 ((rd_T38 t107 x7_1).f0).length c114_0) ∧ w'.cell? ⟨(ad114.add ((x7_1).toNat * 3)).block, (ad114.add ((x7_1).toNat * 3)).off + 1, none⟩ = some (.bool ((rd_T38 t107 x7_1).f1)) ∧ w'.cell? ⟨(ad114.add ((x7_1).toNat * 3)).block, (ad114.add ((x7_1).toNat * 3)).off + 2, none⟩ = some (.string ((rd_T38 t107 x7_1).f2))) (ds := []) #[false, false, false, false, false, false, false, false] (by kernel_rfl) rfl rfl ⟨hx114_0, hx114_1, hx114_2⟩ (fun hHeld => ?_); refine with_tabW word_read1.tab13 word_read1.bits13 (fun HT_ HW_ => ?_)
            generalize wr.drew = w26 at HO_6 BK106 HB HL114_0 HR114_0 hx114_0 hx114_1 hx114_2 hHeld ⊢
            refine pure_ (i := 0) (N := some 41) (v := ?_) (a' := ?_) #[true, false, false, false, false, false, false, false] rfl rfl (any_of HT_.out (by kernel_rfl)) (fun _ _ _ h => h) (Or.inl ⟨by rfl, ?_⟩) ?_ ?_
            rotate_left
            · intro w'
              go_simp
              with_reducible rfl
            rotate_left
            · simp only [Act.put, List.setIfInBounds_toArray, List.set_cons_zero, List.set_cons_succ, i64_w, i32_w]
              rfl
            refine pure_ (i := 1) (N := some 42) (v := ?_) (a' := ?_) #[true, true, false, false, false, false, false, false] rfl rfl (any_of HT_.out (by kernel_rfl)) (fun _ _ _ h => h) (Or.inl ⟨by rfl, ?_⟩) ?_ ?_
            rotate_left
            · intro w'
              go_simp
              with_reducible rfl
            rotate_left
            · simp only [Act.put, List.setIfInBounds_toArray, List.set_cons_zero, List.set_cons_succ, i64_w, i32_w]
              rfl
            refine pure_ (i := 2) (N := some 43) (v := ?_) (a' := ?_) #[true, true, true, false, false, false, false, false] rfl rfl (any_of HT_.out (by kernel_rfl)) (fun _ _ _ h => h) (Or.inl ⟨by rfl, ?_⟩) ?_ ?_
            rotate_left
            · intro w'
              go_simp
              with_reducible rfl
            rotate_left
            · simp only [Act.put, List.setIfInBounds_toArray, List.set_cons_zero, List.set_cons_succ, i64_w, i32_w]
              rfl
            refine pure_ (i := 3) (N := some 44) (v := ?_) (a' := ?_) #[true, true, true, true, false, false, false, false] rfl rfl (any_of HT_.out (by kernel_rfl)) (fun _ _ _ h => h) (Or.inl ⟨by rfl, ?_⟩) ?_ ?_
            rotate_left
            · intro w'
              go_simp
              with_reducible rfl
            rotate_left
            · simp only [Act.put, List.setIfInBounds_toArray, List.set_cons_zero, List.set_cons_succ, i64_w, i32_w]
              rfl
            refine pure_ (i := 4) (N := some 45) (v := ?_) (a' := ?_) #[true, true, true, true, true, false, false, false] rfl rfl (any_of HT_.out (by kernel_rfl)) (fun _ _ _ h => h) (Or.inl ⟨by rfl, ?_⟩) ?_ ?_
            rotate_left
            · intro w'
              go_simp
              with_reducible rfl
            rotate_left
            · simp only [Act.put, List.setIfInBounds_toArray, List.set_cons_zero, List.set_cons_succ, i64_w, i32_w]
              rfl
            refine pure_ (i := 6) (N := some 4) (v := ?_) (a' := ?_) #[true, true, true, true, true, false, true, false] rfl rfl (any_of HT_.out (by kernel_rfl)) (fun _ _ _ h => h) (Or.inl ⟨by rfl, ?_⟩) ?_ ?_
            rotate_left
            · intro w'
              go_simp
              with_reducible rfl
            rotate_left
            · simp only [Act.put, List.setIfInBounds_toArray, List.set_cons_zero, List.set_cons_succ, i64_w, i32_w]
              rfl
            refine take_ (i := 5) (N := some 46) (v := ?_) (a' := ?_) #[true, true, true, true, true, true, true, false] rfl rfl (take_ofW HT_.out HW_.out (by kernel_rfl)) (fun _ _ _ h => h) (Or.inl ⟨by rfl, ?_⟩) hHeld ?_ ?_
            rotate_left
            · rintro w' ⟨s0, s1, s2⟩
              go_simp
              with_reducible rfl
            rotate_left
            · simp only [Act.put, List.setIfInBounds_toArray, List.set_cons_zero, List.set_cons_succ, i64_w, i32_w]
              rfl
            refine one_ (i := 7) (N := none) #[true, true, true, true, true, true, true, true] rfl rfl (one_of HT_.out (by kernel_rfl)) (by decide) (fun K hK => ?_)
            have hs28 : w26.cell? ⟨gb106, 0, none⟩ = some (.slice none 0 0) := (blk_cell BK106.out 0).trans rfl
            have hfs28 := blk_frozen BK106.out 0
            have hs29 : w26.cell? ⟨gb106, 1, none⟩ = some (.bool x107001_1) := (blk_cell BK106.out 1).trans rfl
            have hfs29 := blk_frozen BK106.out 1
            have hs30 : w26.cell? ⟨gb106, 2, none⟩ = some (.string x107002_1) := (blk_cell BK106.out 2).trans rfl
            have hfs30 := blk_frozen BK106.out 2
            refine skip_ (w1 := ?_) (by rfl) rfl ?_ ?_
            rotate_left
            · go_simp
              rfl
            refine hK.out _ _ ⟨((cell_far (p := ⟨gb106, _, none⟩) (by first | exact Kd.own_blk (Kd.N_away HO_6.out (fun _ hk => hk.2)) | (rw [add_block]; exact Kd.own_blk (Kd.N_away HO_6.out (fun _ hk => hk.2))) | (show (Addr.add _ _).block ≠ _; rw [add_block]; exact Kd.own_blk (Kd.N_away HO_6.out (fun _ hk => hk.2))) | (dsimp only; exact Kd.own_blk (Kd.N_away HO_6.out (fun _ hk => hk.2)))) _).trans (((cell_far (p := ⟨gb106, _, none⟩) (by first | exact Kd.own_blk (Kd.N_away HO_6.out (fun _ hk => hk.2)) | (rw [add_block]; exact Kd.own_blk (Kd.N_away HO_6.out (fun _ hk => hk.2))) | (show (Addr.add _ _).block ≠ _; rw [add_block]; exact Kd.own_blk (Kd.N_away HO_6.out (fun _ hk => hk.2))) | (dsimp only; exact Kd.own_blk (Kd.N_away HO_6.out (fun _ hk => hk.2)))) _).trans (((cell_far (p := ⟨gb106, _, none⟩) (by first | exact Kd.own_blk (Kd.N_away HO_6.out (fun _ hk => hk.2)) | (rw [add_block]; exact Kd.own_blk (Kd.N_away HO_6.out (fun _ hk => hk.2))) | (show (Addr.add _ _).block ≠ _; rw [add_block]; exact Kd.own_blk (Kd.N_away HO_6.out (fun _ hk => hk.2))) | (dsimp only; exact Kd.own_blk (Kd.N_away HO_6.out (fun _ hk => hk.2)))) _).trans (hHeld.1)))))), ((cell_far (p := ⟨gb106, _, none⟩) (by first | exact Kd.own_blk (Kd.N_away HO_6.out (fun _ hk => hk.2)) | (rw [add_block]; exact Kd.own_blk (Kd.N_away HO_6.out (fun _ hk => hk.2))) | (show (Addr.add _ _).block ≠ _; rw [add_block]; exact Kd.own_blk (Kd.N_away HO_6.out (fun _ hk => hk.2))) | (dsimp only; exact Kd.own_blk (Kd.N_away HO_6.out (fun _ hk => hk.2)))) _).trans (((cell_far (p := ⟨gb106, _, none⟩) (by first | exact Kd.own_blk (Kd.N_away HO_6.out (fun _ hk => hk.2)) | (rw [add_block]; exact Kd.own_blk (Kd.N_away HO_6.out (fun _ hk => hk.2))) | (show (Addr.add _ _).block ≠ _; rw [add_block]; exact Kd.own_blk (Kd.N_away HO_6.out (fun _ hk => hk.2))) | (dsimp only; exact Kd.own_blk (Kd.N_away HO_6.out (fun _ hk => hk.2)))) _).trans (((cell_far (p := ⟨gb106, _, none⟩) (by first | exact Kd.own_blk (Kd.N_away HO_6.out (fun _ hk => hk.2)) | (rw [add_block]; exact Kd.own_blk (Kd.N_away HO_6.out (fun _ hk => hk.2))) | (show (Addr.add _ _).block ≠ _; rw [add_block]; exact Kd.own_blk (Kd.N_away HO_6.out (fun _ hk => hk.2))) | (dsimp only; exact Kd.own_blk (Kd.N_away HO_6.out (fun _ hk => hk.2)))) _).trans (hHeld.2.1)))))), ((cell_far (p := ⟨gb106, _, none⟩) (by first | exact Kd.own_blk (Kd.N_away HO_6.out (fun _ hk => hk.2)) | (rw [add_block]; exact Kd.own_blk (Kd.N_away HO_6.out (fun _ hk => hk.2))) | (show (Addr.add _ _).block ≠ _; rw [add_block]; exact Kd.own_blk (Kd.N_away HO_6.out (fun _ hk => hk.2))) | (dsimp only; exact Kd.own_blk (Kd.N_away HO_6.out (fun _ hk => hk.2)))) _).trans (((cell_far (p := ⟨gb106, _, none⟩) (by first | exact Kd.own_blk (Kd.N_away HO_6.out (fun _ hk => hk.2)) | (rw [add_block]; exact Kd.own_blk (Kd.N_away HO_6.out (fun _ hk => hk.2))) | (show (Addr.add _ _).block ≠ _; rw [add_block]; exact Kd.own_blk (Kd.N_away HO_6.out (fun _ hk => hk.2))) | (dsimp only; exact Kd.own_blk (Kd.N_away HO_6.out (fun _ hk => hk.2)))) _).trans (((cell_far (p := ⟨gb106, _, none⟩) (by first | exact Kd.own_blk (Kd.N_away HO_6.out (fun _ hk => hk.2)) | (rw [add_block]; exact Kd.own_blk (Kd.N_away HO_6.out (fun _ hk => hk.2))) | (show (Addr.add _ _).block ≠ _; rw [add_block]; exact Kd.own_blk (Kd.N_away HO_6.out (fun _ hk => hk.2))) | (dsimp only; exact Kd.own_blk (Kd.N_away HO_6.out (fun _ hk => hk.2)))) _).trans (hHeld.2.2))))))⟩ (fun hHeld => ?_)
            clear hK K
            refine done_ (done_of HT_.out (by kernel_rfl)) ?_
            try go_wp2
            refine bodyPost_ret (results_tc rfl _ _ gb106 38 #[.slice A114_0 ((rd_T38 t107 x7_1).f0).length c114_0, .bool ((rd_T38 t107 x7_1).f1), .string ((rd_T38 t107 x7_1).f2)] (0, 0) _ rfl (by (with_reducible repeat (first | refine blk_drewN ?_ _ | refine blk_drew ?_ | refine blk_alloc ?_ _)); refine blk_put (cs := #[.slice A114_0 ((rd_T38 t107 x7_1).f0).length c114_0, .bool ((rd_T38 t107 x7_1).f1), .string x107002_1]) ?_ 2 _ rfl; (with_reducible repeat (first | refine blk_drewN ?_ _ | refine blk_drew ?_ | refine blk_alloc ?_ _)); refine blk_put (cs := #[.slice A114_0 ((rd_T38 t107 x7_1).f0).length c114_0, .bool x107001_1, .string x107002_1]) ?_ 1 _ rfl; (with_reducible repeat (first | refine blk_drewN ?_ _ | refine blk_drew ?_ | refine blk_alloc ?_ _)); refine blk_put (cs := #[.slice none 0 0, .bool x107001_1, .string x107002_1]) ?_ 0 _ rfl; (with_reducible repeat (first | refine blk_drewN ?_ _ | refine blk_drew ?_ | refine blk_alloc ?_ _)); exact BK106.out) Try.underlying38 rfl (by kernel_rfl)) rfl ?_
            exact ⟨_, by first | rfl | (simp [errW_none, errW_some] <;> rfl) | (simp [*, errW_none, errW_some] <;> rfl), by (with_reducible repeat (first | apply Kd.V_alloc | apply Kd.V_drewN | apply Kd.V_drew)); exact Kd.V_mono (Kd.V_far (p := ⟨gb106, 2, none⟩) (Kd.V_far (p := ⟨gb106, 1, none⟩) (Kd.V_far (p := ⟨gb106, 0, none⟩) (Kd.V_mono HL114_0.out (fun k_ hk => (⟨hk, hk.1.2⟩ : _ ∧ k_ ≠ gb106))) (fun _ hk => hk.2) (.slice A114_0 ((rd_T38 t107 x7_1).f0).length c114_0)) (fun _ hk => hk.2) (.bool ((rd_T38 t107 x7_1).f1))) (fun _ hk => hk.2) (.string ((rd_T38 t107 x7_1).f2))) (fun _ hk => hk.1.1.1), by repeat (first | (with_reducible first | exact HB.out | apply below_alloc | apply pw_below_drewN | apply below_drew1 | refine below_set ?_ GE106.out) | exact HB.out)⟩
          · rw [if_neg c25] at H
            exact absurd H (by simp)
        · rw [if_neg c24] at H
          exact absurd H (by simp)


theorem read_no (k : Int) (hk : k < 0 ∨ 2 < k) (s : ByteArray) (w : World) : Calls Try.prog 20 #[.int .i64 k, .string s] w fun e w' => e = .returned (.tuple #[.int .i64 (-1), .agg #[.slice none 0 0, .bool false, .string ⟨#[]⟩]]) ∧ Below w.heap.size w w' := by
  have hnil : ∀ W, (binOp .eql 46 (.slice none 0 0) (.slice none 0 0)).run Try.prog W = .ok (.bool true) W := fun W => Lib.run_eql_slice_nil W 46 38 none 0 0 0 0 Try.underlying46
  have hu38 := Try.underlying38
  go_enter Try.func20, Try.ntmps20
  go_wp2_with (go_at_call 28; refine (states_no k hk _).mono ?_; rintro e w' ⟨rfl, rfl⟩)
  exact bodyPost_ret (v := .tuple #[.int .i64 (-1), .agg #[.slice none 0 0, .bool false, .string ⟨#[]⟩]]) (by simp [results, Try.results20, go_sem]) rfl ⟨rfl, below_alloc (Below.refl _ _) _⟩
def word_read.f (k : Nat) (a0 : Int) (a1 : ByteArray) : Option (Int × (List (S54)) × Bool × ByteArray) := if 0 ≤ a0 ∧ a0 ≤ 2 then word_read1.f k a0 a1 else some (-1, [], false, ⟨#[]⟩)
theorem word_read.mono : ∀ a0 a1 k, LeO (word_read.f k a0 a1) (word_read.f (k + 1) a0 a1) := by
  intro a0 a1 k
  unfold word_read.f
  exact LeO.ite (word_read1.mono _ _ _) (LeO.refl _)
theorem word_read.calls (k : Nat) (a0 : Int) (a1 : ByteArray) (r1 : Int) (r2 : List (S54)) (r3 : Bool) (r4 : ByteArray) (w : World) (h : word_read.f k a0 a1 = some (r1, r2, r3, r4)) :
    Calls Try.prog 20 #[.int .i64 a0, .string a1] w fun e w' => ∃ v1_ : Value, e = .returned (.tuple #[.int .i64 r1, .agg #[v1_, .bool r3, .string r4]]) ∧ Kd.V k54 54 w' w.heap.size (fun k_ => (w.heap.size ≤ k_)) v1_ r2 ∧ Below w.heap.size w w' := by
  unfold word_read.f at h
  by_cases hk : 0 ≤ a0 ∧ a0 ≤ 2
  · rw [if_pos hk] at h
    exact word_read1.calls k a0 a1 r1 r2 r3 r4 w hk h
  · rw [if_neg hk] at h
    simp only [Option.some.injEq, Prod.mk.injEq] at h
    obtain ⟨rfl, rfl, rfl, rfl⟩ := h
    exact (read_no a0 (by omega) a1 w).mono fun e w' ⟨he, hb⟩ => ⟨_, he, Kd.R_V (Kd.R_nil k54 54 w' w.heap.size _), hb⟩
def findT (k a : Int) : S38 := if a < 0 then z38 else (statesT k).getD a.toNat z38
theorem bcell {W w1 : World} (hb : Below W.heap.size W w1) : (∀ b o, b < W.heap.size → w1.cell? ⟨b, o, none⟩ = W.cell? ⟨b, o, none⟩) ∧ (∀ b o, b < W.heap.size → w1.frozen? ⟨b, o, none⟩ = W.frozen? ⟨b, o, none⟩) :=
  ⟨fun b o h => hb.cell (p := ⟨b, o, none⟩) h, fun b o h => hb.frozen (p := ⟨b, o, none⟩) h⟩
def FindPost (s : S38) (w : World) (e : Ending) (w' : World) : Prop := ∃ v0_ : Value, e = .returned (.agg #[v0_, .bool s.f1, .string s.f2]) ∧ Kd.V k54 54 w' w.heap.size (fun k_ => w.heap.size ≤ k_) v0_ s.f0 ∧ Below w.heap.size w w'
set_option maxHeartbeats 1000000 in
theorem find_neg (k a : Int) (h0 : a < 0) (w : World) : Calls Try.prog 25 #[.int .i64 k, .int .i64 a] w (FindPost z38 w) := by
  have hu38 := Try.underlying38
  go_enter Try.func25, Try.ntmps25
  go_wp2_with (go_at_call 28; refine (word_states.calls k _ _ rfl).mono ?_; rintro e w1 ⟨v, rfl, hN, hb⟩; obtain ⟨A, c, rfl⟩ := Kd.N_slice hN; clear hN; obtain ⟨hc, hf⟩ := bcell hb; have hz : w.heap.size < w1.heap.size := by have := hb.size; simp at this; omega)
  exact bodyPost_ret (v := .agg #[.slice none 0 0, .bool false, .string ⟨#[]⟩]) (by simp [results, Try.results25, go_sem, hc]) rfl ⟨_, rfl, Kd.R_V (Kd.R_nil k54 54 _ w.heap.size _), (((((Below.refl _ _).alloc (Nat.le_refl _) _).trans (hb.mono (by simp))).setCell (Nat.le_refl _) _).setCell (Nat.le_refl _) _).setCell (Nat.le_refl _) _⟩
set_option maxHeartbeats 1000000 in
theorem find_in (k a : Int) (h0 : 0 ≤ a) (h1 : a < (statesT k).length) (s : S38) (hs : (statesT k).getD a.toNat z38 = s) (w : World) : Calls Try.prog 25 #[.int .i64 k, .int .i64 a] w (FindPost s w) := by
  have hu38 := Try.underlying38
  have hn : ¬ a < 0 := by omega
  have Hs := Aside0.mk hs
  clear hs
  go_enter Try.func25, Try.ntmps25
  go_wp2_with (go_at_call 28; refine (word_states.calls k _ _ rfl).mono ?_; rintro e w1 ⟨v, rfl, hN, hb⟩; obtain ⟨g, cap, rfl, hg, hlt, _⟩ := Kd.N_form hN (by omega); obtain ⟨cs, hl, hK, hcc, _⟩ := Kd.N_elem hN z38 a h0 h1; rw [Hs.out] at hK; obtain ⟨A0, c0, rfl, hlc, hF⟩ := k38_openF hK; have hc0 : w1.cell? ⟨g, a.toNat * 3, none⟩ = _ := hcc 0 _ rfl; have hc1 : w1.cell? ⟨g, a.toNat * 3 + 1, none⟩ = _ := hcc 1 _ rfl; have hc2 : w1.cell? ⟨g, a.toNat * 3 + 2, none⟩ = _ := hcc 2 _ rfl; clear hcc hK hN hl; obtain ⟨hc, hf⟩ := bcell hb; have hz : w.heap.size < w1.heap.size := by have := hb.size; simp at this; omega)
  refine bodyPost_ret (v := .agg #[.slice A0 s.f0.length c0, .bool s.f1, .string s.f2]) (by simp [results, Try.results25, go_sem, hc]) rfl ⟨_, rfl, ⟨A0, c0, rfl, hlc, ?_⟩, (((((Below.refl _ _).alloc (Nat.le_refl _) _).trans (hb.mono (by simp))).setCell (Nat.le_refl _) _).setCell (Nat.le_refl _) _).setCell (Nat.le_refl _) _⟩
  have hk : ∀ k_, ((w.alloc (.cells #[.slice none 0 0, .bool false, .string ⟨#[]⟩] 38)).heap.size ≤ k_ ∧ k_ ≠ g) → k_ ≠ w.heap.size := fun k_ h => by have := h.1; simp at this; omega
  exact Kd.F_mono (Kd.F_far (p := ⟨w.heap.size, 2, none⟩) (Kd.F_far (p := ⟨w.heap.size, 1, none⟩) (Kd.F_far (p := ⟨w.heap.size, 0, none⟩) hF hk _) hk _) hk _) (fun k_ h => by have := h.1; simp at this; omega)
set_option maxHeartbeats 1000000 in
theorem find_out (k a : Int) (h0 : 0 ≤ a) (h1 : (statesT k).length ≤ a) (w : World) : Calls Try.prog 25 #[.int .i64 k, .int .i64 a] w (FindPost z38 w) := by
  have hu38 := Try.underlying38
  have hn : ¬ a < 0 := by omega
  go_enter Try.func25, Try.ntmps25
  go_wp2_with (go_at_call 28; refine (word_states.calls k _ _ rfl).mono ?_; rintro e w1 ⟨v, rfl, hN, hb⟩; obtain ⟨A, c, rfl⟩ := Kd.N_slice hN; clear hN; obtain ⟨hc, hf⟩ := bcell hb; have hz : w.heap.size < w1.heap.size := by have := hb.size; simp at this; omega)
  exact bodyPost_ret (v := .agg #[.slice none 0 0, .bool false, .string ⟨#[]⟩]) (by simp [results, Try.results25, go_sem, hc]) rfl ⟨_, rfl, Kd.R_V (Kd.R_nil k54 54 _ w.heap.size _), (((((Below.refl _ _).alloc (Nat.le_refl _) _).trans (hb.mono (by simp))).setCell (Nat.le_refl _) _).setCell (Nat.le_refl _) _).setCell (Nat.le_refl _) _⟩
theorem find_any (k a : Int) (w : World) : Calls Try.prog 25 #[.int .i64 k, .int .i64 a] w (FindPost (findT k a) w) := by
  unfold findT
  by_cases h0 : a < 0
  · rw [if_pos h0]; exact find_neg k a h0 w
  · rw [if_neg h0]
    by_cases h1 : a < (statesT k).length
    · exact find_in k a (by omega) h1 _ rfl w
    · rw [List.getD_eq_getElem?_getD, List.getElem?_eq_none (by omega)]; exact find_out k a (by omega) (by omega) w
def word_find.f (a0 : Int) (a1 : Int) : Option ((List (S54)) × Bool × ByteArray) := some ((findT a0 a1).f0, (findT a0 a1).f1, (findT a0 a1).f2)
theorem word_find.calls (a0 : Int) (a1 : Int) (r1 : List (S54)) (r2 : Bool) (r3 : ByteArray) (w : World) (h : word_find.f a0 a1 = some (r1, r2, r3)) :
    Calls Try.prog 25 #[.int .i64 a0, .int .i64 a1] w fun e w' => ∃ v0_ : Value, e = .returned (.agg #[v0_, .bool r2, .string r3]) ∧ Kd.V k54 54 w' w.heap.size (fun k_ => (w.heap.size ≤ k_)) v0_ r1 ∧ Below w.heap.size w w' := by
  unfold word_find.f at h
  simp only [Option.some.injEq, Prod.mk.injEq] at h
  obtain ⟨rfl, rfl, rfl⟩ := h
  exact find_any a0 a1 w
theorem rest_any (k a : Int) (w : World) : Calls Try.prog 15 #[.int .i64 k, .int .i64 a] w fun e w' => e = .returned (.string (findT k a).f2) ∧ Below w.heap.size w w' := by
  have hfd : ∀ v b (c : ByteArray) W, (Instr.field 38 (.agg #[v, b, .string c]) 2).run Try.prog W = .ok (.string c) W := fun _ _ _ _ => by kernel_rfl
  go_enter Try.func15, Try.ntmps15
  go_wp2_with (go_at_call 25; refine (find_any k a _).mono ?_; rintro e w1 ⟨v, rfl, hV, hb⟩)
  go_ret
  exact ⟨rfl, hb⟩
theorem ends_any (k a : Int) (w : World) : Calls Try.prog 16 #[.int .i64 k, .int .i64 a] w fun e w' => e = .returned (.bool (findT k a).f1) ∧ Below w.heap.size w w' := by
  have hfd : ∀ v (b : Bool) (c : Value) W, (Instr.field 38 (.agg #[v, .bool b, c]) 1).run Try.prog W = .ok (.bool b) W := fun _ _ _ _ => by kernel_rfl
  go_enter Try.func16, Try.ntmps16
  go_wp2_with (go_at_call 25; refine (find_any k a _).mono ?_; rintro e w1 ⟨v, rfl, hV, hb⟩)
  go_ret
  exact ⟨rfl, hb⟩
def word_Rest.f (a0 : Int) (a1 : Int) : Option ByteArray := some (findT a0 a1).f2
def word_Ends.f (a0 : Int) (a1 : Int) : Option Bool := some (findT a0 a1).f1
theorem word_Rest.calls (a0 : Int) (a1 : Int) (r : ByteArray) (w : World) (h : word_Rest.f a0 a1 = some r) :
    Calls Try.prog 15 #[.int .i64 a0, .int .i64 a1] w fun e w' => e = .returned (.string r) ∧ Below w.heap.size w w' := by
  obtain rfl := Option.some.inj h
  exact rest_any a0 a1 w
theorem word_Ends.calls (a0 : Int) (a1 : Int) (r : Bool) (w : World) (h : word_Ends.f a0 a1 = some r) :
    Calls Try.prog 16 #[.int .i64 a0, .int .i64 a1] w fun e w' => e = .returned (.bool r) ∧ Below w.heap.size w w' := by
  obtain rfl := Option.some.inj h
  exact ends_any a0 a1 w
end Go.Proofs.Ytbkcjgjcnnggbaa.Q
