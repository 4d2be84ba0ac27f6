/- Part 9 of this claim: several texts one behind the other: Fgraftwoodref03May, Fgraftwoodref05May, SplitP, RVal, RCmp, Fgraftwoodref05Less. What each shows stands in its theorems; conditions: sizes of texts and lists, as the functions' definitions say. -/
import Derived.Test.YtcfphieogalnbaaGreatDoorMDiffEdits0
import Derived.Test.YtcfphieogalnbaaGreatDoorMDiffEdits8
import Derived.Test.YtcfphieogalnbaaGreatDoorMDiffEdits2
import Derived.Test.YtcfphieogalnbaaGreatDoorMDiffEdits1
import Derived.Test.YtcfphieogalnbaaGreatDoorMDiffEdits3
import Derived.Test.YtcfphieogalnbaaGreatDoorMDiffEdits5
import Derived.RegionTactic
import Derived.BigRegion
import Derived.ChangeAlike
import Derived.Deep.QuietTactic
import Derived.BigQuiet
import Derived.Deep.RegionHeld3
section
namespace Go.Proofs.YtcfphieogalnbaaGreatDoor.Q
open Go.RowKit Go.Proofs.YtcfphieogalnbaaGreatDoorW.PrintWords Go.Proofs.YtcfphieogalnbaaGreatDoorW.PrintLast Go.Proofs.YtcfphieogalnbaaGreatDoorW.PrintMore
attribute [local go_sem] max2_int min2_int max_two min_two max_three min_three max_four min_four   -- for this text's walks alone
set_option linter.unusedVariables false
set_option linter.unusedSimpArgs false
/-! ### graftwoodref03_May: function 26 -/
def graftwoodref03_May.f (a0 : ByteArray) : Option (Bool) := (graftwoodref03_Split.f a0).bind fun bt188 => (some bt188.2.2.2.2)
set_option maxHeartbeats 8000000 in
set_option maxRecDepth 100000 in
theorem graftwoodref03_May.calls (a0 : ByteArray) (r : Bool) (w : World) (h : graftwoodref03_May.f a0 = some r) :
    Calls Tryz.prog 26 #[.string a0] w fun e w' => e = .returned (.bool r) ∧ Below w.heap.size w w' := by
  have hu65 := Tryz.underlying65
  have HB := Aside0.mk (Below.refl w.heap.size w)
  have H : ((graftwoodref03_Split.f a0).bind fun bt188 => (some bt188.2.2.2.2)) = some r := h
  clear h
  replace H := Option.bind_eq_some_iff.mp H
  obtain ⟨⟨t188, t189, t190, t191, t194⟩, A20, H⟩ := H
  replace H : (some t194) = some r := H
  have A2 := Aside0.mk A20
  clear A20
  obtain rfl := Option.some.inj H
  go_enter Tryz.func26, Tryz.ntmps26
  go_wp2_with (first | ((with_reducible refine gate_callee (f := 38) rfl ?_); refine goesL_ (some 7) rfl rfl Tryz.func38 (by kernel_rfl) rfl #[.string a0] rfl (by (try simp only [List.map_toArray, List.map_cons, List.map_nil]); first | done | rfl | (simp only [List.length_drop, List.length_take]; rfl)) ?_; (with_reducible refine (graftwoodref03_Split.calls a0 t188 t189 t190 t191 t194 _ A2.out).mono ?_); rintro e w3 ⟨v192, rfl, ho0, hb⟩; refine ⟨_, rfl, ?_⟩; have n0_ := Aside0.mk (Kd.R_lower ho0 (below_size (by repeat (first | (with_reducible first | exact HB.out | apply below_alloc | apply pw_below_drewN | apply below_drew1) | exact HB.out)))); have n1_ := Aside0.mk (below_step (by repeat (first | (with_reducible first | exact HB.out | apply below_alloc | apply pw_below_drewN | apply below_drew1) | exact HB.out)) hb); clear HB; have HO193 := n0_; have HB := n1_; clear n0_ n1_; (try clear hb); (try clear hb2); (try clear hk); (try clear hi); (try clear ho0)) | ((with_reducible refine gate_dst (N := 3) rfl ?_); refine box_event ?hg (N := 3) ?hd (cs := #[.string (⟨#[]⟩ : ByteArray), .string (⟨#[]⟩ : ByteArray), .string (⟨#[]⟩ : ByteArray), .slice none 0 0]) (t := 65) ?hr ?_; (case hd => rfl); (case hg => rfl); (case hr => first | (go_simp; done) | (go_simp; rfl)); intro gb195 hg w4 hbox hb; have n0_ := Aside0.mk (Kd.R_below (by (with_reducible repeat (first | apply Kd.R_alloc | apply Kd.R_drewN | apply Kd.R_drew)); exact HO193.out) hb); have n1_ := Aside0.mk (below_step (by repeat (first | (with_reducible first | exact HB.out | apply below_alloc | apply pw_below_drewN | apply below_drew1) | exact HB.out)) hb); have n2_ := Aside0.mk (hbox); have n3_ := Aside0.mk ((by rw [hg]; exact (below_size (by repeat (first | (with_reducible first | exact HB.out | apply below_alloc | apply pw_below_drewN | apply below_drew1) | exact HB.out))) : w.heap.size ≤ gb195)); have n4_ := Aside0.mk ((by rw [hg]; exact (below_size (by repeat (first | (with_reducible first | exact HB.out | apply below_alloc | apply pw_below_drewN | apply below_drew1) | exact HB.out))) : w.heap.size ≤ gb195)); clear HO193; clear HB; have HO193 := n0_; have HB := n1_; have BK195 := n2_; have GW195 := n3_; have GE195 := n4_; clear n0_ n1_ n2_ n3_ n4_; clear hb hbox hg; have hcz5_0 : w4.cell? ⟨gb195, 0, none⟩ = some (.string (⟨#[]⟩ : ByteArray)) := (blk_cell BK195.out 0).trans rfl; have hcz5_1 : w4.cell? ⟨gb195, 1, none⟩ = some (.string (⟨#[]⟩ : ByteArray)) := (blk_cell BK195.out 1).trans rfl; have hcz5_2 : w4.cell? ⟨gb195, 2, none⟩ = some (.string (⟨#[]⟩ : ByteArray)) := (blk_cell BK195.out 2).trans rfl; have hcz5_3 : w4.cell? ⟨gb195, 3, none⟩ = some (.slice none 0 0) := (blk_cell BK195.out 3).trans rfl; have hfz5_0 := blk_frozen BK195.out 0; have hfz5_1 := blk_frozen BK195.out 1; have hfz5_2 := blk_frozen BK195.out 2; have hfz5_3 := blk_frozen BK195.out 3; obtain ⟨Ao6, co6, eo6⟩ := Kd.R_slice HO193.out; subst eo6))
  go_ret
  exact ⟨by first | rfl | (simp [errW_none, errW_some] <;> rfl) | (simp [*, errW_none, errW_some] <;> rfl), by repeat (first | (with_reducible first | exact HB.out | apply below_alloc | apply pw_below_drewN | apply below_drew1 | refine below_set ?_ GE195.out) | exact HB.out)⟩
/-! ### graftwoodref05_May: function 12 -/
def graftwoodref05_May.f (k : Nat) (a0_0 : ByteArray) (a0_1 : ByteArray) : Option (Bool) := (graftwoodref04_May.f k a0_0).bind fun t197 => (if t197 = true then ((graftwoodref03_May.f a0_1).bind fun t198 => (some t198)) else (some false))
set_option maxHeartbeats 8000000 in
set_option maxRecDepth 100000 in
theorem graftwoodref05_May.calls (k : Nat) (a0_0 : ByteArray) (a0_1 : ByteArray) (r : Bool) (w : World) (h : graftwoodref05_May.f k a0_0 a0_1 = some r) :
    Calls Tryz.prog 12 #[.agg #[.string a0_0, .string a0_1]] w fun e w' => e = .returned (.bool r) ∧ Below w.heap.size w w' := by
  have hu24 := Tryz.underlying24
  have HB := Aside0.mk (Below.refl w.heap.size w)
  have H : ((graftwoodref04_May.f k a0_0).bind fun t197 => (if t197 = true then ((graftwoodref03_May.f a0_1).bind fun t198 => (some t198)) else (some false))) = some r := h
  clear h
  replace H := Option.bind_eq_some_iff.mp H
  obtain ⟨t197, A20, H⟩ := H
  replace H : (if t197 = true then ((graftwoodref03_May.f a0_1).bind fun t198 => (some t198)) else (some false)) = some r := H
  have A2 := Aside0.mk A20
  clear A20
  by_cases c3 : t197 = true
  · subst c3
    have H1 : ((graftwoodref03_May.f a0_1).bind fun t198 => (some t198)) = some r := by rw [if_pos rfl] at H; exact H
    clear H
    have H := H1
    clear H1
    replace H := Option.bind_eq_some_iff.mp H
    obtain ⟨t198, A40, H⟩ := H
    replace H : (some t198) = some r := H
    have A4 := Aside0.mk A40
    clear A40
    obtain rfl := Option.some.inj H
    go_enter Tryz.func12, Tryz.ntmps12
    go_wp2_with (first | ((with_reducible refine gate_dst (N := 1) rfl ?_); refine box_event ?hg (N := 1) ?hd (cs := #[.string a0_0, .string a0_1]) (t := 24) ?hr ?_; (case hd => rfl); (case hg => rfl); (case hr => first | (go_simp; done) | (go_simp; rfl)); intro gb196 hg w5 hbox hb; have n0_ := Aside0.mk (below_step (by repeat (first | (with_reducible first | exact HB.out | apply below_alloc | apply pw_below_drewN | apply below_drew1) | exact HB.out)) hb); have n1_ := Aside0.mk (hbox); have n2_ := Aside0.mk ((by rw [hg]; exact (below_size (by repeat (first | (with_reducible first | exact HB.out | apply below_alloc | apply pw_below_drewN | apply below_drew1) | exact HB.out))) : w.heap.size ≤ gb196)); have n3_ := Aside0.mk ((by rw [hg]; exact (below_size (by repeat (first | (with_reducible first | exact HB.out | apply below_alloc | apply pw_below_drewN | apply below_drew1) | exact HB.out))) : w.heap.size ≤ gb196)); clear HB; have HB := n0_; have BK196 := n1_; have GW196 := n2_; have GE196 := n3_; clear n0_ n1_ n2_ n3_; clear hb hbox hg; have hcz6_0 : w5.cell? ⟨gb196, 0, none⟩ = some (.string a0_0) := (blk_cell BK196.out 0).trans rfl; have hcz6_1 : w5.cell? ⟨gb196, 1, none⟩ = some (.string a0_1) := (blk_cell BK196.out 1).trans rfl; have hfz6_0 := blk_frozen BK196.out 0; have hfz6_1 := blk_frozen BK196.out 1) | ((with_reducible refine gate_callee (f := 25) rfl ?_); refine goesL_ (some 5) rfl rfl Tryz.func25 (by kernel_rfl) rfl #[.string a0_0] rfl (by (try simp only [List.map_toArray, List.map_cons, List.map_nil]); first | done | rfl | (simp only [List.length_drop, List.length_take]; rfl)) ?_; (with_reducible refine (graftwoodref04_May.calls k a0_0 true _ A2.out).mono ?_); rintro e w7 ⟨rfl, hb⟩; refine ⟨_, rfl, ?_⟩; have n0_ := Aside0.mk (blk_below (g := gb196) (o := .cells #[.string a0_0, .string a0_1] 24 (0, 0)) (by (with_reducible repeat (first | refine blk_drewN ?_ _ | refine blk_drew ?_ | refine blk_alloc ?_ _)); exact BK196.out) hb); have n1_ := Aside0.mk (below_step (by repeat (first | (with_reducible first | exact HB.out | apply below_alloc | apply pw_below_drewN | apply below_drew1 | refine below_set ?_ GE196.out) | exact HB.out)) hb); clear BK196; clear HB; have BK196 := n0_; have HB := n1_; clear n0_ n1_; (try clear hb); (try clear hb2); (try clear hk); (try clear hi); have hcz8_0 : w7.cell? ⟨gb196, 0, none⟩ = some (.string a0_0) := (blk_cell BK196.out 0).trans rfl; have hcz8_1 : w7.cell? ⟨gb196, 1, none⟩ = some (.string a0_1) := (blk_cell BK196.out 1).trans rfl; have hfz8_0 := blk_frozen BK196.out 0; have hfz8_1 := blk_frozen BK196.out 1) | (go_at_call 26; (with_reducible refine (graftwoodref03_May.calls a0_1 t198 _ A4.out).mono ?_); rintro e w9 ⟨rfl, hb⟩; have n0_ := Aside0.mk (blk_below (g := gb196) (o := .cells #[.string a0_0, .string a0_1] 24 (0, 0)) (by (with_reducible repeat (first | refine blk_drewN ?_ _ | refine blk_drew ?_ | refine blk_alloc ?_ _)); exact BK196.out) hb); have n1_ := Aside0.mk (below_step (by repeat (first | (with_reducible first | exact HB.out | apply below_alloc | apply pw_below_drewN | apply below_drew1 | refine below_set ?_ GE196.out) | exact HB.out)) hb); clear BK196; clear HB; have BK196 := n0_; have HB := n1_; clear n0_ n1_; (try clear hb); (try clear hb2); (try clear hk); (try clear hi)))
    go_ret
    exact ⟨by first | rfl | (simp [errW_none, errW_some] <;> rfl) | (simp [*, errW_none, errW_some] <;> rfl), by repeat (first | (with_reducible first | exact HB.out | apply below_alloc | apply pw_below_drewN | apply below_drew1 | refine below_set ?_ GE196.out) | exact HB.out)⟩
  · replace c3 := Bool.eq_false_iff.mpr c3
    subst c3
    have H1 : (some false) = some r := by rw [if_neg (show ¬ (false = true) by decide)] at H; exact H
    clear H
    have H := H1
    clear H1
    obtain rfl := Option.some.inj H
    go_enter Tryz.func12, Tryz.ntmps12
    go_wp2_with (first | ((with_reducible refine gate_dst (N := 1) rfl ?_); refine box_event ?hg (N := 1) ?hd (cs := #[.string a0_0, .string a0_1]) (t := 24) ?hr ?_; (case hd => rfl); (case hg => rfl); (case hr => first | (go_simp; done) | (go_simp; rfl)); intro gb196 hg w10 hbox hb; have n0_ := Aside0.mk (below_step (by repeat (first | (with_reducible first | exact HB.out | apply below_alloc | apply pw_below_drewN | apply below_drew1) | exact HB.out)) hb); have n1_ := Aside0.mk (hbox); have n2_ := Aside0.mk ((by rw [hg]; exact (below_size (by repeat (first | (with_reducible first | exact HB.out | apply below_alloc | apply pw_below_drewN | apply below_drew1) | exact HB.out))) : w.heap.size ≤ gb196)); have n3_ := Aside0.mk ((by rw [hg]; exact (below_size (by repeat (first | (with_reducible first | exact HB.out | apply below_alloc | apply pw_below_drewN | apply below_drew1) | exact HB.out))) : w.heap.size ≤ gb196)); clear HB; have HB := n0_; have BK196 := n1_; have GW196 := n2_; have GE196 := n3_; clear n0_ n1_ n2_ n3_; clear hb hbox hg; have hcz11_0 : w10.cell? ⟨gb196, 0, none⟩ = some (.string a0_0) := (blk_cell BK196.out 0).trans rfl; have hcz11_1 : w10.cell? ⟨gb196, 1, none⟩ = some (.string a0_1) := (blk_cell BK196.out 1).trans rfl; have hfz11_0 := blk_frozen BK196.out 0; have hfz11_1 := blk_frozen BK196.out 1) | ((with_reducible refine gate_callee (f := 25) rfl ?_); refine goesL_ (some 5) rfl rfl Tryz.func25 (by kernel_rfl) rfl #[.string a0_0] rfl (by (try simp only [List.map_toArray, List.map_cons, List.map_nil]); first | done | rfl | (simp only [List.length_drop, List.length_take]; rfl)) ?_; (with_reducible refine (graftwoodref04_May.calls k a0_0 false _ A2.out).mono ?_); rintro e w12 ⟨rfl, hb⟩; refine ⟨_, rfl, ?_⟩; have n0_ := Aside0.mk (blk_below (g := gb196) (o := .cells #[.string a0_0, .string a0_1] 24 (0, 0)) (by (with_reducible repeat (first | refine blk_drewN ?_ _ | refine blk_drew ?_ | refine blk_alloc ?_ _)); exact BK196.out) hb); have n1_ := Aside0.mk (below_step (by repeat (first | (with_reducible first | exact HB.out | apply below_alloc | apply pw_below_drewN | apply below_drew1 | refine below_set ?_ GE196.out) | exact HB.out)) hb); clear BK196; clear HB; have BK196 := n0_; have HB := n1_; clear n0_ n1_; (try clear hb); (try clear hb2); (try clear hk); (try clear hi)))
    go_ret
    exact ⟨by first | rfl | (simp [errW_none, errW_some] <;> rfl) | (simp [*, errW_none, errW_some] <;> rfl), by repeat (first | (with_reducible first | exact HB.out | apply below_alloc | apply pw_below_drewN | apply below_drew1 | refine below_set ?_ GE196.out) | exact HB.out)⟩
end Go.Proofs.YtcfphieogalnbaaGreatDoor.Q
end

section
namespace Go.Proofs.YtcfphieogalnbaaGreatDoor.Q
open Go.RowKit Gw
set_option linter.unusedVariables false
theorem cutDash_split : ∀ r : List Nat, r = (cutDash r).1 ++ (match (cutDash r).2 with | none => [] | some p => 45 :: p)
  | [] => rfl
  | c :: r => by
    have ih := cutDash_split r
    by_cases h : c = 45
    · subst h; rfl
    · simp only [cutDash, if_neg h, List.cons_append]
      rw [← ih]
theorem cutFrom_v (r : List Nat) : cutFrom (118 :: r) 0 = (cutDash r).1.length + 1 := by simp [cutFrom, cutDash]
theorem take_v (r : List Nat) : ((118 :: r).take (cutFrom (118 :: r) 0)).drop 1 = (cutDash r).1 := by
  rw [cutFrom_v, List.take_succ_cons, List.drop_succ_cons, List.drop_zero]
  have h := cutDash_split r
  generalize (cutDash r).1 = x at *
  generalize (cutDash r).2 = y at *
  rw [h, List.take_left']
  rfl
theorem drop_v (r p : List Nat) (hp : (cutDash r).2 = some p) : (118 :: r).drop (cutFrom (118 :: r) 0 + 1) = p := by
  rw [cutFrom_v, List.drop_succ_cons]
  have h := cutDash_split r
  rw [hp] at h
  generalize (cutDash r).1 = x at *
  rw [h]
  simp
theorem cut_size (r : List Nat) : cutFrom (118 :: r) 0 = (118 :: r).length ↔ (cutDash r).2 = none := by
  rw [cutFrom_v, List.length_cons]
  have h := congrArg List.length (cutDash_split r)
  rw [List.length_append] at h
  cases hp : (cutDash r).2 with
  | none => rw [hp] at h; simp at h; simp; omega
  | some p => rw [hp] at h; simp at h; simp; omega
theorem splitOf_len (s : ByteArray) (cut : Nat) (l : List ByteArray) (h : l.length ≠ 3) : splitOf s cut l = zeroV := by
  match l, h with
  | [], _ => rfl
  | [_], _ => rfl
  | [_, _], _ => rfl
  | [_, _, _], h => exact absurd rfl h
  | _ :: _ :: _ :: _ :: _, _ => rfl
theorem splitV_ok (s : ByteArray) : (splitV s).2.2.2.2 = isVersion (bs s) := by
  unfold splitV
  cases hb : bs s with
  | nil => rfl
  | cons c r =>
    rw [if_neg (by simp)]
    by_cases h : c = 118
    · subst h
      rw [if_pos (by simp)]
      have hsz : s.size = (118 :: r).length := by rw [← bs_length, hb]
      unfold splitS
      rw [hb, take_v]
      simp only [isVersion, coreOk]
      by_cases h3 : (parts 46 (cutDash r).1).length = 3
      · obtain ⟨a, b, c, hp⟩ : ∃ a b c, parts 46 (cutDash r).1 = [a, b, c] := by
          match parts 46 (cutDash r).1, h3 with
          | [a, b, c], _ => exact ⟨a, b, c, rfl⟩
        have ho : ∀ p ∈ parts 46 (cutDash r).1, ∀ x ∈ p, x < 256 := by
          refine parts_oct (fun x hx => bs_oct s x ?_)
          rw [hb]
          refine List.mem_cons_of_mem _ ?_
          rw [cutDash_split r]
          exact List.mem_append_left _ hx
        rw [hp] at ho ⊢
        simp only [List.map_cons, List.map_nil, splitOf, bs_ofB (ho a (by simp)), bs_ofB (ho b (by simp)), bs_ofB (ho c (by simp))]
        simp only [List.length_cons, List.length_nil, List.all_cons, List.all_nil, Bool.and_true]
        by_cases hn : (isNum a && isNum b && isNum c) = true
        · rw [if_pos hn, hsz]
          rw [show (isNum a && (isNum b && isNum c)) = true from by rw [← Bool.and_assoc]; exact hn]
          by_cases hc : cutFrom (118 :: r) 0 = (118 :: r).length
          · rw [if_pos hc, (cut_size r).1 hc]; rfl
          · rw [if_neg hc]
            cases hp2 : (cutDash r).2 with
            | none => exact absurd ((cut_size r).2 hp2) hc
            | some p =>
              rw [hb, drop_v r p hp2]
              simp only [preOk]
              by_cases hw : (parts 46 p).all isWord = true
              · rw [if_pos hw, hw]; rfl
              · rw [if_neg hw, Bool.eq_false_iff.2 hw]; rfl
        · rw [if_neg hn, show (isNum a && (isNum b && isNum c)) = false from by rw [← Bool.and_assoc]; exact Bool.eq_false_iff.2 hn]; rfl
      · rw [splitOf_len _ _ _ (by rw [List.length_map]; exact h3), beq_eq_false_iff_ne.2 h3]; rfl
    · rw [if_neg (by simp; exact h)]
      unfold isVersion
      split
      · rename_i heq; exact absurd (List.cons.inj heq).1 h
      · rfl
end Go.Proofs.YtcfphieogalnbaaGreatDoor.Q
end

section
namespace Go.Proofs.YtcfphieogalnbaaGreatDoor.Q
open Go Go.RowKit Go.Lib Go.Proofs.YtcfphieogalnbaaGreatDoorW.PrintWords Go.Proofs.YtcfphieogalnbaaGreatDoorW.PrintLast Go.Proofs.YtcfphieogalnbaaGreatDoorW.PrintMore Gw
set_option linter.unusedVariables false
set_option linter.unusedSimpArgs false
theorem split_some (s : ByteArray) (p q r : List Nat) (l : List (List Nat)) (h : vparts (bs s) = some (p, q, r, l)) : splitV s = (ofB p, ofB q, ofB r, l.map ofB, true) := by
  have hv : isVersion (bs s) = true := by rw [← vparts_some, h]; rfl
  unfold splitV
  cases hb : bs s with
  | nil => rw [hb] at h; cases h
  | cons c t =>
    rw [if_neg (by simp)]
    by_cases hc : c = 118
    · subst hc
      rw [if_pos (by simp)]
      have hsz : s.size = (118 :: t).length := by rw [← bs_length, hb]
      unfold splitS
      rw [hb, take_v]
      rw [hb] at h
      have h' : vcore (cutDash t).1 (cutDash t).2 = some (p, q, r, l) := h
      unfold vcore at h'
      split at h'
      · rename_i a b c hp
        split at h'
        · rename_i hn
          have ho : ∀ p ∈ parts 46 (cutDash t).1, ∀ x ∈ p, x < 256 := by
            refine parts_oct (fun x hx => bs_oct s x ?_)
            rw [hb]
            refine List.mem_cons_of_mem _ ?_
            rw [cutDash_split t]
            exact List.mem_append_left _ hx
          rw [hp] at ho ⊢
          simp only [List.map_cons, List.map_nil, splitOf, bs_ofB (ho a (by simp)), bs_ofB (ho b (by simp)), bs_ofB (ho c (by simp))]
          rw [if_pos hn, hsz]
          unfold vpre at h'
          split at h'
          · rename_i hc
            rw [if_pos ((cut_size t).2 hc)]
            injection h' with h'
            simp only [Prod.mk.injEq] at h'
            obtain ⟨rfl, rfl, rfl, rfl⟩ := h'
            rfl
          · rename_i pp hc
            rw [if_neg (fun e => by rw [(cut_size t).1 e] at hc; cases hc), hb, drop_v t pp hc]
            split at h'
            · rename_i hw
              injection h' with h'
              simp only [Prod.mk.injEq] at h'
              obtain ⟨rfl, rfl, rfl, rfl⟩ := h'
              rw [if_pos hw]
            · cases h'
        · cases h'
      · cases h'
    · rw [hb] at hv
      unfold isVersion at hv
      split at hv <;> simp_all
theorem rcmp1_l0 (a b : ByteArray) (ha : Small a) (hb : Small b) : ∀ (n i k : Nat), a.size ≤ i + n → i ≤ a.size → i ≤ b.size → 2 * n + 2 ≤ k →
    graftwoodref01_Cmp.l0 k a b (i : Int) = some (lexC ((bs a).drop i) ((bs b).drop i)) := by
  intro n
  induction n with
  | zero =>
    intro i k h1 h2 h3 hk
    obtain ⟨j, rfl⟩ : ∃ j, k = j + 2 := ⟨k - 2, by omega⟩
    have e : i = a.size := by omega
    subst e
    rw [List.drop_eq_nil_of_le (by rw [bs_length]; exact Nat.le_refl _)]
    simp only [graftwoodref01_Cmp.l0, graftwoodref01_Cmp.j1]
    rw [if_neg (by omega)]
    simp only [Bool.false_eq_true, if_false]
    by_cases h : a.size < b.size
    · rw [if_pos (by omega), List.drop_eq_getElem_cons (by rw [bs_length]; exact h)]
      rfl
    · rw [if_neg (by omega), if_neg (by omega), List.drop_eq_nil_of_le (by rw [bs_length]; omega)]
      rfl
  | succ n ih =>
    intro i k h1 h2 h3 hk
    obtain ⟨j, rfl⟩ : ∃ j, k = j + 2 := ⟨k - 2, by omega⟩
    by_cases h : i < a.size
    · by_cases h' : i < b.size
      · have d1 : (bs a).drop i = (bs a)[i]'(by rw [bs_length]; exact h) :: (bs a).drop (i + 1) := List.drop_eq_getElem_cons _
        have d2 : (bs b).drop i = (bs b)[i]'(by rw [bs_length]; exact h') :: (bs b).drop (i + 1) := List.drop_eq_getElem_cons _
        have t1 := (bt_drop d1).2.1
        have t2 := (bt_drop d2).2.1
        rw [d1, d2]
        simp only [graftwoodref01_Cmp.l0, graftwoodref01_Cmp.j1]
        rw [if_pos (by omega), decide_eq_true (show (i : Int) < (b.size : Int) by omega), if_pos rfl, if_pos (by omega), if_pos (by omega), if_pos (by omega), t1, t2]
        generalize (bs a)[i]'(by rw [bs_length]; exact h) = x
        generalize (bs b)[i]'(by rw [bs_length]; exact h') = y
        simp only [lexC]
        by_cases c1 : x < y
        · rw [if_pos (by omega), if_pos c1]
        · rw [if_neg (by omega), if_neg c1]
          by_cases c2 : y < x
          · rw [if_pos (by omega), if_pos c2]
          · rw [if_neg (by omega), if_neg c2, show wrap64 ((i : Int) + 1) = ((i + 1 : Nat) : Int) by unfold wrap64; unfold Small at ha; omega]
            exact ih (i + 1) j (by omega) (by omega) (by omega) (by omega)
      · simp only [graftwoodref01_Cmp.l0, graftwoodref01_Cmp.j1]
        rw [if_pos (by omega), decide_eq_false (show ¬ (i : Int) < (b.size : Int) by omega), List.drop_eq_getElem_cons (show i < (bs a).length by rw [bs_length]; exact h), List.drop_eq_nil_of_le (show (bs b).length ≤ i by rw [bs_length]; omega)]
        simp only [Bool.false_eq_true, if_false]
        rw [if_neg (by omega), if_pos (by omega)]
        rfl
    · exact ih i (j + 2) (by omega) h2 h3 (by omega)
theorem rcmp1_val (a b : ByteArray) (ha : Small a) (hb : Small b) (k : Nat) (hk : 2 * a.size + 2 ≤ k) : graftwoodref01_Cmp.f k a b = some (lexC (bs a) (bs b)) := by
  have h := rcmp1_l0 a b ha hb a.size 0 k (by omega) (Nat.zero_le _) (Nat.zero_le _) hk
  exact h
/-- The digit of a place from the lowest one on. -/
def atI (l : List Nat) (i : Nat) : Int := if i ≥ l.length then 0 else ((l.getD (l.length - 1 - i) 48 : Nat) : Int) - 48
theorem at_val (s : ByteArray) (hs : Small s) (hd : (bs s).all dig = true) (i : Nat) (hi : i ≤ 4398046511104) : graftwoodref02_at.f s (i : Int) = some (atI (bs s) i) := by
  unfold graftwoodref02_at.f atI
  rw [bs_length]
  by_cases h : i ≥ s.size
  · rw [if_pos (by omega), if_pos h]
  · have hw : wrap64 (wrap64 ((s.size : Int) - 1) - (i : Int)) = ((s.size - 1 - i : Nat) : Int) := by unfold wrap64; unfold Small at hs; omega
    have hl : s.size - 1 - i < (bs s).length := by rw [bs_length]; omega
    have hb : bt s ((s.size - 1 - i : Nat) : Int) = (((bs s)[s.size - 1 - i]'hl : Nat) : Int) := bt_at_get s _ (by omega)
    have hmem : (bs s)[s.size - 1 - i]'hl ∈ bs s := List.getElem_mem _
    have hdg := List.all_eq_true.1 hd _ hmem
    rw [if_neg (by omega), if_neg h, hw, if_pos (by omega), if_pos (by omega), hb, digit_tot _ (bs_oct s _ hmem), if_pos hdg]
    simp [List.getD_eq_getElem?_getD, List.getElem?_eq_getElem hl]
theorem rnum_l0 (a b : ByteArray) (ha : Small a) (hb : Small b) (da : (bs a).all dig = true) (db : (bs b).all dig = true) (hl : a.size = b.size) : ∀ (n k : Nat), n ≤ a.size → n + 1 ≤ k →
    graftwoodref02_Cmp.l0 k a b ((n : Int) - 1) = some (lexC ((bs a).drop (a.size - n)) ((bs b).drop (a.size - n))) := by
  intro n
  induction n with
  | zero =>
    intro k h1 hk
    obtain ⟨j, rfl⟩ : ∃ j, k = j + 1 := ⟨k - 1, by omega⟩
    rw [List.drop_eq_nil_of_le (by rw [bs_length]; omega), List.drop_eq_nil_of_le (by rw [bs_length]; omega)]
    simp [graftwoodref02_Cmp.l0, lexC]
  | succ n ih =>
    intro k h1 hk
    obtain ⟨j, rfl⟩ : ∃ j, k = j + 1 := ⟨k - 1, by omega⟩
    have e : ((n + 1 : Nat) : Int) - 1 = (n : Int) := by omega
    have la : a.size - (n + 1) < (bs a).length := by rw [bs_length]; omega
    have lb : a.size - (n + 1) < (bs b).length := by rw [bs_length]; omega
    have va := at_val a ha da n (by unfold Small at ha; omega)
    have vb := at_val b hb db n (by unfold Small at ha; omega)
    have xa : atI (bs a) n = (((bs a)[a.size - (n + 1)]'la : Nat) : Int) - 48 := by
      unfold atI
      rw [bs_length, if_neg (by omega), show a.size - 1 - n = a.size - (n + 1) by omega]
      simp [List.getD_eq_getElem?_getD, List.getElem?_eq_getElem la]
    have xb : atI (bs b) n = (((bs b)[a.size - (n + 1)]'lb : Nat) : Int) - 48 := by
      unfold atI
      rw [bs_length, if_neg (by omega), show b.size - 1 - n = a.size - (n + 1) by omega]
      simp [List.getD_eq_getElem?_getD, List.getElem?_eq_getElem lb]
    rw [e, List.drop_eq_getElem_cons la, List.drop_eq_getElem_cons lb, show a.size - (n + 1) + 1 = a.size - n by omega]
    simp only [graftwoodref02_Cmp.l0]
    rw [if_pos (by omega), va, vb]
    simp only [Option.bind_some]
    rw [xa, xb]
    have ih' := ih j (by omega) (by omega)
    rw [show wrap64 ((n : Int) - 1) = (n : Int) - 1 by unfold wrap64; unfold Small at ha; omega, ih']
    generalize (bs a)[a.size - (n + 1)]'la = x
    generalize (bs b)[a.size - (n + 1)]'lb = y
    simp only [lexC]
    by_cases c1 : x < y
    · rw [if_pos (by omega), if_pos c1]
    · rw [if_neg (by omega), if_neg c1]
      by_cases c2 : y < x
      · rw [if_pos (by omega), if_pos c2]
      · rw [if_neg (by omega), if_neg c2]
theorem lead_digit {s : List Nat} (h : isNum s = true) (hl : 2 ≤ s.length) : 49 ≤ s.getD 0 48 := by
  match s, hl with
  | c :: d :: r, _ =>
    unfold isNum at h
    simp only [List.all_cons, List.isEmpty_cons, Bool.false_or, Bool.and_eq_true, bne_iff_ne] at h
    have := h.1.1
    simp only [dig, Bool.and_eq_true, decide_eq_true_eq] at this
    have h2 := h.2
    simp
    omega
theorem num_dig {s : List Nat} (h : isNum s = true) : s.all dig = true := by
  unfold isNum at h
  rw [Bool.and_eq_true] at h
  exact h.1
theorem num_ne {s : List Nat} (h : isNum s = true) : 1 ≤ s.length := by
  cases s with
  | nil => simp [isNum] at h
  | cons => simp
theorem rnum_val (a b : ByteArray) (ha : Small a) (hb : Small b) (na : isNum (bs a) = true) (nb : isNum (bs b) = true) (k : Nat) (hk : a.size + b.size + 2 ≤ k) : graftwoodref02_Cmp.f k a b = some (numC (bs a) (bs b)) := by
  have la := num_ne na
  have lb := num_ne nb
  rw [bs_length] at la lb
  unfold graftwoodref02_Cmp.f numC
  rw [bs_length, bs_length]
  have hsa : a.size ≤ 4398046511104 := ha
  have hsb : b.size ≤ 4398046511104 := hb
  rcases Nat.lt_trichotomy a.size b.size with h | h | h
  · have e : wrap64 (mx (a.size : Int) (b.size : Int) - 1) = ((b.size - 1 : Nat) : Int) := by unfold wrap64 mx; (repeat' split) <;> omega
    rw [e]
    obtain ⟨j, rfl⟩ : ∃ j, k = j + 1 := ⟨k - 1, by omega⟩
    simp only [graftwoodref02_Cmp.l0]
    rw [if_pos (by omega), at_val a ha (num_dig na) _ (by omega), at_val b hb (num_dig nb) _ (by omega)]
    simp only [Option.bind_some]
    have x1 : atI (bs a) (b.size - 1) = 0 := by unfold atI; rw [bs_length, if_pos (by omega)]
    have x2 : 1 ≤ atI (bs b) (b.size - 1) := by
      have := lead_digit nb (by rw [bs_length]; omega)
      unfold atI
      rw [bs_length, if_neg (by omega), show b.size - 1 - (b.size - 1) = 0 by omega]
      omega
    rw [x1, if_pos (by omega)]
    simp [cmpN, h, orI]
  · have e : wrap64 (mx (a.size : Int) (b.size : Int) - 1) = (a.size : Int) - 1 := by unfold wrap64 mx; (repeat' split) <;> omega
    rw [e, rnum_l0 a b ha hb (num_dig na) (num_dig nb) h a.size k (Nat.le_refl _) (by omega), Nat.sub_self]
    simp [cmpN, h, orI]
  · have e : wrap64 (mx (a.size : Int) (b.size : Int) - 1) = ((a.size - 1 : Nat) : Int) := by unfold wrap64 mx; (repeat' split) <;> omega
    rw [e]
    obtain ⟨j, rfl⟩ : ∃ j, k = j + 1 := ⟨k - 1, by omega⟩
    simp only [graftwoodref02_Cmp.l0]
    rw [if_pos (by omega), at_val a ha (num_dig na) _ (by omega), at_val b hb (num_dig nb) _ (by omega)]
    simp only [Option.bind_some]
    have x1 : atI (bs b) (a.size - 1) = 0 := by unfold atI; rw [bs_length, if_pos (by omega)]
    have x2 : 1 ≤ atI (bs a) (a.size - 1) := by
      have := lead_digit na (by rw [bs_length]; omega)
      unfold atI
      rw [bs_length, if_neg (by omega), show a.size - 1 - (a.size - 1) = 0 by omega]
      omega
    rw [x1, if_neg (by omega), if_pos (by omega)]
    have h3 : ¬ a.size < b.size := by omega
    simp [cmpN, h, h3, orI]
theorem rwords_val (a b : ByteArray) (ha : Small a) (hb : Small b) (k : Nat) (hk : 2 * a.size + b.size + 4 ≤ k) : graftwoodref03_words.f k a b = some (wordC (bs a) (bs b)) := by
  obtain ⟨j, rfl⟩ : ∃ j, k = j + 1 := ⟨k - 1, by omega⟩
  unfold graftwoodref03_words.f
  rw [ref2May_tot a ha _ (by omega), ref2May_tot b hb _ (by omega)]
  cases na : isNum (bs a) <;> cases nb : isNum (bs b)
  · simp [graftwoodref03_words.j0, wordC, na, nb, rcmp1_val a b ha hb j (by omega)]
  · simp [graftwoodref03_words.j0, wordC, na, nb]
  · simp [graftwoodref03_words.j0, wordC, na, nb]
  · simp [graftwoodref03_words.j0, wordC, na, nb, rnum_val a b ha hb na nb j (by omega)]
end Go.Proofs.YtcfphieogalnbaaGreatDoor.Q
end

section
namespace Go.Proofs.YtcfphieogalnbaaGreatDoor.Q
open Go.Proofs.YtcfphieogalnbaaGreatDoor.QB.D
open Go Go.RowKit Go.Lib Go.Proofs.YtcfphieogalnbaaGreatDoorW.PrintWords Go.Proofs.YtcfphieogalnbaaGreatDoorW.PrintLast Go.Proofs.YtcfphieogalnbaaGreatDoorW.PrintMore Gw Go.Proofs.YtcfphieogalnbaaGreatDoor.QB.D
set_option linter.unusedVariables false
set_option linter.unusedSimpArgs false
/-- A slice of texts, by its cells. -/
def FSr (A : Option Addr) (xs : List ByteArray) (w : World) : Prop := ∀ i (hi : i < xs.length), ∃ g, A = some ⟨g, 0, none⟩ ∧ g < w.heap.size ∧ w.cell? ⟨g, i, none⟩ = some (.string (xs[i]))
theorem FSr.below {A : Option Addr} {xs : List ByteArray} {w w' : World} {b : Nat} (h : FSr A xs w) (hb : Below b w w') (hw : w.heap.size ≤ b) : FSr A xs w' := fun i hi => by
  obtain ⟨g, rfl, h1, h2⟩ := h i hi
  exact ⟨g, rfl, Nat.lt_of_lt_of_le h1 hb.size, (hb.cell (p := ⟨g, i, none⟩) (by simp; omega)).trans h2⟩
theorem FSr_of_R {w : World} {base : Nat} {u : Value} {xs : List ByteArray} (h : Kd.R Kd.string 9 w base (fun _ => True) u xs) : ∃ A c, u = .slice A xs.length c ∧ FSr A xs w := by
  obtain ⟨A, c, rfl⟩ := Kd.R_slice h
  refine ⟨A, c, rfl, fun i hi => ?_⟩
  obtain ⟨g, c', e, h1, h2, h3⟩ := vR_cells h (by omega)
  injection e with e
  exact ⟨g, e, h2, h3 i hi⟩
set_option maxHeartbeats 4000000 in
set_option maxRecDepth 100000 in
theorem rcmp_go (a b : ByteArray) (x0 x1 x2 : ByteArray) (xp : List ByteArray) (y0 y1 y2 : ByteArray) (yp : List ByteArray)
    (hx : graftwoodref03_Split.f a = some (x0, x1, x2, xp, true)) (hy : graftwoodref03_Split.f b = some (y0, y1, y2, yp, true))
    (K : Nat) (n0 n1 n2 : Int) (h0 : graftwoodref02_Cmp.f K x0 y0 = some n0) (h1 : graftwoodref02_Cmp.f K x1 y1 = some n1) (h2 : graftwoodref02_Cmp.f K x2 y2 = some n2)
    (hw : ∀ i (hi : i < xp.length) (hj : i < yp.length), graftwoodref03_words.f K xp[i] yp[i] = some (wordC (bs xp[i]) (bs yp[i])))
    (hlx : (xp.length : Int) ≤ 4398046511110) (hly : (yp.length : Int) ≤ 4398046511110)
    (r : Int) (hr : r = orI n0 (orI n1 (orI n2 (preC (xp.map bs) (yp.map bs)))))
    (w : World) : Calls Tryz.prog 45 #[.string a, .string b] w fun e w' => e = .returned (.int .i64 r) ∧ Below w.heap.size w w' := by
  have HW := Aside0.mk hw
  have HR := Aside0.mk hr
  have C0 := fun w => graftwoodref02_Cmp.calls K x0 y0 n0 w h0
  have C1 := fun w => graftwoodref02_Cmp.calls K x1 y1 n1 w h1
  have C2 := fun w => graftwoodref02_Cmp.calls K x2 y2 n2 w h2
  have hu49 := Tryz.underlying65
  clear hw hr h0 h1 h2
  go_enter Tryz.func45, Tryz.ntmps45
  go_wp2_with fail
  refine (graftwoodref03_Split.calls _ _ _ _ _ _ _ hx).mono ?_
  rintro e w1 ⟨u, rfl, hR, hb⟩
  obtain ⟨A, c, rfl, hF⟩ := FSr_of_R hR
  have HB := Aside0.mk hb
  have HF := Aside0.mk hF
  clear hb hF hR hx
  go_wp2_with fail
  refine (graftwoodref03_Split.calls _ _ _ _ _ _ _ hy).mono ?_
  rintro e w2 ⟨u, rfl, hR, hb⟩
  obtain ⟨A2, c2, rfl, hF⟩ := FSr_of_R hR
  have b12 : Below w1.heap.size w1 w2 := (by repeat (with_reducible first | exact Below.refl _ _ | refine below_set ?_ (by simp) | refine below_alloc ?_ _) : Below w1.heap.size w1 _).trans (hb.mono (by simp))
  have hz : w1.heap.size < w2.heap.size := by have := hb.size; simp at this; omega
  have q0 : w2.cell? ⟨w1.heap.size, 0, none⟩ = some (.string x0) := (hb.cell (p := ⟨w1.heap.size, 0, none⟩) (by simp)).trans (by simp [go_sem])
  have q1 : w2.cell? ⟨w1.heap.size, 1, none⟩ = some (.string x1) := (hb.cell (p := ⟨w1.heap.size, 1, none⟩) (by simp)).trans (by simp [go_sem])
  have q2 : w2.cell? ⟨w1.heap.size, 2, none⟩ = some (.string x2) := (hb.cell (p := ⟨w1.heap.size, 2, none⟩) (by simp)).trans (by simp [go_sem])
  have q3 : w2.cell? ⟨w1.heap.size, 3, none⟩ = some (.slice A xp.length c) := (hb.cell (p := ⟨w1.heap.size, 3, none⟩) (by simp)).trans (by simp [go_sem])
  clear hR hb
  have HF2 := Aside0.mk hF
  clear hF hy
  go_wp2_with fail
  generalize hW : w2.alloc (.cells #[.string y0, .string y1, .string y2, .slice A2 yp.length c2] 65 (0, 0)) = w3
  have g0 : w3.cell? ⟨w1.heap.size, 0, none⟩ = some (.string x0) := by rw [← hW]; exact Lib.cell?_alloc_some _ q0
  have g1 : w3.cell? ⟨w1.heap.size, 1, none⟩ = some (.string x1) := by rw [← hW]; exact Lib.cell?_alloc_some _ q1
  have g2 : w3.cell? ⟨w1.heap.size, 2, none⟩ = some (.string x2) := by rw [← hW]; exact Lib.cell?_alloc_some _ q2
  have g3 : w3.cell? ⟨w1.heap.size, 3, none⟩ = some (.slice A xp.length c) := by rw [← hW]; exact Lib.cell?_alloc_some _ q3
  have k0 : w3.cell? ⟨w2.heap.size, 0, none⟩ = some (.string y0) := by rw [← hW]; simp [go_sem]
  have k1 : w3.cell? ⟨w2.heap.size, 1, none⟩ = some (.string y1) := by rw [← hW]; simp [go_sem]
  have k2 : w3.cell? ⟨w2.heap.size, 2, none⟩ = some (.string y2) := by rw [← hW]; simp [go_sem]
  have k3 : w3.cell? ⟨w2.heap.size, 3, none⟩ = some (.slice A2 yp.length c2) := by rw [← hW]; simp [go_sem]
  have hz3 : w3.heap.size = w2.heap.size + 1 := by rw [← hW]; simp
  have hB3 : Below w1.heap.size w1 w3 := by rw [← hW]; exact b12.trans (((Below.refl _ _).alloc (Nat.le_refl _) _).mono (by omega))
  have HF3 : Aside0 (FSr A xp w3) := ⟨HF.out.below hB3 (Nat.le_refl _)⟩
  have HF4 : Aside0 (FSr A2 yp w3) := ⟨HF2.out.below (b := w2.heap.size) (by rw [← hW]; exact (Below.refl _ _).alloc (Nat.le_refl _) _) (Nat.le_refl _)⟩
  have HB3 : Aside0 (Below w.heap.size w w3) := ⟨HB.out.trans (hB3.mono HB.out.size)⟩
  clear HF HF2 HB hB3 b12 q0 q1 q2 q3 hW
  have h13 : w1.heap.size < w3.heap.size := by omega
  have h23 : w2.heap.size < w3.heap.size := by omega
  have mixed : Tryz.prog.follows Departure.mixedOrders = true := by kernel_rfl
  have KS : ∀ w', Below w3.heap.size w3 w' → (fun w' => Below w3.heap.size w3 w' ∧ w'.cell? ⟨w1.heap.size, 0, none⟩ = some (.string x0) ∧ w'.cell? ⟨w1.heap.size, 1, none⟩ = some (.string x1) ∧ w'.cell? ⟨w1.heap.size, 2, none⟩ = some (.string x2) ∧ w'.cell? ⟨w1.heap.size, 3, none⟩ = some (.slice A xp.length c) ∧ w'.cell? ⟨w2.heap.size, 0, none⟩ = some (.string y0) ∧ w'.cell? ⟨w2.heap.size, 1, none⟩ = some (.string y1) ∧ w'.cell? ⟨w2.heap.size, 2, none⟩ = some (.string y2) ∧ w'.cell? ⟨w2.heap.size, 3, none⟩ = some (.slice A2 yp.length c2)) w' := fun w' h =>
    ⟨h, (h.cell (p := ⟨w1.heap.size, 0, none⟩) h13).trans g0, (h.cell (p := ⟨w1.heap.size, 1, none⟩) h13).trans g1, (h.cell (p := ⟨w1.heap.size, 2, none⟩) h13).trans g2, (h.cell (p := ⟨w1.heap.size, 3, none⟩) h13).trans g3, (h.cell (p := ⟨w2.heap.size, 0, none⟩) h23).trans k0, (h.cell (p := ⟨w2.heap.size, 1, none⟩) h23).trans k1, (h.cell (p := ⟨w2.heap.size, 2, none⟩) h23).trans k2, (h.cell (p := ⟨w2.heap.size, 3, none⟩) h23).trans k3⟩
  have KE0 := KS w3 (Below.refl _ _)
  obtain ⟨_, e0_, e1_, e2_, e3_, f0_, f1_, f2_, f3_⟩ := KE0
  with_reducible refine (C0 _).mono ?_
  rintro e v0 ⟨rfl, hb9⟩
  have HB0 : Aside0 (Below w3.heap.size w3 v0) := ⟨hb9⟩
  clear hb9 e0_ e1_ e2_ e3_ f0_ f1_ f2_ f3_
  cases hc0 : (n0 != 0)
  case true =>
    have hz9 : n0 ≠ 0 := by simpa using hc0
    go_wp2
    go_ret
    exact ⟨by rw [HR.out, orI, if_neg hz9]; rfl, HB3.out.trans (HB0.out.mono HB3.out.size)⟩
  have HN0 : Aside0 (n0 = 0) := ⟨by simpa using hc0⟩
  have KE1 := KS v0 (HB0.out)
  obtain ⟨_, e0_, e1_, e2_, e3_, f0_, f1_, f2_, f3_⟩ := KE1
  go_wp2_with fail
  with_reducible refine (C1 _).mono ?_
  rintro e v1 ⟨rfl, hb9⟩
  have HB1 : Aside0 (Below w3.heap.size w3 v1) := ⟨HB0.out.trans (hb9.mono HB0.out.size)⟩
  clear hb9 e0_ e1_ e2_ e3_ f0_ f1_ f2_ f3_
  cases hc1 : (n1 != 0)
  case true =>
    have hz9 : n1 ≠ 0 := by simpa using hc1
    go_wp2
    go_ret
    exact ⟨by rw [HR.out, orI, if_pos HN0.out, orI, if_neg hz9]; rfl, HB3.out.trans (HB1.out.mono HB3.out.size)⟩
  have HN1 : Aside0 (n1 = 0) := ⟨by simpa using hc1⟩
  have KE2 := KS v1 (HB1.out)
  obtain ⟨_, e0_, e1_, e2_, e3_, f0_, f1_, f2_, f3_⟩ := KE2
  go_wp2_with fail
  with_reducible refine (C2 _).mono ?_
  rintro e v2 ⟨rfl, hb9⟩
  have HB2 : Aside0 (Below w3.heap.size w3 v2) := ⟨HB1.out.trans (hb9.mono HB1.out.size)⟩
  clear hb9 e0_ e1_ e2_ e3_ f0_ f1_ f2_ f3_
  cases hc2 : (n2 != 0)
  case true =>
    have hz9 : n2 ≠ 0 := by simpa using hc2
    go_wp2
    go_ret
    exact ⟨by rw [HR.out, orI, if_pos HN0.out, orI, if_pos HN1.out, orI, if_neg hz9]; rfl, HB3.out.trans (HB2.out.mono HB3.out.size)⟩
  have HN2 : Aside0 (n2 = 0) := ⟨by simpa using hc2⟩
  have HR2 : Aside0 (r = preC (xp.map bs) (yp.map bs)) := ⟨by rw [HR.out, orI, if_pos HN0.out, orI, if_pos HN1.out, orI, if_pos HN2.out]⟩
  have FX := Aside0.mk (HF3.out.below HB2.out (Nat.le_refl _))
  have FY := Aside0.mk (HF4.out.below HB2.out (Nat.le_refl _))
  obtain ⟨_, _, _, _, m3, _, _, _, m4⟩ := KS v2 HB2.out
  have HB4 : Aside0 (Below w.heap.size w v2) := ⟨HB3.out.trans (HB2.out.mono HB3.out.size)⟩
  have hz14 : w1.heap.size < v2.heap.size := Nat.lt_of_lt_of_le h13 HB2.out.size
  have hz24 : w2.heap.size < v2.heap.size := Nat.lt_of_lt_of_le h23 HB2.out.size
  clear HR HB0 HB1 HB2 HB3 HF3 HF4 g0 g1 g2 g3 k0 k1 k2 k3 hz3 hz KS C0 C1 C2 HN0 HN1 HN2 h13 h23
  cases lx : ((xp.length : Int) == 0)
  · have nx : xp.length ≠ 0 := fun h => by rw [h] at lx; exact absurd lx (by decide)
    cases ly : ((yp.length : Int) == 0)
    · have ny : yp.length ≠ 0 := fun h => by rw [h] at ly; exact absurd ly (by decide)
      have hpc : preC (xp.map bs) (yp.map bs) = wordsC (xp.map bs) (yp.map bs) := by
        unfold preC
        rw [if_neg]
        rintro (h | h)
        · rw [List.map_eq_nil_iff] at h
          subst h
          exact nx rfl
        · rw [List.map_eq_nil_iff] at h
          subst h
          exact ny rfl
      have HPC := Aside0.mk (HR2.out.trans hpc)
      clear hpc
      go_wp2_with fail
      go_quiet (fail)
      go_wp2_with fail
      go_loopw [14] (fun v14 wr => ∃ i : Nat, i ≤ xp.length ∧ i ≤ yp.length ∧ v14 = .int .i64 (i : Int) ∧ Aside0 (Below v2.heap.size v2 wr) ∧ Aside0 (wordsC (xp.map bs) (yp.map bs) = wordsC ((xp.drop i).map bs) ((yp.drop i).map bs))) (fun v14 _ => xp.length - (RowKit.intOf v14).toNat)
      case atStart => exact ⟨0, Nat.zero_le _, Nat.zero_le _, rfl, ⟨by repeat (with_reducible first | exact Below.refl _ _ | refine pw_below_drewN ?_ _ | refine below_drew ?_)⟩, ⟨rfl⟩⟩
      case round =>
        obtain ⟨i, hi, hi2, rfl, HWr, HA⟩ := hrel
        have r3 : wr.cell? ⟨w1.heap.size, 3, none⟩ = some (.slice A xp.length c) := (HWr.out.cell (p := ⟨w1.heap.size, 3, none⟩) hz14).trans m3
        have r4 : wr.cell? ⟨w2.heap.size, 3, none⟩ = some (.slice A2 yp.length c2) := (HWr.out.cell (p := ⟨w2.heap.size, 3, none⟩) hz24).trans m4
        by_cases hl : i < xp.length ∧ i < yp.length
        · obtain ⟨hl1, hl2⟩ := hl
          have FXr := FX.out.below HWr.out (Nat.le_refl _)
          have FYr := FY.out.below HWr.out (Nat.le_refl _)
          obtain ⟨g, rfl, hg1, hg2⟩ := FXr i hl1
          obtain ⟨g', rfl, hg3, hg4⟩ := FYr i hl2
          have hd1 : xp.drop i = xp[i] :: xp.drop (i + 1) := List.drop_eq_getElem_cons hl1
          have hd2 : yp.drop i = yp[i] :: yp.drop (i + 1) := List.drop_eq_getElem_cons hl2
          have hA2 := HA.out
          rw [hd1, hd2, List.map_cons, List.map_cons] at hA2
          have CW := fun w => graftwoodref03_words.calls K xp[i] yp[i] _ w (HW.out i hl1 hl2)
          obtain ⟨cv, hcv⟩ : ∃ cv, cv = wordC (bs xp[i]) (bs yp[i]) := ⟨_, rfl⟩
          have hA3 : wordsC (xp.map bs) (yp.map bs) = orI cv (wordsC ((xp.drop (i + 1)).map bs) ((yp.drop (i + 1)).map bs)) := by rw [hA2, hcv]; rfl
          have HA3 := Aside0.mk hA3
          rw [← hcv] at CW
          generalize xp[i] = px at CW hg2
          generalize yp[i] = py at CW hg4
          have j1 : (i : Int) < (xp.length : Int) := by omega
          have j2 : (i : Int) < (yp.length : Int) := by omega
          have jd1 : decide ((i : Int) < (xp.length : Int)) = true := decide_eq_true j1
          have jd2 : decide ((i : Int) < (yp.length : Int)) = true := decide_eq_true j2
          clear hA2 hA3 hcv hd1 hd2 FXr FYr
          have KS : ∀ w', Below wr.heap.size wr w' → Below wr.heap.size wr w' ∧ w'.cell? ⟨w1.heap.size, 3, none⟩ = some (.slice (some ⟨g, 0, none⟩) xp.length c) ∧ w'.cell? ⟨w2.heap.size, 3, none⟩ = some (.slice (some ⟨g', 0, none⟩) yp.length c2) ∧ w'.cell? ⟨g, i, none⟩ = some (.string px) ∧ w'.cell? ⟨g', i, none⟩ = some (.string py) := fun w' h =>
            ⟨h, (h.cell (p := ⟨w1.heap.size, 3, none⟩) (Nat.lt_of_lt_of_le hz14 HWr.out.size)).trans r3, (h.cell (p := ⟨w2.heap.size, 3, none⟩) (Nat.lt_of_lt_of_le hz24 HWr.out.size)).trans r4, (h.cell (p := ⟨g, i, none⟩) hg1).trans hg2, (h.cell (p := ⟨g', i, none⟩) hg3).trans hg4⟩
          go_wp2_with fail
          go_region_held3 (fun w' => Below wr.heap.size wr w' ∧ w'.cell? ⟨w1.heap.size, 3, none⟩ = some (.slice (some ⟨g, 0, none⟩) xp.length c) ∧ w'.cell? ⟨w2.heap.size, 3, none⟩ = some (.slice (some ⟨g', 0, none⟩) yp.length c2) ∧ w'.cell? ⟨g, i, none⟩ = some (.string px) ∧ w'.cell? ⟨g', i, none⟩ = some (.string py))
            (first
              | exact KS _ (below_drew (Below.refl _ _))
              | exact KS _ ((And.left ‹Below wr.heap.size wr _ ∧ _›).trans (hb9.mono (And.left ‹Below wr.heap.size wr _ ∧ _›).size))
              | exact KS _ (And.left ‹Below wr.heap.size wr _ ∧ _›))
            (first
              | (go_at_call 56; with_reducible refine (CW _).mono ?_; rintro e w'' ⟨rfl, hb9⟩))
          have hB9 := And.left ‹Below wr.heap.size wr _ ∧ _›
          have HB9 : Aside0 (Below v2.heap.size v2 w'') := ⟨HWr.out.trans (hB9.mono HWr.out.size)⟩
          have HB8 : Aside0 (Below w.heap.size w w'') := ⟨HB4.out.trans (HB9.out.mono HB4.out.size)⟩
          clear hB9 hb9 KS r3 r4 hg2 hg4
          rename_i hHeldZ
          clear hHeldZ
          cases hc0 : (cv != 0)
          · have hz : cv = 0 := by simpa using hc0
            go_wp2
            go_roundw
            case rel => exact ⟨i + 1, by omega, by omega, by go_num, HB9, ⟨by rw [HA3.out, hz]; rfl⟩⟩
            case measure => simp [RowKit.intOf]; omega
          · have hz : cv ≠ 0 := by simpa using hc0
            go_wp2
            go_ret
            exact ⟨by rw [HPC.out, HA3.out, orI, if_neg hz]; rfl, HB8.out⟩
        · have hval : wordsC (xp.map bs) (yp.map bs) = cmpN xp.length yp.length := by
            rw [HA.out]
            by_cases e1 : i = xp.length
            · rw [List.drop_of_length_le (by omega)]
              by_cases e2 : i = yp.length
              · rw [List.drop_of_length_le (by omega), ← e1, ← e2]; simp [wordsC, cmpN]
              · rw [List.drop_eq_getElem_cons (show i < yp.length by omega)]
                simp only [List.map_nil, List.map_cons, wordsC, cmpN]
                rw [if_pos (by omega)]
            · have e2 : i = yp.length := by omega
              rw [List.drop_eq_getElem_cons (show i < xp.length by omega), List.drop_of_length_le (show yp.length ≤ i by omega)]
              simp only [List.map_nil, List.map_cons, wordsC, cmpN]
              rw [if_neg (by omega), if_pos (by omega)]
          have HV := Aside0.mk hval
          have HB8 : Aside0 (Below w.heap.size w wr) := ⟨HB4.out.trans (HWr.out.mono HB4.out.size)⟩
          clear hval
          by_cases a1 : i < xp.length
          · have jd1 : decide ((i : Int) < (xp.length : Int)) = true := decide_eq_true (by omega)
            have jd2 : decide ((i : Int) < (yp.length : Int)) = false := decide_eq_false (by omega)
            have kd1 : decide ((xp.length : Int) < (yp.length : Int)) = false := decide_eq_false (by omega)
            have kd2 : decide ((yp.length : Int) < (xp.length : Int)) = true := decide_eq_true (by omega)
            have hv2 : cmpN xp.length yp.length = 1 := by unfold cmpN; rw [if_neg (by omega), if_pos (by omega)]
            go_wp2
            go_ret
            exact ⟨by rw [HPC.out, HV.out, hv2]; rfl, HB8.out⟩
          · have jd1 : decide ((i : Int) < (xp.length : Int)) = false := decide_eq_false (by omega)
            by_cases a2 : xp.length < yp.length
            · have kd1 : decide ((xp.length : Int) < (yp.length : Int)) = true := decide_eq_true (by omega)
              have hv2 : cmpN xp.length yp.length = -1 := by unfold cmpN; rw [if_pos (by omega)]
              go_wp2
              go_ret
              exact ⟨by rw [HPC.out, HV.out, hv2]; rfl, HB8.out⟩
            · have kd1 : decide ((xp.length : Int) < (yp.length : Int)) = false := decide_eq_false (by omega)
              have kd2 : decide ((yp.length : Int) < (xp.length : Int)) = false := decide_eq_false (by omega)
              have hv2 : cmpN xp.length yp.length = 0 := by unfold cmpN; rw [if_neg (by omega), if_neg (by omega)]
              go_wp2
              go_ret
              exact ⟨by rw [HPC.out, HV.out, hv2]; rfl, HB8.out⟩
    · have ny : yp = [] := List.length_eq_zero_iff.1 (by simpa using ly)
      have HPC : Aside0 (r = -1) := ⟨by rw [HR2.out]; unfold preC; rw [if_pos (Or.inr (by rw [ny]; rfl)), List.length_map, List.length_map, ny]; unfold cmpN; rw [if_pos (by simp; omega)]⟩
      clear ny HR2
      go_wp2_with fail
      go_quiet (fail)
      go_wp2
      go_ret
      exact ⟨by rw [HPC.out]; rfl, by repeat (with_reducible first | exact HB4.out | refine pw_below_drewN ?_ _ | refine below_drew ?_)⟩
  · have nx : xp = [] := List.length_eq_zero_iff.1 (by simpa using lx)
    cases ly : ((yp.length : Int) == 0)
    · have ny : yp.length ≠ 0 := fun h => by rw [h] at ly; exact absurd ly (by decide)
      have HPC : Aside0 (r = 1) := ⟨by rw [HR2.out]; unfold preC; rw [if_pos (Or.inl (by rw [nx]; rfl)), List.length_map, List.length_map, nx]; unfold cmpN; rw [if_neg (by simp), if_pos (by simp; omega)]⟩
      clear nx HR2
      go_wp2_with fail
      go_quiet (fail)
      go_wp2
      go_ret
      exact ⟨by rw [HPC.out]; rfl, by repeat (with_reducible first | exact HB4.out | refine pw_below_drewN ?_ _ | refine below_drew ?_)⟩
    · have ny : yp = [] := List.length_eq_zero_iff.1 (by simpa using ly)
      have HPC : Aside0 (r = 0) := ⟨by rw [HR2.out]; unfold preC; rw [if_pos (Or.inl (by rw [nx]; rfl)), List.length_map, List.length_map, nx, ny]; rfl⟩
      clear nx ny HR2
      go_wp2_with fail
      go_quiet (fail)
      go_wp2
      go_ret
      exact ⟨by rw [HPC.out]; rfl, by repeat (with_reducible first | exact HB4.out | refine pw_below_drewN ?_ _ | refine below_drew ?_)⟩
def graftwoodref03_Cmp.f (a0 a1 : ByteArray) : Option Int := if (Tiny a0 ∧ Tiny a1) ∧ isVersion (bs a0) = true ∧ isVersion (bs a1) = true then some (verC (vOf (bs a0)) (vOf (bs a1))) else none
theorem graftwoodref03_Cmp.calls (a0 a1 : ByteArray) (r : Int) (w : World) (h : graftwoodref03_Cmp.f a0 a1 = some r) :
    Calls Tryz.prog 45 #[.string a0, .string a1] w fun e w' => e = .returned (.int .i64 r) ∧ Below w.heap.size w w' := by
  unfold graftwoodref03_Cmp.f at h
  split at h
  case isFalse => cases h
  case isTrue hc =>
    obtain ⟨⟨ht0, ht1⟩, hv0, hv1⟩ := hc
    unfold Tiny at ht0 ht1
    rw [← vparts_some] at hv0 hv1
    obtain ⟨⟨p, q, s, l⟩, h0⟩ := Option.isSome_iff_exists.1 hv0
    obtain ⟨⟨p', q', s', l'⟩, h1⟩ := Option.isSome_iff_exists.1 hv1
    have f0 : graftwoodref03_Split.f a0 = some (ofB p, ofB q, ofB s, l.map ofB, true) := by unfold graftwoodref03_Split.f; rw [if_pos (by unfold Small; omega), split_some _ _ _ _ _ h0]
    have f1 : graftwoodref03_Split.f a1 = some (ofB p', ofB q', ofB s', l'.map ofB, true) := by unfold graftwoodref03_Split.f; rw [if_pos (by unfold Small; omega), split_some _ _ _ _ _ h1]
    obtain ⟨⟨n0, n1, n2⟩, o0, l0, _⟩ := vparts_facts (bs_oct a0) h0
    obtain ⟨⟨m0, m1, m2⟩, o1, l1, _⟩ := vparts_facts (bs_oct a1) h1
    rw [bs_length] at l0 l1 o0 o1
    have e0 : ∀ t ∈ p :: q :: s :: l, bs (ofB t) = t ∧ Small (ofB t) ∧ (ofB t).size ≤ 4294967281 := fun t ht => by
      have hz : (ofB t).size = t.length := by rw [← bs_length, bs_ofB (o0 t ht).1]
      have := (o0 t ht).2
      exact ⟨bs_ofB (o0 t ht).1, by unfold Small; omega, by omega⟩
    have e1 : ∀ t ∈ p' :: q' :: s' :: l', bs (ofB t) = t ∧ Small (ofB t) ∧ (ofB t).size ≤ 4294967281 := fun t ht => by
      have hz : (ofB t).size = t.length := by rw [← bs_length, bs_ofB (o1 t ht).1]
      have := (o1 t ht).2
      exact ⟨bs_ofB (o1 t ht).1, by unfold Small; omega, by omega⟩
    have b0 := e0 p (by simp)
    have b1 := e0 q (by simp)
    have b2 := e0 s (by simp)
    have c0 := e1 p' (by simp)
    have c1 := e1 q' (by simp)
    have c2 := e1 s' (by simp)
    have hl0 : (l.map ofB).map bs = l := by
      rw [List.map_map]
      exact (List.map_congr_left fun t ht => (e0 t (by simp [ht])).1).trans (List.map_id _)
    have hl1 : (l'.map ofB).map bs = l' := by
      rw [List.map_map]
      exact (List.map_congr_left fun t ht => (e1 t (by simp [ht])).1).trans (List.map_id _)
    have hv : ∀ {x : List Nat} {v : VP}, vparts x = some v → vOf x = v := fun {x v} h => by unfold vOf; rw [h]; rfl
    rw [hv h0, hv h1] at h
    refine rcmp_go a0 a1 (ofB p) (ofB q) (ofB s) (l.map ofB) (ofB p') (ofB q') (ofB s') (l'.map ofB) f0 f1 17179869184 (numC p p') (numC q q') (numC s s')
      (by have := rnum_val (ofB p) (ofB p') b0.2.1 c0.2.1 (by rw [b0.1]; exact n0) (by rw [c0.1]; exact m0) 17179869184 (by omega); rwa [b0.1, c0.1] at this)
      (by have := rnum_val (ofB q) (ofB q') b1.2.1 c1.2.1 (by rw [b1.1]; exact n1) (by rw [c1.1]; exact m1) 17179869184 (by omega); rwa [b1.1, c1.1] at this)
      (by have := rnum_val (ofB s) (ofB s') b2.2.1 c2.2.1 (by rw [b2.1]; exact n2) (by rw [c2.1]; exact m2) 17179869184 (by omega); rwa [b2.1, c2.1] at this)
      (fun i hi hj => by
        have g0 : (l.map ofB)[i] ∈ l.map ofB := List.getElem_mem _
        have g1 : (l'.map ofB)[i] ∈ l'.map ofB := List.getElem_mem _
        obtain ⟨t0, ht0, hh0⟩ := List.mem_map.1 g0
        obtain ⟨t1, ht1, hh1⟩ := List.mem_map.1 g1
        have k0 := (e0 t0 (by simp [ht0])).2
        have k1 := (e1 t1 (by simp [ht1])).2
        rw [hh0] at k0
        rw [hh1] at k1
        exact rwords_val _ _ k0.1 k1.1 _ (by omega))
      (by rw [List.length_map]; omega) (by rw [List.length_map]; omega) r ?_ w
    rw [← Option.some.inj h, hl0, hl1, preC_eq]
    rfl
end Go.Proofs.YtcfphieogalnbaaGreatDoor.Q
end

section
namespace Go.Proofs.YtcfphieogalnbaaGreatDoor.Q
open Go.RowKit Go.Proofs.YtcfphieogalnbaaGreatDoorW.PrintWords Go.Proofs.YtcfphieogalnbaaGreatDoorW.PrintLast Go.Proofs.YtcfphieogalnbaaGreatDoorW.PrintMore
attribute [local go_sem] max2_int min2_int max_two min_two max_three min_three max_four min_four   -- for this text's walks alone
set_option linter.unusedVariables false
set_option linter.unusedSimpArgs false
/-! ### graftwoodref05_Less: function 32 -/
def graftwoodref05_Less.f (k : Nat) (a0_0 : ByteArray) (a0_1 : ByteArray) (a1_0 : ByteArray) (a1_1 : ByteArray) : Option (Bool) := (graftwoodref01_Cmp.f k a0_0 a1_0).bind fun t250 => (if t250 < 0 then (some true) else (if t250 = 0 then ((graftwoodref03_Cmp.f a0_1 a1_1).bind fun t251 => (some (decide (t251 < 0)))) else (some false)))
set_option maxHeartbeats 8000000 in
set_option maxRecDepth 100000 in
theorem graftwoodref05_Less.calls (k : Nat) (a0_0 : ByteArray) (a0_1 : ByteArray) (a1_0 : ByteArray) (a1_1 : ByteArray) (r : Bool) (w : World) (h : graftwoodref05_Less.f k a0_0 a0_1 a1_0 a1_1 = some r) :
    Calls Tryz.prog 32 #[.agg #[.string a0_0, .string a0_1], .agg #[.string a1_0, .string a1_1]] w fun e w' => e = .returned (.bool r) ∧ Below w.heap.size w w' := by
  have hu24 := Tryz.underlying24
  have HB := Aside0.mk (Below.refl w.heap.size w)
  have H : ((graftwoodref01_Cmp.f k a0_0 a1_0).bind fun t250 => (if t250 < 0 then (some true) else (if t250 = 0 then ((graftwoodref03_Cmp.f a0_1 a1_1).bind fun t251 => (some (decide (t251 < 0)))) else (some false)))) = some r := h
  clear h
  replace H := Option.bind_eq_some_iff.mp H
  obtain ⟨t250, A30, H⟩ := H
  replace H : (if t250 < 0 then (some true) else (if t250 = 0 then ((graftwoodref03_Cmp.f a0_1 a1_1).bind fun t251 => (some (decide (t251 < 0)))) else (some false))) = some r := H
  have A3 := Aside0.mk A30
  clear A30
  by_cases c4 : t250 < 0
  · rw [if_pos c4] at H
    have c4b0 : decide (t250 < 0) = true := decide_eq_true c4
    clear c4
    obtain rfl := Option.some.inj H
    go_enter Tryz.func32, Tryz.ntmps32
    go_wp2_with (first | ((with_reducible refine gate_dst (N := 2) rfl ?_); refine box_event ?hg (N := 2) ?hd (cs := #[.string a0_0, .string a0_1]) (t := 24) ?hr ?_; (case hd => rfl); (case hg => rfl); (case hr => first | (go_simp; done) | (go_simp; rfl)); intro gb248 hg w5 hbox hb; have n0_ := Aside0.mk (below_step (by repeat (first | (with_reducible first | exact HB.out | apply below_alloc | apply pw_below_drewN | apply below_drew1) | exact HB.out)) hb); have n1_ := Aside0.mk (hbox); have n2_ := Aside0.mk ((by rw [hg]; exact (below_size (by repeat (first | (with_reducible first | exact HB.out | apply below_alloc | apply pw_below_drewN | apply below_drew1) | exact HB.out))) : w.heap.size ≤ gb248)); have n3_ := Aside0.mk ((by rw [hg]; exact (below_size (by repeat (first | (with_reducible first | exact HB.out | apply below_alloc | apply pw_below_drewN | apply below_drew1) | exact HB.out))) : w.heap.size ≤ gb248)); clear HB; have HB := n0_; have BK248 := n1_; have GW248 := n2_; have GE248 := n3_; clear n0_ n1_ n2_ n3_; clear hb hbox hg) | ((with_reducible refine gate_dst (N := 3) rfl ?_); refine box_event ?hg (N := 3) ?hd (cs := #[.string a1_0, .string a1_1]) (t := 24) ?hr ?_; (case hd => rfl); (case hg => rfl); (case hr => first | (go_simp; done) | (go_simp; rfl)); intro gb249 hg w6 hbox hb; have n0_ := Aside0.mk (blk_below (g := gb248) (o := .cells #[.string a0_0, .string a0_1] 24 (0, 0)) (by (with_reducible repeat (first | refine blk_drewN ?_ _ | refine blk_drew ?_ | refine blk_alloc ?_ _)); exact BK248.out) hb); have n1_ := Aside0.mk (below_step (by repeat (first | (with_reducible first | exact HB.out | apply below_alloc | apply pw_below_drewN | apply below_drew1 | refine below_set ?_ GE248.out) | exact HB.out)) hb); have n2_ := Aside0.mk (hbox); have n3_ := Aside0.mk ((by rw [hg]; exact (below_size (by repeat (first | (with_reducible first | exact HB.out | apply below_alloc | apply pw_below_drewN | apply below_drew1 | refine below_set ?_ GE248.out) | exact HB.out))) : w.heap.size ≤ gb249)); have n4_ := Aside0.mk ((by rw [hg]; exact (below_size (by repeat (first | (with_reducible first | exact HB.out | apply below_alloc | apply pw_below_drewN | apply below_drew1 | refine below_set ?_ GE248.out) | exact HB.out))) : w.heap.size ≤ gb249)); have n5_ := Aside0.mk ((by rw [hg]; exact Nat.ne_of_lt (blk_lt (g := gb248) (o := .cells #[.string a0_0, .string a0_1] 24 (0, 0)) (by (with_reducible repeat (first | refine blk_drewN ?_ _ | refine blk_drew ?_ | refine blk_alloc ?_ _)); exact BK248.out)) : gb248 ≠ gb249)); have n6_ := Aside0.mk ((by rw [hg]; exact Nat.ne_of_gt (blk_lt (g := gb248) (o := .cells #[.string a0_0, .string a0_1] 24 (0, 0)) (by (with_reducible repeat (first | refine blk_drewN ?_ _ | refine blk_drew ?_ | refine blk_alloc ?_ _)); exact BK248.out)) : gb249 ≠ gb248)); clear BK248; clear HB; have BK248 := n0_; have HB := n1_; have BK249 := n2_; have GW249 := n3_; have GE249 := n4_; have NB248_249 := n5_; have NB249_248 := n6_; clear n0_ n1_ n2_ n3_ n4_ n5_ n6_; clear hb hbox hg; have hnb7 := NB248_249.out; have hnc7 := NB249_248.out; have hcz8_0 : w6.cell? ⟨gb248, 0, none⟩ = some (.string a0_0) := (blk_cell BK248.out 0).trans rfl; have hcz8_1 : w6.cell? ⟨gb248, 1, none⟩ = some (.string a0_1) := (blk_cell BK248.out 1).trans rfl; have hfz8_0 := blk_frozen BK248.out 0; have hfz8_1 := blk_frozen BK248.out 1; have hcz9_0 : w6.cell? ⟨gb249, 0, none⟩ = some (.string a1_0) := (blk_cell BK249.out 0).trans rfl; have hcz9_1 : w6.cell? ⟨gb249, 1, none⟩ = some (.string a1_1) := (blk_cell BK249.out 1).trans rfl; have hfz9_0 := blk_frozen BK249.out 0; have hfz9_1 := blk_frozen BK249.out 1) | ((with_reducible refine gate_callee (f := 44) rfl ?_); refine goesL_ (some 10) rfl rfl Tryz.func44 (by kernel_rfl) rfl #[.string a0_0, .string a1_0] rfl (by (try simp only [List.map_toArray, List.map_cons, List.map_nil]); first | done | rfl | (simp only [List.length_drop, List.length_take]; rfl)) ?_; (with_reducible refine (graftwoodref01_Cmp.calls k a0_0 a1_0 t250 _ A3.out).mono ?_); rintro e w' ⟨rfl, ⟨nd, rfl⟩⟩; refine ⟨_, rfl, ?_⟩))
    go_ret
    exact ⟨by first | rfl | (simp [errW_none, errW_some] <;> rfl) | (simp [*, errW_none, errW_some] <;> rfl), by repeat (first | (with_reducible first | exact HB.out | apply below_alloc | apply pw_below_drewN | apply below_drew1 | refine below_set ?_ GE248.out | refine below_set ?_ GE249.out) | exact HB.out)⟩
  · rw [if_neg c4] at H
    have c4b0 : decide (t250 < 0) = false := decide_eq_false c4
    clear c4
    by_cases c10 : t250 = 0
    · rw [if_pos c10] at H
      have c10b0 : (t250 == 0) = true := beq_iff_eq.mpr c10
      have c10b1 : (t250 != 0) = false := bne_eq_false_iff_eq.mpr c10
      clear c10
      replace H := Option.bind_eq_some_iff.mp H
      obtain ⟨t251, A110, H⟩ := H
      replace H : (some (decide (t251 < 0))) = some r := H
      have A11 := Aside0.mk A110
      clear A110
      obtain rfl := Option.some.inj H
      go_enter Tryz.func32, Tryz.ntmps32
      go_wp2_with (first | ((with_reducible refine gate_dst (N := 2) rfl ?_); refine box_event ?hg (N := 2) ?hd (cs := #[.string a0_0, .string a0_1]) (t := 24) ?hr ?_; (case hd => rfl); (case hg => rfl); (case hr => first | (go_simp; done) | (go_simp; rfl)); intro gb248 hg w12 hbox hb; have n0_ := Aside0.mk (below_step (by repeat (first | (with_reducible first | exact HB.out | apply below_alloc | apply pw_below_drewN | apply below_drew1) | exact HB.out)) hb); have n1_ := Aside0.mk (hbox); have n2_ := Aside0.mk ((by rw [hg]; exact (below_size (by repeat (first | (with_reducible first | exact HB.out | apply below_alloc | apply pw_below_drewN | apply below_drew1) | exact HB.out))) : w.heap.size ≤ gb248)); have n3_ := Aside0.mk ((by rw [hg]; exact (below_size (by repeat (first | (with_reducible first | exact HB.out | apply below_alloc | apply pw_below_drewN | apply below_drew1) | exact HB.out))) : w.heap.size ≤ gb248)); clear HB; have HB := n0_; have BK248 := n1_; have GW248 := n2_; have GE248 := n3_; clear n0_ n1_ n2_ n3_; clear hb hbox hg) | ((with_reducible refine gate_dst (N := 3) rfl ?_); refine box_event ?hg (N := 3) ?hd (cs := #[.string a1_0, .string a1_1]) (t := 24) ?hr ?_; (case hd => rfl); (case hg => rfl); (case hr => first | (go_simp; done) | (go_simp; rfl)); intro gb249 hg w13 hbox hb; have n0_ := Aside0.mk (blk_below (g := gb248) (o := .cells #[.string a0_0, .string a0_1] 24 (0, 0)) (by (with_reducible repeat (first | refine blk_drewN ?_ _ | refine blk_drew ?_ | refine blk_alloc ?_ _)); exact BK248.out) hb); have n1_ := Aside0.mk (below_step (by repeat (first | (with_reducible first | exact HB.out | apply below_alloc | apply pw_below_drewN | apply below_drew1 | refine below_set ?_ GE248.out) | exact HB.out)) hb); have n2_ := Aside0.mk (hbox); have n3_ := Aside0.mk ((by rw [hg]; exact (below_size (by repeat (first | (with_reducible first | exact HB.out | apply below_alloc | apply pw_below_drewN | apply below_drew1 | refine below_set ?_ GE248.out) | exact HB.out))) : w.heap.size ≤ gb249)); have n4_ := Aside0.mk ((by rw [hg]; exact (below_size (by repeat (first | (with_reducible first | exact HB.out | apply below_alloc | apply pw_below_drewN | apply below_drew1 | refine below_set ?_ GE248.out) | exact HB.out))) : w.heap.size ≤ gb249)); have n5_ := Aside0.mk ((by rw [hg]; exact Nat.ne_of_lt (blk_lt (g := gb248) (o := .cells #[.string a0_0, .string a0_1] 24 (0, 0)) (by (with_reducible repeat (first | refine blk_drewN ?_ _ | refine blk_drew ?_ | refine blk_alloc ?_ _)); exact BK248.out)) : gb248 ≠ gb249)); have n6_ := Aside0.mk ((by rw [hg]; exact Nat.ne_of_gt (blk_lt (g := gb248) (o := .cells #[.string a0_0, .string a0_1] 24 (0, 0)) (by (with_reducible repeat (first | refine blk_drewN ?_ _ | refine blk_drew ?_ | refine blk_alloc ?_ _)); exact BK248.out)) : gb249 ≠ gb248)); clear BK248; clear HB; have BK248 := n0_; have HB := n1_; have BK249 := n2_; have GW249 := n3_; have GE249 := n4_; have NB248_249 := n5_; have NB249_248 := n6_; clear n0_ n1_ n2_ n3_ n4_ n5_ n6_; clear hb hbox hg; have hnb14 := NB248_249.out; have hnc14 := NB249_248.out; have hcz15_0 : w13.cell? ⟨gb248, 0, none⟩ = some (.string a0_0) := (blk_cell BK248.out 0).trans rfl; have hcz15_1 : w13.cell? ⟨gb248, 1, none⟩ = some (.string a0_1) := (blk_cell BK248.out 1).trans rfl; have hfz15_0 := blk_frozen BK248.out 0; have hfz15_1 := blk_frozen BK248.out 1; have hcz16_0 : w13.cell? ⟨gb249, 0, none⟩ = some (.string a1_0) := (blk_cell BK249.out 0).trans rfl; have hcz16_1 : w13.cell? ⟨gb249, 1, none⟩ = some (.string a1_1) := (blk_cell BK249.out 1).trans rfl; have hfz16_0 := blk_frozen BK249.out 0; have hfz16_1 := blk_frozen BK249.out 1) | ((with_reducible refine gate_callee (f := 44) rfl ?_); refine goesL_ (some 10) rfl rfl Tryz.func44 (by kernel_rfl) rfl #[.string a0_0, .string a1_0] rfl (by (try simp only [List.map_toArray, List.map_cons, List.map_nil]); first | done | rfl | (simp only [List.length_drop, List.length_take]; rfl)) ?_; (with_reducible refine (graftwoodref01_Cmp.calls k a0_0 a1_0 t250 _ A3.out).mono ?_); rintro e w' ⟨rfl, ⟨nd, rfl⟩⟩; refine ⟨_, rfl, ?_⟩) | (go_at_call 45; (with_reducible refine (graftwoodref03_Cmp.calls a0_1 a1_1 t251 _ A11.out).mono ?_); rintro e w17 ⟨rfl, hb⟩; have n0_ := Aside0.mk (blk_below (g := gb248) (o := .cells #[.string a0_0, .string a0_1] 24 (0, 0)) (by (with_reducible repeat (first | refine blk_drewN ?_ _ | refine blk_drew ?_ | refine blk_alloc ?_ _)); exact BK248.out) hb); have n1_ := Aside0.mk (blk_below (g := gb249) (o := .cells #[.string a1_0, .string a1_1] 24 (0, 0)) (by (with_reducible repeat (first | refine blk_drewN ?_ _ | refine blk_drew ?_ | refine blk_alloc ?_ _)); exact BK249.out) hb); have n2_ := Aside0.mk (below_step (by repeat (first | (with_reducible first | exact HB.out | apply below_alloc | apply pw_below_drewN | apply below_drew1 | refine below_set ?_ GE248.out | refine below_set ?_ GE249.out) | exact HB.out)) hb); clear BK248; clear BK249; clear HB; have BK248 := n0_; have BK249 := n1_; have HB := n2_; clear n0_ n1_ n2_; (try clear hb); (try clear hb2); (try clear hk); (try clear hi)))
      go_ret
      exact ⟨by first | rfl | (simp [errW_none, errW_some] <;> rfl) | (simp [*, errW_none, errW_some] <;> rfl), by repeat (first | (with_reducible first | exact HB.out | apply below_alloc | apply pw_below_drewN | apply below_drew1 | refine below_set ?_ GE248.out | refine below_set ?_ GE249.out) | exact HB.out)⟩
    · rw [if_neg c10] at H
      have c10b0 : (t250 == 0) = false := beq_eq_false_iff_ne.mpr c10
      have c10b1 : (t250 != 0) = true := bne_iff_ne.mpr c10
      obtain rfl := Option.some.inj H
      go_enter Tryz.func32, Tryz.ntmps32
      go_wp2_with (first | ((with_reducible refine gate_dst (N := 2) rfl ?_); refine box_event ?hg (N := 2) ?hd (cs := #[.string a0_0, .string a0_1]) (t := 24) ?hr ?_; (case hd => rfl); (case hg => rfl); (case hr => first | (go_simp; done) | (go_simp; rfl)); intro gb248 hg w18 hbox hb; have n0_ := Aside0.mk (below_step (by repeat (first | (with_reducible first | exact HB.out | apply below_alloc | apply pw_below_drewN | apply below_drew1) | exact HB.out)) hb); have n1_ := Aside0.mk (hbox); have n2_ := Aside0.mk ((by rw [hg]; exact (below_size (by repeat (first | (with_reducible first | exact HB.out | apply below_alloc | apply pw_below_drewN | apply below_drew1) | exact HB.out))) : w.heap.size ≤ gb248)); have n3_ := Aside0.mk ((by rw [hg]; exact (below_size (by repeat (first | (with_reducible first | exact HB.out | apply below_alloc | apply pw_below_drewN | apply below_drew1) | exact HB.out))) : w.heap.size ≤ gb248)); clear HB; have HB := n0_; have BK248 := n1_; have GW248 := n2_; have GE248 := n3_; clear n0_ n1_ n2_ n3_; clear hb hbox hg) | ((with_reducible refine gate_dst (N := 3) rfl ?_); refine box_event ?hg (N := 3) ?hd (cs := #[.string a1_0, .string a1_1]) (t := 24) ?hr ?_; (case hd => rfl); (case hg => rfl); (case hr => first | (go_simp; done) | (go_simp; rfl)); intro gb249 hg w19 hbox hb; have n0_ := Aside0.mk (blk_below (g := gb248) (o := .cells #[.string a0_0, .string a0_1] 24 (0, 0)) (by (with_reducible repeat (first | refine blk_drewN ?_ _ | refine blk_drew ?_ | refine blk_alloc ?_ _)); exact BK248.out) hb); have n1_ := Aside0.mk (below_step (by repeat (first | (with_reducible first | exact HB.out | apply below_alloc | apply pw_below_drewN | apply below_drew1 | refine below_set ?_ GE248.out) | exact HB.out)) hb); have n2_ := Aside0.mk (hbox); have n3_ := Aside0.mk ((by rw [hg]; exact (below_size (by repeat (first | (with_reducible first | exact HB.out | apply below_alloc | apply pw_below_drewN | apply below_drew1 | refine below_set ?_ GE248.out) | exact HB.out))) : w.heap.size ≤ gb249)); have n4_ := Aside0.mk ((by rw [hg]; exact (below_size (by repeat (first | (with_reducible first | exact HB.out | apply below_alloc | apply pw_below_drewN | apply below_drew1 | refine below_set ?_ GE248.out) | exact HB.out))) : w.heap.size ≤ gb249)); have n5_ := Aside0.mk ((by rw [hg]; exact Nat.ne_of_lt (blk_lt (g := gb248) (o := .cells #[.string a0_0, .string a0_1] 24 (0, 0)) (by (with_reducible repeat (first | refine blk_drewN ?_ _ | refine blk_drew ?_ | refine blk_alloc ?_ _)); exact BK248.out)) : gb248 ≠ gb249)); have n6_ := Aside0.mk ((by rw [hg]; exact Nat.ne_of_gt (blk_lt (g := gb248) (o := .cells #[.string a0_0, .string a0_1] 24 (0, 0)) (by (with_reducible repeat (first | refine blk_drewN ?_ _ | refine blk_drew ?_ | refine blk_alloc ?_ _)); exact BK248.out)) : gb249 ≠ gb248)); clear BK248; clear HB; have BK248 := n0_; have HB := n1_; have BK249 := n2_; have GW249 := n3_; have GE249 := n4_; have NB248_249 := n5_; have NB249_248 := n6_; clear n0_ n1_ n2_ n3_ n4_ n5_ n6_; clear hb hbox hg; have hnb20 := NB248_249.out; have hnc20 := NB249_248.out; have hcz21_0 : w19.cell? ⟨gb248, 0, none⟩ = some (.string a0_0) := (blk_cell BK248.out 0).trans rfl; have hcz21_1 : w19.cell? ⟨gb248, 1, none⟩ = some (.string a0_1) := (blk_cell BK248.out 1).trans rfl; have hfz21_0 := blk_frozen BK248.out 0; have hfz21_1 := blk_frozen BK248.out 1; have hcz22_0 : w19.cell? ⟨gb249, 0, none⟩ = some (.string a1_0) := (blk_cell BK249.out 0).trans rfl; have hcz22_1 : w19.cell? ⟨gb249, 1, none⟩ = some (.string a1_1) := (blk_cell BK249.out 1).trans rfl; have hfz22_0 := blk_frozen BK249.out 0; have hfz22_1 := blk_frozen BK249.out 1) | ((with_reducible refine gate_callee (f := 44) rfl ?_); refine goesL_ (some 10) rfl rfl Tryz.func44 (by kernel_rfl) rfl #[.string a0_0, .string a1_0] rfl (by (try simp only [List.map_toArray, List.map_cons, List.map_nil]); first | done | rfl | (simp only [List.length_drop, List.length_take]; rfl)) ?_; (with_reducible refine (graftwoodref01_Cmp.calls k a0_0 a1_0 t250 _ A3.out).mono ?_); rintro e w' ⟨rfl, ⟨nd, rfl⟩⟩; refine ⟨_, rfl, ?_⟩))
      go_ret
      exact ⟨by first | rfl | (simp [errW_none, errW_some] <;> rfl) | (simp [*, errW_none, errW_some] <;> rfl), by repeat (first | (with_reducible first | exact HB.out | apply below_alloc | apply pw_below_drewN | apply below_drew1 | refine below_set ?_ GE248.out | refine below_set ?_ GE249.out) | exact HB.out)⟩
end Go.Proofs.YtcfphieogalnbaaGreatDoor.Q
end
