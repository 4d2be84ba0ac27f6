/- Part 6 of this claim: several texts one behind the other: LCon, LSame, NMayV, KChk, NOrd, NCmp, NKey, Split, Fgraftwoodref03May, Fgraftwoodref05May, Fgraftwoodref18May, SplitP, RVal, RMay5, RMay18. What each shows stands in its theorems; conditions: sizes of texts and lists, as the functions' definitions say. -/
import Derived.Test.YtodkjmbmlobihaaDoorMWhyMore1
import Derived.Test.YtodkjmbmlobihaaDoorMWhyMore5
import Derived.Test.YtodkjmbmlobihaaDoorMWhyMore2
import Derived.Test.YtodkjmbmlobihaaDoorMWhyMore0
import Derived.Sort.WalkB12
import Derived.Lib.Walk
import Derived.WalkKit
import Derived.Deep.LoopGhost
import Derived.RegionTactic
import Derived.BigRegion
import Derived.ChangeAlike
import Derived.Deep.QuietTactic
import Derived.BigQuiet
import Derived.Deep.RegionHeld3
import Derived.Maps.OwnSet
import Derived.Maps.AppendAt
import Derived.DeepKeys4
import Derived.Test.YtodkjmbmlobihaaDoorMWhyMore3
section
namespace Go.Proofs.YtodkjmbmlobihaaDoor.Q
open Go.Proofs.YtodkjmbmlobihaaDoor.QB.D
open Go Go.RowKit Go.Lib Go.Proofs.YtodkjmbmlobihaaDoorW.PrintWords Go.Proofs.YtodkjmbmlobihaaDoorW.PrintLast Go.Proofs.YtodkjmbmlobihaaDoorW.PrintMore Gw
set_option linter.unusedVariables false
set_option linter.unusedSimpArgs false
theorem indexN_l0 (l : List S24) (t : S24) (hl : l.length ≤ 4294967296) : ∀ (n i k : Nat), l.length ≤ i + n → i ≤ l.length → n + 1 ≤ k → ∃ r : Int, api_Node_44.l0 k l (l.length : Int) (i : Int) t.f0 t.f1 = some r ∧ decide (r ≥ 0) = decide (t ∈ l.drop i) := by
  intro n
  induction n with
  | zero =>
    intro i k h1 h2 hk
    obtain ⟨j, rfl⟩ : ∃ j, k = j + 1 := ⟨k - 1, by omega⟩
    have e : i = l.length := by omega
    subst e
    refine ⟨-1, ?_, by rw [List.drop_length]; simp⟩
    simp only [api_Node_44.l0]
    rw [if_neg (by omega)]
  | succ n ih =>
    intro i k h1 h2 hk
    obtain ⟨j, rfl⟩ : ∃ j, k = j + 1 := ⟨k - 1, by omega⟩
    by_cases h : i < l.length
    · simp only [api_Node_44.l0]
      rw [if_pos (by omega), if_pos (by omega), if_pos (by omega), rd_nat h, node_eqb, List.drop_eq_getElem_cons h]
      by_cases e : t = l[i]
      · rw [decide_eq_true e, if_pos rfl]
        refine ⟨(i : Int), rfl, ?_⟩
        rw [decide_eq_true (by omega), decide_eq_true (by rw [e]; exact List.mem_cons_self)]
      · rw [decide_eq_false e, if_neg (by decide), show wrap64 ((i : Int) + 1) = ((i + 1 : Nat) : Int) by unfold wrap64; omega]
        obtain ⟨r, h3, h4⟩ := ih (i + 1) j (by omega) (by omega) (by omega)
        refine ⟨r, h3, h4.trans (decide_eq_decide.2 ⟨fun h => List.mem_cons_of_mem _ h, fun h => (List.mem_cons.1 h).resolve_left e⟩)⟩
    · exact ih i (j + 1) (by omega) h2 (by omega)
theorem conN_val (l : List S24) (t : S24) (hl : l.length ≤ 4294967296) (k : Nat) (hk : l.length + 1 ≤ k) : api_Node_32.f k l t.f0 t.f1 = some (decide (t ∈ l)) := by
  obtain ⟨r, h1, h2⟩ := indexN_l0 l t hl l.length 0 k (by omega) (Nat.zero_le _) hk
  rw [List.drop_zero] at h2
  unfold api_Node_32.f api_Node_44.f
  rw [show ((0 : Nat) : Int) = 0 from rfl] at h1
  rw [h1, Option.bind_some, h2]
theorem same_l0 (l m : List S24) (hl : l.length ≤ 4294967296) (hm : l.length = m.length) : ∀ (n i k : Nat), l.length ≤ i + n → i ≤ l.length → n + 1 ≤ k → graftwoodref05_Same.l0 k l m (i : Int) = some (decide (l.drop i = m.drop i)) := by
  intro n
  induction n with
  | zero =>
    intro i k h1 h2 hk
    obtain ⟨j, rfl⟩ : ∃ j, k = j + 1 := ⟨k - 1, by omega⟩
    have e : i = l.length := by omega
    subst e
    simp only [graftwoodref05_Same.l0]
    rw [if_neg (by omega), List.drop_length, List.drop_eq_nil_of_le (by omega)]
    rfl
  | succ n ih =>
    intro i k h1 h2 hk
    obtain ⟨j, rfl⟩ : ∃ j, k = j + 1 := ⟨k - 1, by omega⟩
    by_cases h : i < l.length
    · have h' : i < m.length := by omega
      simp only [graftwoodref05_Same.l0]
      have hn : (!(l[i].f0.toList == m[i].f0.toList) || !(l[i].f1.toList == m[i].f1.toList)) = !decide (l[i] = m[i]) := by rw [← node_eqb, Bool.not_and]
      rw [if_pos (by omega), if_pos (by omega), if_pos (by omega), rd_nat h, rd_nat h', hn, List.drop_eq_getElem_cons h, List.drop_eq_getElem_cons h']
      by_cases e : l[i] = m[i]
      · rw [decide_eq_true e, if_neg (by decide), show wrap64 ((i : Int) + 1) = ((i + 1 : Nat) : Int) by unfold wrap64; omega, ih (i + 1) j (by omega) (by omega) (by omega)]
        exact congrArg some (decide_eq_decide.2 ⟨fun h => by rw [e, h], fun h => (List.cons.inj h).2⟩)
      · rw [decide_eq_false e, if_pos (by decide), decide_eq_false (fun h => e (List.cons.inj h).1)]
    · exact ih i (j + 1) (by omega) h2 (by omega)
theorem same_val (l m : List S24) (hl : l.length ≤ 4294967296) (k : Nat) (hk : l.length + 1 ≤ k) : graftwoodref05_Same.f k l m = some (decide (l = m)) := by
  unfold graftwoodref05_Same.f
  by_cases h : l.length = m.length
  · rw [if_pos (by omega)]
    have h2 := same_l0 l m hl h l.length 0 k (by omega) (Nat.zero_le _) hk
    rw [List.drop_zero, List.drop_zero] at h2
    exact h2
  · rw [if_neg (by omega), decide_eq_false (fun e => h (by rw [e]))]
theorem elements_from (s : ByteArray) (hs : Tiny s) : ∀ (k i : Nat), ((parts 47 (bs s)).map ofB).length ≤ i + k → i ≤ ((parts 47 (bs s)).map ofB).length →
    path_Elements.l0 (k + 1) ((parts 47 (bs s)).map ofB) ((parts 47 (bs s)).map ofB) (((parts 47 (bs s)).map ofB).length : Int) (i : Int) = some (if ((parts 47 (bs s)).drop i).all isElem then ((parts 47 (bs s)).map ofB, 0) else ([], 1)) := by
  have hsm : Small s := by unfold Tiny at hs; unfold Small; omega
  obtain ⟨hl, hx⟩ := parts_small hsm 47
  have hlen : ((parts 47 (bs s)).map ofB).length = (parts 47 (bs s)).length := List.length_map _
  have hall : ∀ (i : Nat) (hi : i < (parts 47 (bs s)).length), path_element.f (((parts 47 (bs s)).map ofB)[i]'(by rw [hlen]; exact hi)) = some (isElem (parts 47 (bs s))[i]) := by
    intro i hi
    have h2 := hx (((parts 47 (bs s)).map ofB)[i]'(by rw [hlen]; exact hi)) (List.getElem_mem _)
    unfold path_element.f
    rw [if_pos (by unfold Tiny at *; omega), List.getElem_map, bs_ofB (parts_oct (bs_oct s) _ (List.getElem_mem hi))]
  intro k
  induction k with
  | zero =>
    intro i h1 h2
    have e : i = (parts 47 (bs s)).length := by omega
    subst e
    unfold path_Elements.l0
    rw [if_neg (by omega), List.drop_length]
    rfl
  | succ k ih =>
    intro i h1 h2
    unfold path_Elements.l0
    by_cases hi : i < (parts 47 (bs s)).length
    · rw [if_pos (by omega), if_pos (by omega), if_pos (by omega)]
      have hr : rdOf ByteArray.empty ((parts 47 (bs s)).map ofB) (i : Int) = ((parts 47 (bs s)).map ofB)[i]'(by rw [hlen]; exact hi) := by
        simp [rdOf, List.getD_eq_getElem?_getD, List.getElem?_eq_getElem hi]
      rw [hr, hall i hi, List.drop_eq_getElem_cons hi, List.all_cons, Option.bind_some]
      cases he : isElem (parts 47 (bs s))[i]
      · rfl
      · rw [if_pos rfl, Bool.true_and, show wrap64 ((i : Int) + 1) = ((i + 1 : Nat) : Int) by unfold wrap64; unfold Tiny at hs; omega]
        exact ih (i + 1) (by omega) (by omega)
    · have e : i = (parts 47 (bs s)).length := by omega
      rw [if_neg (by omega), List.drop_eq_nil_of_le (by omega)]
      rfl
theorem path_May_val (k : Nat) (s : ByteArray) (hs : Tiny s) (hk : s.size + 2 ≤ k) : path_May.f k s = some (isPath (bs s)) := by
  obtain ⟨j, rfl⟩ : ∃ j, k = j + 1 := ⟨k - 1, by omega⟩
  have hl := parts_len s 47
  unfold path_May.f path_Elements.f octet_Parts.f
  rw [if_pos ⟨hs, by decide, by decide⟩, Option.bind_some]
  have h := elements_from s hs j 0 (by omega) (Nat.zero_le _)
  rw [show (47 : Int).toNat = 47 from rfl, show ((0 : Nat) : Int) = 0 from rfl] at *
  rw [h, Option.bind_some, List.drop_zero]
  unfold isPath
  cases (parts 47 (bs s)).all isElem <;> rfl
theorem version_May_val (s : ByteArray) (hs : Tiny s) : version_May.f s = some (isVersion (bs s)) := by
  unfold version_May.f version_Split.f
  rw [if_pos hs, Option.bind_some, ← vparts_some]
  cases vparts (bs s) <;> rfl
theorem node_May_val (k : Nat) (x : S24) (hx : TinyN x) (hk : x.f0.size + 2 ≤ k) : node_May.f k x.f0 x.f1 = some (mayN x) := by
  unfold node_May.f
  rw [path_May_val k _ hx.1 hk, version_May_val _ hx.2]
  show _ = some (isPath (bs x.f0) && isVersion (bs x.f1))
  cases isPath (bs x.f0) <;> rfl
/-- May a need not be? -/
def badE (x : S34) : Bool := !mayN x.f1 || (!decide (x.f0 = z24) && !mayN x.f0)
abbrev TinyE (x : S34) : Prop := TinyN x.f0 ∧ TinyN x.f1
theorem node_eqz (x : S24) : (x.f0.toList == (⟨#[]⟩ : ByteArray).toList && x.f1.toList == (⟨#[]⟩ : ByteArray).toList) = decide (x = z24) := by
  rw [str_eq, str_eq]
  by_cases h : x = z24
  · subst h; rfl
  · rw [decide_eq_false h]
    by_cases h0 : x.f0 = ⟨#[]⟩
    · have h1 : x.f1 ≠ ⟨#[]⟩ := fun h1 => h (by cases x; simp only at h0 h1; rw [h0, h1]; rfl)
      simp [h0, h1]
    · simp [h0]
theorem node_eqz8 (x : S24) : (!x.f0.toList.isEmpty || !x.f1.toList.isEmpty) = !decide (x = z24) := by
  have h := node_eqz x
  have e : (⟨#[]⟩ : ByteArray).toList = [] := by rw [ByteArray.toList_eq]
  rw [e] at h
  rw [← h]
  cases x.f0.toList <;> cases x.f1.toList <;> rfl
set_option maxHeartbeats 4000000 in
set_option maxRecDepth 100000 in
theorem chk1_calls (x : S34) (hx : TinyE x) (B : Nat) (w : World) (h0 : w.cell? ⟨B, 0, none⟩ = some (.string ⟨#[]⟩)) (h1 : w.cell? ⟨B, 1, none⟩ = some (.string ⟨#[]⟩)) (hB : B < w.heap.size) :
    Calls Tryd.prog 29 #[.agg #[.string x.f0.f0, .string x.f0.f1, .string x.f1.f0, .string x.f1.f1], .pointer (some ⟨B, 0, none⟩)] w fun e w' => e = .returned (.bool (badE x)) ∧ Below w.heap.size w w' := by
  have hu24 := Tryd.underlying24
  have hu34 := Tryd.underlying34
  have q1 := hx.2.1
  have q0 := hx.1.1
  unfold Tiny at q1 q0
  have m1 := node_May_val 4294967300 x.f1 hx.2 (by omega)
  have m0 := node_May_val 4294967300 x.f0 hx.1 (by omega)
  cases b1 : mayN x.f1 with
  | false =>
    rw [b1] at m1
    have C1 := fun w => node_May.calls 4294967300 x.f1.f0 x.f1.f1 false w m1
    have hr : badE x = true := by unfold badE; rw [b1]; rfl
    rw [hr]
    clear m1 m0 q0 q1 hr hx
    go_enter Tryd.func29, Tryd.ntmps29
    go_wp2_with fail
    refine (C1 _).mono ?_
    rintro e w1 ⟨rfl, hb1⟩
    have HB1 : Aside0 (Below w.heap.size w w1) := ⟨(below_alloc (Below.refl _ _) _).trans (hb1.mono (by simp))⟩
    clear hb1 C1
    go_wp2
    go_ret
    exact ⟨rfl, HB1.out⟩
  | true =>
    rw [b1] at m1
    have C1 := fun w => node_May.calls 4294967300 x.f1.f0 x.f1.f1 true w m1
    by_cases hq : x.f0 = z24
    · have he0 : x.f0.f0.toList = [] := by rw [hq, ByteArray.toList_eq]; rfl
      have he1 : x.f0.f1.toList = [] := by rw [hq, ByteArray.toList_eq]; rfl
      have hr : badE x = false := by unfold badE; rw [b1, decide_eq_true hq]; rfl
      rw [hr]
      clear m1 m0 q0 q1 hr hx hq
      go_enter Tryd.func29, Tryd.ntmps29
      go_wp2_with fail
      refine (C1 _).mono ?_
      rintro e w1 ⟨rfl, hb1⟩
      have HB1 : Aside0 (Below w.heap.size w w1) := ⟨(below_alloc (Below.refl _ _) _).trans (hb1.mono (by simp))⟩
      have n0 : w1.cell? ⟨w.heap.size, 0, none⟩ = some (.string x.f0.f0) := (hb1.cell (p := ⟨w.heap.size, 0, none⟩) (by simp)).trans (by simp [go_sem])
      have n1 : w1.cell? ⟨w.heap.size, 1, none⟩ = some (.string x.f0.f1) := (hb1.cell (p := ⟨w.heap.size, 1, none⟩) (by simp)).trans (by simp [go_sem])
      have r0 : w1.cell? ⟨B, 0, none⟩ = some (.string ⟨#[]⟩) := (HB1.out.cell (p := ⟨B, 0, none⟩) hB).trans h0
      have r1 : w1.cell? ⟨B, 1, none⟩ = some (.string ⟨#[]⟩) := (HB1.out.cell (p := ⟨B, 1, none⟩) hB).trans h1
      clear hb1 C1
      go_wp2
      go_ret
      exact ⟨rfl, HB1.out⟩
    · have hs : (x.f0.f0.toList = []) = False ∨ (x.f0.f0.toList = [] ∧ (x.f0.f1.toList = []) = False) := by
        by_cases h2 : x.f0.f0.toList = []
        · refine Or.inr ⟨h2, eq_false (fun h3 => hq ?_)⟩
          have e0 := (toList_nil _).1 h2
          have e1 := (toList_nil _).1 h3
          have f0 : x.f0.f0 = ⟨#[]⟩ := bs_inj (by rw [e0]; rfl)
          have f1 : x.f0.f1 = ⟨#[]⟩ := bs_inj (by rw [e1]; rfl)
          rcases hx9 : x.f0 with ⟨u0, u1⟩
          rw [hx9] at f0 f1
          simp only at f0 f1
          rw [f0, f1]
          rfl
        · exact Or.inl (eq_false h2)
      have hr : badE x = !mayN x.f0 := by unfold badE; rw [b1, decide_eq_false hq]; simp
      rw [hr]
      obtain ⟨b0, hb0⟩ : ∃ b, b = mayN x.f0 := ⟨_, rfl⟩
      rw [← hb0] at m0 ⊢
      have C0 := fun w => node_May.calls 4294967300 x.f0.f0 x.f0.f1 b0 w m0
      clear m1 m0 q0 q1 hr hx hq hb0
      rcases hs with h2 | ⟨h2, h3⟩
      all_goals
        go_enter Tryd.func29, Tryd.ntmps29
        go_wp2_with fail
        refine (C1 _).mono ?_
        rintro e w1 ⟨rfl, hb1⟩
        have HB1 : Aside0 (Below w.heap.size w w1) := ⟨(below_alloc (Below.refl _ _) _).trans (hb1.mono (by simp))⟩
        have n0 : w1.cell? ⟨w.heap.size, 0, none⟩ = some (.string x.f0.f0) := (hb1.cell (p := ⟨w.heap.size, 0, none⟩) (by simp)).trans (by simp [go_sem])
        have n1 : w1.cell? ⟨w.heap.size, 1, none⟩ = some (.string x.f0.f1) := (hb1.cell (p := ⟨w.heap.size, 1, none⟩) (by simp)).trans (by simp [go_sem])
        have r0 : w1.cell? ⟨B, 0, none⟩ = some (.string ⟨#[]⟩) := (HB1.out.cell (p := ⟨B, 0, none⟩) hB).trans h0
        have r1 : w1.cell? ⟨B, 1, none⟩ = some (.string ⟨#[]⟩) := (HB1.out.cell (p := ⟨B, 1, none⟩) hB).trans h1
        clear hb1 C1
        go_wp2_with fail
        refine (C0 _).mono ?_
        rintro e w2 ⟨rfl, hb2⟩
        have HB2 : Aside0 (Below w.heap.size w w2) := ⟨HB1.out.trans (hb2.mono HB1.out.size)⟩
        clear hb2 C0
        go_wp2
        go_ret
        exact ⟨rfl, HB2.out⟩
set_option maxHeartbeats 4000000 in
set_option maxRecDepth 100000 in
theorem indexE_calls (A0 : Option Addr) (c0 : Nat) (l0 : List S34) (w : World) (hr0 : Kd.C k34 w A0 l0.length l0) (hl0 : l0.length ≤ 4294967296) (p : S34 → Bool) (B : Nat)
    (hp : ∀ x ∈ l0, ∀ (W : World), Below w.heap.size w W → Calls Tryd.prog 29 #[.agg #[.string x.f0.f0, .string x.f0.f1, .string x.f1.f0, .string x.f1.f1], .pointer (some ⟨B, 0, none⟩)] W fun e w' => e = .returned (.bool (p x)) ∧ Below W.heap.size W w') :
    Calls Tryd.prog 41 #[.slice A0 l0.length c0, .func (.func 29) #[] #[.pointer (some ⟨B, 0, none⟩)]] w fun e w' => ∃ r : Int, e = .returned (.int .i64 r) ∧ decide (0 ≤ r) = l0.any p ∧ Below w.heap.size w w' := by
  have hu24 := Tryd.underlying24
  have hu34 := Tryd.underlying34
  have HR0 := Aside0.mk hr0
  have HP := Aside0.mk hp
  have hl1 : (l0.length : Int) ≤ 4294967296 := by omega
  clear hr0 hp
  go_enter Tryd.func41, Tryd.ntmps41
  go_wp2_with fail
  go_loopw [5, 8] (fun _ v8 wr => ∃ i : Nat, i ≤ l0.length ∧ v8 = .int .i64 (i : Int) ∧ Aside0 (Below w.heap.size w wr) ∧ Aside0 ((l0.take i).any p = false)) (fun _ v8 _ => l0.length - (RowKit.intOf v8).toNat)
  case atStart => exact ⟨0, Nat.zero_le _, rfl, ⟨Below.refl _ _⟩, ⟨rfl⟩⟩
  case round =>
    obtain ⟨i, hi, rfl, HB, HA⟩ := hrel
    by_cases hil : i < l0.length
    · have j1 : (i : Int) < (l0.length : Int) := by omega
      have hdi : decide ((i : Int) < (l0.length : Int)) = true := decide_eq_true j1
      obtain ⟨x, hx⟩ : ∃ x, x = l0[i] := ⟨_, rfl⟩
      have hmem : x ∈ l0 := by rw [hx]; exact List.getElem_mem hil
      obtain ⟨ad, e0, hx0, hx1, hx2, hx3⟩ := at_T34 HR0.out (i : Int) (by omega) (by omega)
      have hrd : rd_T34 l0 (i : Int) = x := by rw [hx]; simp [rd_T34, List.getD_eq_getElem?_getD, List.getElem?_eq_getElem hil]
      rw [hrd, Int.toNat_natCast] at hx0 hx1 hx2 hx3
      cases e0
      replace hx0 := (HB.out.cell (World.block_lt_of_cell? w _ hx0)).trans hx0
      replace hx1 := (HB.out.cell (World.block_lt_of_cell? w _ hx1)).trans hx1
      replace hx2 := (HB.out.cell (World.block_lt_of_cell? w _ hx2)).trans hx2
      replace hx3 := (HB.out.cell (World.block_lt_of_cell? w _ hx3)).trans hx3
      have hcall := HP.out x hmem wr HB.out
      have htk : l0.take (i + 1) = l0.take i ++ [x] := by rw [hx]; exact List.take_succ_eq_append_getElem hil
      have HTK := Aside0.mk htk
      have HMEM := Aside0.mk hmem
      clear hx hrd htk hmem
      cases hq : p x with
      | true =>
        rw [hq] at hcall
        have HQ := Aside0.mk hq
        clear hq
        go_wp2_with (go_at_call 29; with_reducible refine hcall.mono ?_; rintro e w' ⟨rfl, hb'⟩)
        have hbel := HB.out.trans (hb'.mono HB.out.size)
        go_ret
        refine ⟨_, rfl, ?_, hbel⟩
        rw [decide_eq_true (by omega)]
        exact (List.any_eq_true.2 ⟨x, HMEM.out, HQ.out⟩).symm
      | false =>
        rw [hq] at hcall
        have HQ := Aside0.mk hq
        clear hq
        go_wp2_with (go_at_call 29; with_reducible refine hcall.mono ?_; rintro e w' ⟨rfl, hb'⟩)
        have hbel : Aside0 (Below w.heap.size w w') := ⟨HB.out.trans (hb'.mono HB.out.size)⟩
        clear hb'
        go_roundw
        case rel => exact ⟨i + 1, by omega, by go_num, hbel, ⟨by rw [HTK.out, List.any_append, HA.out]; simp [HQ.out]⟩⟩
        case measure => simp [RowKit.intOf]; omega
    · obtain rfl : i = l0.length := by omega
      have hdi : decide ((l0.length : Int) < (l0.length : Int)) = false := decide_eq_false (by omega)
      have ha := HA.out
      rw [List.take_length] at ha
      have HA2 := Aside0.mk ha
      clear ha
      go_wp2
      go_ret
      exact ⟨_, rfl, by rw [HA2.out]; rfl, HB.out⟩
def okE (l : List S34) : Bool := !l.any badE
def kI : Bool → Int
  | true => 0
  | false => 1
def lack_Check.f (l : List S34) : Option Int := if l.length ≤ 4294967296 ∧ (∀ x ∈ l, TinyE x) then some (kI (okE l)) else none
set_option maxHeartbeats 4000000 in
set_option maxRecDepth 100000 in
theorem lack_Check.calls (A0 : Option Addr) (c0 : Nat) (l0 : List S34) (r : Int) (w : World) (hr0 : Kd.C k34 w A0 l0.length l0) (hc0 : l0.length ≤ c0) (h : lack_Check.f l0 = some r) :
    Calls Tryd.prog 17 #[.slice A0 l0.length c0] w fun e w' => e = .returned (.int .i64 r) ∧ Below w.heap.size w w' := by
  unfold lack_Check.f at h
  split at h
  case isFalse => cases h
  case isTrue hc =>
    injection h with h
    subst h
    obtain ⟨hl, ht⟩ := hc
    have HR0 := Aside0.mk hr0
    have hu24 := Tryd.underlying24
    -- ContainsFunc, in the world that holds the root
    have CF : ∀ (W : World) (B : Nat), Kd.C k34 W A0 l0.length l0 → W.cell? ⟨B, 0, none⟩ = some (.string ⟨#[]⟩) → W.cell? ⟨B, 1, none⟩ = some (.string ⟨#[]⟩) → B < W.heap.size →
        Calls Tryd.prog 28 #[.slice A0 l0.length c0, .func (.func 29) #[] #[.pointer (some ⟨B, 0, none⟩)]] W fun e w' => e = .returned (.bool (l0.any badE)) ∧ Below W.heap.size W w' := by
      intro W B hR h0 h1 hB
      have CI := indexE_calls A0 c0 l0 W hR hl badE B (fun x hx W' hW => chk1_calls x (ht x hx) B W' ((hW.cell (p := ⟨B, 0, none⟩) hB).trans h0) ((hW.cell (p := ⟨B, 1, none⟩) hB).trans h1) (Nat.lt_of_lt_of_le hB hW.size))
      clear hR h0 h1 ht HR0 hr0
      go_enter Tryd.func28, Tryd.ntmps28
      go_wp2_with fail
      refine CI.mono ?_
      rintro e w1 ⟨q, rfl, hq, hb1⟩
      have HB1 := Aside0.mk hb1
      clear hb1 CI
      go_wp2
      go_ret
      exact ⟨rfl, HB1.out⟩
    obtain ⟨b, hb⟩ : ∃ b, b = l0.any badE := ⟨_, rfl⟩
    rw [← hb] at CF
    have hk : kI (okE l0) = kI (!b) := by unfold okE; rw [← hb]
    rw [hk]
    clear hb hk hr0 ht
    go_enter Tryd.func17, Tryd.ntmps17
    go_wp2_with fail
    refine (CF _ w.heap.size (Kd.C_alloc HR0.out _) (by simp [go_sem]) (by simp [go_sem]) (by simp)).mono ?_
    rintro e w1 ⟨rfl, hb1⟩
    have HB1 : Aside0 (Below w.heap.size w w1) := ⟨(below_alloc (Below.refl _ _) _).trans (hb1.mono (by simp))⟩
    clear hb1 CF
    cases b
    · go_wp2
      go_ret
      exact ⟨rfl, HB1.out⟩
    · go_wp2
      go_ret
      exact ⟨rfl, HB1.out⟩
theorem order_val (k : Nat) (x y : S24) (hx : GoodN x) (hy : GoodN y) : node_order.f (k + 3) x.f0 x.f1 y.f0 y.f1 = some (ordN x y) := by
  unfold node_order.f
  by_cases h : (x.f0.toList == y.f0.toList && x.f1.toList == y.f1.toList) = true
  · rw [if_pos h]
    rw [str_eq, str_eq, Bool.and_eq_true, decide_eq_true_eq, decide_eq_true_eq] at h
    have e : x = y := by cases x; cases y; simp only at h; rw [h.1, h.2]
    subst e
    exact congrArg some ((ordN_to.eq x x hx hx).2 rfl).symm
  · rw [if_neg h]
    have hv : version_Cmp.f x.f1 y.f1 = some (verC (vOf (bs x.f1)) (vOf (bs y.f1)), 0) := by
      unfold version_Cmp.f
      rw [if_pos ⟨hx.2.1, hy.2.1⟩, vparts_of hx.2.2, vparts_of hy.2.2]
      rfl
    rw [hv, octcmp_val]
    simp only [Option.bind_some]
    rw [or2_val]
    rfl
end Go.Proofs.YtodkjmbmlobihaaDoor.Q
end

section
namespace Go.Proofs.YtodkjmbmlobihaaDoor.Q
open Go Go.RowKit Go.Lib Go.Proofs.YtodkjmbmlobihaaDoorW.PrintWords Go.Proofs.YtodkjmbmlobihaaDoorW.PrintLast Go.Proofs.YtodkjmbmlobihaaDoorW.PrintMore Gw
set_option linter.unusedVariables false
set_option linter.unusedSimpArgs false
def cmpM (x y : S24) : Int × Int := if mayN x && mayN y then (ordN x y, 0) else (0, 1)
theorem node_Cmp_val (k : Nat) (x y : S24) (hx : Brief x) (hy : Brief y) (hk : 500 ≤ k) : node_Cmp.f k x.f0 x.f1 y.f0 y.f1 = some (cmpM x y) := by
  obtain ⟨j, rfl⟩ : ∃ j, k = j + 3 := ⟨k - 3, by omega⟩
  unfold node_Cmp.f cmpM
  rw [node_May_val _ x hx.tiny (by have := hx.1; omega), node_May_val _ y hy.tiny (by have := hy.1; omega)]
  cases hmx : mayN x
  · rfl
  · cases hmy : mayN y
    · rfl
    · simp only [Option.bind_some, if_true, Bool.and_self]
      rw [order_val j x y (mayN_good hx.tiny hmx) (mayN_good hy.tiny hmy)]
      rfl
end Go.Proofs.YtodkjmbmlobihaaDoor.Q
end

section
namespace Go.Proofs.YtodkjmbmlobihaaDoor.Q
open Go.Proofs.YtodkjmbmlobihaaDoor.QB.D
open Go Go.RowKit Go.Maps Go.Lib Go.Proofs.YtodkjmbmlobihaaDoorW.PrintWords Go.Proofs.YtodkjmbmlobihaaDoorW.PrintLast Go.Proofs.YtodkjmbmlobihaaDoorW.PrintMore Gw
set_option linter.unusedVariables false
set_option linter.unusedSimpArgs false
set_option maxRecDepth 100000
theorem laid_all : laidOutB Tryd.prog = true := by kernel_rfl
theorem keyt_node : Tryd.prog.keyTypeAt 3 24 = true := by kernel_rfl
theorem keyr_node : 24 < Tryd.prog.types.size := Nat.le_of_ble_eq_true (by kernel_rfl)
theorem wide_node : (match Tryd.prog.underlying 24 with | some (.array _ _) | some (.struct _) => true | _ => false) = true := by kernel_rfl
theorem law_node : Keyed Tryd.prog 24 := Keyed.of_law (deep_law_laid laid_all (m := 3) (by omega) keyr_node keyt_node wide_node)
def nkey (x : S24) : Lit := .string (keyBytes [.string x.f0.data.toList, .string x.f1.data.toList])
theorem keyOf_node (x : S24) (hs : x.f0.size ≤ maxLen) (ht : x.f1.size ≤ maxLen) : keyOf Tryd.prog 24 (.agg #[.string x.f0, .string x.f1]) = some (nkey x) := by
  unfold keyOf
  rw [Tryd.underlying24]
  have h1 : Tryd.prog.keyType 24 = true := by kernel_rfl
  have h2 : Tryd.prog.cellsOf 24 = 2 := by kernel_rfl
  have h3 : Tryd.prog.cellsOf 9 = 1 := by kernel_rfl
  obtain ⟨m, h4⟩ : ∃ m, Tryd.prog.types.size = m + 1 := ⟨Tryd.prog.types.size - 1, by have := keyr_node; omega⟩
  have u9 := Tryd.underlying9
  rw [h4]
  simp [h1, Value.formed, Tryd.underlying24, h2, Program.keyLits, h3, u9, Value.cells, hs, ht, nkey]
abbrev NS (x : S24) : Prop := x.f0.size ≤ maxLen ∧ x.f1.size ≤ maxLen
theorem nkey_inj {x y : S24} (hx : NS x) (hy : NS y) : nkey x = nkey y ↔ x = y := by
  refine ⟨fun h => ?_, fun h => by rw [h]⟩
  have e1 := keyOf_node x hx.1 hx.2
  have e2 := keyOf_node y hy.1 hy.2
  rw [← h] at e2
  have e := keyOf_inj_deep (tiled_of_laidOut laid_all 3 _ (by
    simp only [isVar, Bool.and_eq_true, decide_eq_true_eq]
    refine ⟨keyr_node, ?_⟩
    simp [Tryd.underlying24, kindOk]) keyt_node) wide_node e1 e2
  simp only [Value.agg.injEq] at e
  cases x; cases y
  simpa using e
theorem nkey_lit (x : S24) : WideAt.IsKeyLit (nkey x) := by unfold nkey; simp [WideAt.IsKeyLit]
end Go.Proofs.YtodkjmbmlobihaaDoor.Q
end

section
namespace Go.Proofs.YtodkjmbmlobihaaDoor.Q
open Go.RowKit Go.Proofs.YtodkjmbmlobihaaDoorW.PrintWords Go.Proofs.YtodkjmbmlobihaaDoorW.PrintLast Go.Proofs.YtodkjmbmlobihaaDoorW.PrintMore Gw
set_option linter.unusedVariables false
def cutFrom (l : List Nat) (n : Nat) : Nat := n + (cutDash (l.drop n)).1.length
abbrev V4 := ByteArray × ByteArray × ByteArray × List ByteArray × Bool
def zeroV : V4 := (⟨#[]⟩, ⟨#[]⟩, ⟨#[]⟩, [], false)
def SplitPost (v : V4) (w : World) (e : Ending) (w' : World) : Prop := ∃ u : Value, e = .returned (.tuple #[.agg #[.string v.1, .string v.2.1, .string v.2.2.1, u], .bool v.2.2.2.2]) ∧ Kd.R Kd.string 9 w' w.heap.size (fun _ => True) u v.2.2.2.1 ∧ Below w.heap.size w w'
theorem parts_any (s : ByteArray) (hs : Small s) (sep : Nat) (w : World) : Calls Tryd.prog 36 #[.string s, .int .u8 (sep : Int)] w fun e w' => ∃ v, e = .returned v ∧ Kd.R Kd.string 9 w' w.heap.size (fun _ => True) v ((parts sep (bs s)).map ofB) ∧ Below w.heap.size w w' :=
  graftwoodref01_Parts.calls (s.size + 1) s sep _ w (Parts_tot s hs sep _ (by omega))
theorem cutFrom_step {l : List Nat} {n c : Nat} {r : List Nat} (h : l.drop n = c :: r) : cutFrom l n = if c = 45 then n else cutFrom l (n + 1) := by
  have h2 : l.drop (n + 1) = r := by rw [← List.drop_drop, h]; rfl
  unfold cutFrom
  rw [h, h2]
  by_cases hc : c = 45
  · simp [cutDash, hc]
  · simp [cutDash, hc]; omega
theorem may_any (s : ByteArray) (hs : Small s) (w : World) : Calls Tryd.prog 49 #[.string s] w fun e w' => e = .returned (.bool (isNum (bs s))) ∧ Drawn0 w w' :=
  graftwoodref02_May.calls (s.size + 1) s _ w (ref2May_tot s hs _ (by omega))
theorem word_any (s : ByteArray) (hs : Small s) (w : World) : Calls Tryd.prog 50 #[.string s] w fun e w' => e = .returned (.bool (isWord (bs s))) ∧ Drawn0 w w' :=
  graftwoodref03_Word.calls (2 * s.size + 7) s _ w (Word_tot s hs _ (by omega))
theorem parts46 (s : ByteArray) (hs : Small s) (w : World) : Calls Tryd.prog 36 #[.string s, .int .u8 46] w fun e w' => ∃ v, e = .returned v ∧ Kd.R Kd.string 9 w' w.heap.size (fun _ => True) v ((parts 46 (bs s)).map ofB) ∧ Below w.heap.size w w' := parts_any s hs 46 w
theorem R_cells {w : World} {base : Nat} {ok : Nat → Prop} {v : Value} {xs : List ByteArray} (h : Kd.R Kd.string 9 w base ok v xs) (hp : 0 < xs.length) : ∃ g c, v = .slice (some ⟨g, 0, none⟩) xs.length c ∧ base ≤ g ∧ g < w.heap.size ∧ ∀ i (hi : i < xs.length), w.cell? ⟨g, i, none⟩ = some (.string (xs[i])) := by
  obtain ⟨g, cap, rfl, h1, h2, _⟩ := Kd.R_form h hp
  refine ⟨g, cap, rfl, h1, h2, fun i hi => ?_⟩
  obtain ⟨ad, he, hc⟩ := Kd.at_string (Kd.R_reads' h).2.2 (i : Int) (by omega) (by omega)
  injection he with he
  subst he
  rw [add_plain, Int.toNat_natCast] at hc
  rw [hc]
  simp [rdOf, List.getD_eq_getElem?_getD, List.getElem?_eq_getElem hi]
theorem two_blocks {w w1 : World} {A B : Array Value} {t u : TypeId} (hb : Below ((w.alloc (.cells A t)).alloc (.cells B u)).heap.size ((w.alloc (.cells A t)).alloc (.cells B u)) w1) :
    (∀ i, w1.cell? ⟨w.heap.size, i, none⟩ = A[i]?) ∧ (∀ i, w1.cell? ⟨w.heap.size + 1, i, none⟩ = B[i]?) ∧ (∀ i, w1.frozen? ⟨w.heap.size, i, none⟩ = false) ∧ (∀ i, w1.frozen? ⟨w.heap.size + 1, i, none⟩ = false) ∧ w.heap.size + 1 < w1.heap.size := by
  have h1 := (hb.block w.heap.size (by simp; omega)).trans (heap_alloc2_old w (.cells A t) (.cells B u))
  have h2 := (hb.block (w.heap.size + 1) (by simp)).trans (heap_alloc2_new w (.cells A t) (.cells B u))
  exact ⟨blk_cell h1, blk_cell h2, blk_frozen h1, blk_frozen h2, by have := hb.size; simp at this; omega⟩
def splitOf (s : ByteArray) (cut : Nat) : List ByteArray → V4
  | [a, b, c] => if isNum (bs a) && isNum (bs b) && isNum (bs c) then
      if cut = s.size then (a, b, c, [], true)
      else if (parts 46 ((bs s).drop (cut + 1))).all isWord then (a, b, c, (parts 46 ((bs s).drop (cut + 1))).map ofB, true) else zeroV
    else zeroV
  | _ => zeroV
def splitS (s : ByteArray) : V4 := splitOf s (cutFrom (bs s) 0) ((parts 46 (((bs s).take (cutFrom (bs s) 0)).drop 1)).map ofB)
set_option maxHeartbeats 2000000 in
theorem split_go (s : ByteArray) (hs : Small s) (h0 : 0 < s.size) (h1 : bt s 0 = 118) (cut : Nat) (hcut : cutFrom (bs s) 0 = cut) (hc1 : 1 ≤ cut) (hc2 : cut ≤ s.size) (v : V4) (hv : splitS s = v) (w : World) : Calls Tryd.prog 38 #[.string s] w (SplitPost v w) := by
  have hu49 := Tryd.underlying63
  have Hv := Aside0.mk hv
  clear hv
  have hd : ((s.size : Int) == 0) = false := beq_eq_false_iff_ne.2 (by omega)
  have hx9 : ∀ h : 0 < s.size, ((s[0]'h).toNat : Int) = 118 := fun h => by rw [← h1]; exact bt_at s 0 h
  have hq : decide (0 < s.size) = true := decide_eq_true h0
  have hsz : s.size ≤ 4398046511104 := hs
  have Hcut := Aside0.mk hcut
  clear h1 hcut
  go_enter Tryd.func38, Tryd.ntmps38
  go_wp2
  go_loop [5, 6] (fun v5 v6 => ∃ j : Int, -1 ≤ j ∧ j < s.size ∧ v5 = .int .i64 (cutFrom (bs s) (j + 1).toNat : Nat) ∧ v6 = .int .i64 j) (fun _ v6 => (intOf v6 + 1).toNat)
  case atStart =>
    have e : cutFrom (bs s) ((s.size : Int) - 1 + 1).toNat = s.size := by
      rw [show ((s.size : Int) - 1 + 1).toNat = s.size from by omega]
      unfold cutFrom
      rw [List.drop_eq_nil_of_le (by rw [bs_length]; omega)]
      rfl
    exact ⟨(s.size : Int) - 1, by omega, by omega, by rw [e], rfl⟩
  case round =>
    obtain ⟨j, hj1, hj2, rfl, rfl⟩ := hrel
    by_cases hj : 0 ≤ j
    · obtain ⟨m, rfl⟩ := Int.eq_ofNat_of_zero_le hj
      have hm : m < s.size := by omega
      have hdr : (bs s).drop m = (bs s)[m]'(by rw [bs_length]; exact hm) :: (bs s).drop (m + 1) := List.drop_eq_getElem_cons _
      have hst := cutFrom_step hdr
      have hbt := (bt_drop hdr).2.1
      obtain ⟨c, hc⟩ : ∃ c, c = (bs s)[m]'(by rw [bs_length]; exact hm) := ⟨_, rfl⟩
      rw [← hc] at hst hbt
      have hxm : ∀ h : m < s.size, ((s[m]'h).toNat : Int) = (c : Int) := fun h => by rw [← hbt]; exact bt_at s m h
      have Hst := Aside0.mk hst
      have hqm : decide (m < s.size) = true := decide_eq_true hm
      clear hc hst hbt hdr hj1 hj2
      have hj3 : (-1 : Int) ≤ (m : Int) - 1 := by omega
      by_cases h45 : c = 45
      · have hb : ((c : Int) == 45) = true := beq_iff_eq.2 (by omega)
        have H45 := Aside0.mk h45
        clear h45
        go_wp2
        go_round
        case rel => exact ⟨(m : Int) - 1, by omega, by omega, by rw [show ((m : Int) - 1 + 1).toNat = m from by omega, Hst.out, if_pos H45.out], rfl⟩
        case measure => simp [intOf]
      · have hb : ((c : Int) == 45) = false := beq_eq_false_iff_ne.2 (by omega)
        have H45 := Aside0.mk h45
        clear h45
        go_wp2
        go_round
        case rel => exact ⟨(m : Int) - 1, by omega, by omega, by rw [show ((m : Int) - 1 + 1).toNat = m from by omega, Hst.out, if_neg H45.out, show ((m : Int) + 1).toNat = m + 1 from by omega], rfl⟩
        case measure => simp [intOf]
    · obtain rfl : j = -1 := by omega
      rw [show ((-1 : Int) + 1).toNat = 0 from rfl, Hcut.out]
      clear hj1 hj2 hj
      have hc1' : (1 : Int) ≤ (cut : Int) := by omega
      have hc2' : (cut : Int) ≤ (s.size : Int) := by omega
      go_wp2_with fail
      refine (parts46 _ ?_ _).mono ?_
      · unfold Small; simp only [ByteArray.size_extract]; omega
      rintro e w1 ⟨u, rfl, hR, hb⟩
      rw [bs_extract] at hR
      obtain ⟨xs, hxs⟩ : ∃ xs, xs = (parts 46 (((bs s).take cut).drop 1)).map ofB := ⟨_, rfl⟩
      rw [← hxs] at hR
      have hsp : splitS s = splitOf s cut xs := by unfold splitS; rw [Hcut.out, ← hxs]
      rw [Hv.out] at hsp
      have hxl : ∀ x ∈ xs, Small x := fun x hx => by
        rw [hxs, ← bs_extract] at hx
        refine ((parts_small (s := s.extract 1 cut) ?_ 46).2 x hx).1
        unfold Small; simp only [ByteArray.size_extract]; omega
      clear hxs Hcut Hv
      obtain ⟨kc2, kc4, kf2, kf4, hz⟩ := two_blocks hb
      have hB : Below w.heap.size w w1 := ((((Below.refl _ _).alloc (Nat.le_refl _) _).alloc (by simp) _).trans (hb.mono (by simp; omega)))
      have HB := Aside0.mk hB
      clear hB hb
      by_cases h3 : xs.length = 3
      · obtain ⟨x0, x1, x2, rfl⟩ : ∃ a b c, xs = [a, b, c] := by
          match xs, h3 with
          | [a, b, c], _ => exact ⟨a, b, c, rfl⟩
        obtain ⟨g, cap, rfl, hg1, hg2, hcs⟩ := R_cells hR (by simp)
        have hcx0 : w1.cell? ⟨g, 0, none⟩ = some (.string x0) := hcs 0 (by simp)
        have hcx1 : w1.cell? ⟨g, 1, none⟩ = some (.string x1) := hcs 1 (by simp)
        have hcx2 : w1.cell? ⟨g, 2, none⟩ = some (.string x2) := hcs 2 (by simp)
        have hs0 : Small x0 := hxl x0 (by simp)
        have hs1 : Small x1 := hxl x1 (by simp)
        have hs2 : Small x2 := hxl x2 (by simp)
        simp only [splitOf] at hsp
        generalize hb0 : isNum (bs x0) = b0 at hsp
        generalize hb1 : isNum (bs x1) = b1 at hsp
        generalize hb2 : isNum (bs x2) = b2 at hsp
        have B0 := Aside0.mk hb0
        have B1 := Aside0.mk hb1
        have B2 := Aside0.mk hb2
        have Hsp := Aside0.mk hsp
        clear hsp h3 hxl hcs hb0 hb1 hb2
        go_wp2_with fail
        refine (may_any x0 hs0 _).mono ?_
        rintro e w2 ⟨rfl, ⟨n2, rfl⟩⟩
        rw [B0.out]
        cases b0
        · have hvz : v = zeroV := Hsp.out
          subst hvz
          go_wp2
          exact bodyPost_ret (v := .tuple #[.agg #[.string ⟨#[]⟩, .string ⟨#[]⟩, .string ⟨#[]⟩, .slice none 0 0], .bool false]) (by simp [results, Tryd.results38, go_sem, kc2]) rfl ⟨_, rfl, Kd.R_nil _ _ _ _ _, by repeat (with_reducible first | exact HB.out | refine below_set ?_ (by omega) | refine pw_below_drewN ?_ _ | refine below_drew ?_)⟩
        go_wp2_with fail
        refine (may_any x1 hs1 _).mono ?_
        rintro e w3 ⟨rfl, ⟨n3, rfl⟩⟩
        rw [B1.out]
        cases b1
        · have hvz : v = zeroV := Hsp.out
          subst hvz
          go_wp2
          exact bodyPost_ret (v := .tuple #[.agg #[.string ⟨#[]⟩, .string ⟨#[]⟩, .string ⟨#[]⟩, .slice none 0 0], .bool false]) (by simp [results, Tryd.results38, go_sem, kc2]) rfl ⟨_, rfl, Kd.R_nil _ _ _ _ _, by repeat (with_reducible first | exact HB.out | refine below_set ?_ (by omega) | refine pw_below_drewN ?_ _ | refine below_drew ?_)⟩
        go_wp2_with fail
        refine (may_any x2 hs2 _).mono ?_
        rintro e w4 ⟨rfl, ⟨n4, rfl⟩⟩
        rw [B2.out]
        cases b2
        · have hvz : v = zeroV := Hsp.out
          subst hvz
          go_wp2
          exact bodyPost_ret (v := .tuple #[.agg #[.string ⟨#[]⟩, .string ⟨#[]⟩, .string ⟨#[]⟩, .slice none 0 0], .bool false]) (by simp [results, Tryd.results38, go_sem, kc2]) rfl ⟨_, rfl, Kd.R_nil _ _ _ _ _, by repeat (with_reducible first | exact HB.out | refine below_set ?_ (by omega) | refine pw_below_drewN ?_ _ | refine below_drew ?_)⟩
        by_cases hcs : cut = s.size
        · have e77 : ((cut : Int) == (s.size : Int)) = true := beq_iff_eq.2 (by omega)
          have hvz : v = (x0, x1, x2, [], true) := Hsp.out.trans (if_pos hcs)
          subst hvz
          clear hcs
          go_wp2_with fail
          go_region
          go_wp2_with fail
          exact bodyPost_ret (v := .tuple #[.agg #[.string x0, .string x1, .string x2, .slice none 0 0], .bool true]) (by simp [results, Tryd.results38, go_sem, kc2]) rfl ⟨_, rfl, Kd.R_nil _ _ _ _ _, by repeat (with_reducible first | exact HB.out | refine below_set ?_ (by omega) | refine pw_below_drewN ?_ _ | refine below_drew ?_)⟩
        have e77 : ((cut : Int) == (s.size : Int)) = false := beq_eq_false_iff_ne.2 (by omega)
        have hv2 : v = if (parts 46 ((bs s).drop (cut + 1))).all isWord then (x0, x1, x2, (parts 46 ((bs s).drop (cut + 1))).map ofB, true) else zeroV := Hsp.out.trans (if_neg hcs)
        have HV2 := Aside0.mk hv2
        have hlt : (cut : Int) + 1 ≤ (s.size : Int) := by omega
        have hle : cut + 1 ≤ s.size := by omega
        clear hcs hv2 Hsp
        go_wp2_with fail
        go_region
        go_wp2_with fail
        refine (parts46 _ ?_ _).mono ?_
        · unfold Small; simp only [ByteArray.size_extract]; omega
        rintro e w5 ⟨u5, rfl, hR5, hb5⟩
        have e5 : bs (s.extract (cut + 1) s.size) = (bs s).drop (cut + 1) := by rw [bs_extract, List.take_of_length_le (by rw [bs_length]; omega)]
        rw [e5] at hR5
        have hss : ∀ x ∈ (parts 46 ((bs s).drop (cut + 1))).map ofB, Small x := fun x hx => by
          rw [← e5] at hx
          refine ((parts_small (s := s.extract (cut + 1) s.size) ?_ 46).2 x hx).1
          unfold Small; simp only [ByteArray.size_extract]; omega
        have hall : ((parts 46 ((bs s).drop (cut + 1))).map ofB).all (fun x => isWord (bs x)) = (parts 46 ((bs s).drop (cut + 1))).all isWord := by rw [← e5]; exact parts_all _ _ _
        obtain ⟨q, qs, hq2⟩ := parts_cons 46 ((bs s).drop (cut + 1))
        have hne : 0 < ((parts 46 ((bs s).drop (cut + 1))).map ofB).length := by rw [hq2]; simp
        have hyl : ((parts 46 ((bs s).drop (cut + 1))).map ofB).length ≤ 8796093022208 := by
          have := (parts_small (s := s.extract (cut + 1) s.size) (by unfold Small; simp only [ByteArray.size_extract]; omega) 46).1
          rw [← e5]; simp only [ByteArray.size_extract] at this; omega
        generalize (parts 46 ((bs s).drop (cut + 1))).map ofB = ys at hR5 hss hall HV2 hne hyl
        clear hq2 e5
        obtain ⟨g5, cap5, rfl, hg51, hg52, hc5⟩ := R_cells hR5 hne
        have hz5 : w.heap.size + 1 < w5.heap.size := by have := hb5.size; simp at this; omega
        have hg5 : w.heap.size + 1 < g5 := by simp at hg51; omega
        have m40 : w5.cell? ⟨w.heap.size + 1, 0, none⟩ = some (.string x0) := (hb5.cell (p := ⟨w.heap.size + 1, 0, none⟩) (by simp; omega)).trans (by simp [go_sem, kc4])
        have m41 : w5.cell? ⟨w.heap.size + 1, 1, none⟩ = some (.string x1) := (hb5.cell (p := ⟨w.heap.size + 1, 1, none⟩) (by simp; omega)).trans (by simp [go_sem, kc4])
        have m42 : w5.cell? ⟨w.heap.size + 1, 2, none⟩ = some (.string x2) := (hb5.cell (p := ⟨w.heap.size + 1, 2, none⟩) (by simp; omega)).trans (by simp [go_sem, kc4])
        have m43 : w5.cell? ⟨w.heap.size + 1, 3, none⟩ = some (.slice none 0 0) := (hb5.cell (p := ⟨w.heap.size + 1, 3, none⟩) (by simp; omega)).trans (by simp [go_sem, kc4])
        have m20 : w5.cell? ⟨w.heap.size, 0, none⟩ = some (.string ⟨#[]⟩) := (hb5.cell (p := ⟨w.heap.size, 0, none⟩) (by simp; omega)).trans (by simp [go_sem, kc2])
        have m21 : w5.cell? ⟨w.heap.size, 1, none⟩ = some (.string ⟨#[]⟩) := (hb5.cell (p := ⟨w.heap.size, 1, none⟩) (by simp; omega)).trans (by simp [go_sem, kc2])
        have m22 : w5.cell? ⟨w.heap.size, 2, none⟩ = some (.string ⟨#[]⟩) := (hb5.cell (p := ⟨w.heap.size, 2, none⟩) (by simp; omega)).trans (by simp [go_sem, kc2])
        have m23 : w5.cell? ⟨w.heap.size, 3, none⟩ = some (.slice none 0 0) := (hb5.cell (p := ⟨w.heap.size, 3, none⟩) (by simp; omega)).trans (by simp [go_sem, kc2])
        have f43 := (hb5.frozen (p := ⟨w.heap.size + 1, 3, none⟩) (by simp; omega)).trans (show _ = false by simp [kf4])
        have f20 := (hb5.frozen (p := ⟨w.heap.size, 0, none⟩) (by simp; omega)).trans (show _ = false by simp [kf2])
        have f21 := (hb5.frozen (p := ⟨w.heap.size, 1, none⟩) (by simp; omega)).trans (show _ = false by simp [kf2])
        have f22 := (hb5.frozen (p := ⟨w.heap.size, 2, none⟩) (by simp; omega)).trans (show _ = false by simp [kf2])
        have f23 := (hb5.frozen (p := ⟨w.heap.size, 3, none⟩) (by simp; omega)).trans (show _ = false by simp [kf2])
        have HB5 := Aside0.mk ((by repeat (with_reducible first | exact HB.out | refine below_set ?_ (by omega) | refine pw_below_drewN ?_ _ | refine below_drew ?_) : Below w.heap.size w _).trans (hb5.mono (by simp; omega)))
        have HR5 := Aside0.mk (Kd.R_lower hR5 (by simp; omega : w.heap.size ≤ _))
        clear hb5 hR5 hg51 kc2 kc4 kf2 kf4 HB hcx0 hcx1 hcx2 hz hg1 hg2
        have hyl2 : (ys.length : Int) ≤ 8796093022208 := by omega
        go_wp2_with fail
        generalize hw6 : w5.setCell ⟨w.heap.size + 1, 3, none⟩ (.slice (some ⟨g5, 0, none⟩) ys.length cap5) = w6
        have q43 : w6.cell? ⟨w.heap.size + 1, 3, none⟩ = some (.slice (some ⟨g5, 0, none⟩) ys.length cap5) := by rw [← hw6]; simp [go_sem, m43]
        have q40 : w6.cell? ⟨w.heap.size + 1, 0, none⟩ = some (.string x0) := by rw [← hw6]; simp [go_sem, m40]
        have q41 : w6.cell? ⟨w.heap.size + 1, 1, none⟩ = some (.string x1) := by rw [← hw6]; simp [go_sem, m41]
        have q42 : w6.cell? ⟨w.heap.size + 1, 2, none⟩ = some (.string x2) := by rw [← hw6]; simp [go_sem, m42]
        have q20 : w6.cell? ⟨w.heap.size, 0, none⟩ = some (.string ⟨#[]⟩) := by rw [← hw6]; simp [go_sem, m20]
        have q21 : w6.cell? ⟨w.heap.size, 1, none⟩ = some (.string ⟨#[]⟩) := by rw [← hw6]; simp [go_sem, m21]
        have q22 : w6.cell? ⟨w.heap.size, 2, none⟩ = some (.string ⟨#[]⟩) := by rw [← hw6]; simp [go_sem, m22]
        have q23 : w6.cell? ⟨w.heap.size, 3, none⟩ = some (.slice none 0 0) := by rw [← hw6]; simp [go_sem, m23]
        have g20 : w6.frozen? ⟨w.heap.size, 0, none⟩ = false := by rw [← hw6]; simp [go_sem, f20]
        have g21 : w6.frozen? ⟨w.heap.size, 1, none⟩ = false := by rw [← hw6]; simp [go_sem, f21]
        have g22 : w6.frozen? ⟨w.heap.size, 2, none⟩ = false := by rw [← hw6]; simp [go_sem, f22]
        have g23 : w6.frozen? ⟨w.heap.size, 3, none⟩ = false := by rw [← hw6]; simp [go_sem, f23]
        have hz6 : w.heap.size + 1 < w6.heap.size := by rw [← hw6]; simp; exact hz5
        have q5 : ∀ i (hi : i < ys.length), w6.cell? ⟨g5, i, none⟩ = some (.string (ys[i])) := fun i hi => by rw [← hw6, World.cell?_setCell_other _ _ _ _ (by first | (simp; done) | (simp; omega))]; exact hc5 i hi
        have HB6 : Aside0 (Below w.heap.size w w6) := ⟨by rw [← hw6]; exact below_set HB5.out (by omega)⟩
        have HR6 : Aside0 (Kd.R Kd.string 9 w6 w.heap.size (fun k => some k = (Value.slice (some ⟨g5, 0, none⟩) ys.length cap5).ownBlock) (.slice (some ⟨g5, 0, none⟩) ys.length cap5) ys) := ⟨by
          rw [← hw6]
          exact Kd.R_far (p := ⟨w.heap.size + 1, 3, none⟩) (Kd.R_tight rfl HR5.out) (fun k hk => by simp [Value.ownBlock] at hk; simp; omega) _⟩
        have Q5 := Aside0.mk q5
        clear q5 hw6 m40 m41 m42 m43 m20 m21 m22 m23 f43 f20 f21 f22 f23 HB5 HR5 hc5 hz5
        go_loopw [8] (fun v8 wr => ∃ i n : Nat, i ≤ ys.length ∧ v8 = .int .i64 (i : Int) ∧ wr = w6.drewN n ∧ Aside0 ((ys.take i).all (fun x => isWord (bs x)) = true)) (fun v8 _ => ys.length - (intOf v8).toNat)
        case atStart => exact ⟨0, 0, Nat.zero_le _, rfl, rfl, ⟨rfl⟩⟩
        case round =>
          obtain ⟨i, n, hi, rfl, rfl, hA⟩ := hrel
          by_cases hil : i < ys.length
          · have hce := Q5.out i hil
            have hsx := hss _ (List.getElem_mem hil)
            have hi0 : (i : Int) < (ys.length : Int) := by omega
            have hi1 : decide ((i : Int) < (ys.length : Int)) = true := decide_eq_true hi0
            have htk : ys.take (i + 1) = ys.take i ++ [ys[i]] := List.take_succ_eq_append_getElem hil
            have hmem : ys[i] ∈ ys := List.getElem_mem hil
            have Hmem := Aside0.mk hmem
            have Htk := Aside0.mk htk
            obtain ⟨y, hy⟩ : ∃ y, y = ys[i] := ⟨_, rfl⟩
            rw [← hy] at hce hsx Htk Hmem
            clear hmem htk hy
            go_wp2_with fail
            refine (word_any y hsx _).mono ?_
            rintro e w7 ⟨rfl, ⟨n7, rfl⟩⟩
            generalize hwy : isWord (bs y) = b7
            have Hwy := Aside0.mk hwy
            clear hwy
            cases b7
            · have hvz : v = zeroV := by
                have hno : ys.all (fun x => isWord (bs x)) = false := by
                  rw [List.all_eq_false]
                  exact ⟨y, Hmem.out, by rw [Hwy.out]; decide⟩
                have := HV2.out
                rw [← hall, hno] at this
                exact this
              subst hvz
              go_wp2
              exact bodyPost_ret (v := .tuple #[.agg #[.string ⟨#[]⟩, .string ⟨#[]⟩, .string ⟨#[]⟩, .slice none 0 0], .bool false]) (by simp [results, Tryd.results38, go_sem, q20, q21, q22, q23]) rfl ⟨_, rfl, Kd.R_nil _ _ _ _ _, by repeat (with_reducible first | exact HB6.out | refine below_set ?_ (by omega) | refine pw_below_drewN ?_ _ | refine below_drew ?_)⟩
            · go_wp2
              go_roundw
              case rel => exact ⟨i + 1, n + n7, by omega, by go_num, by simp, ⟨by rw [Htk.out, List.all_append, hA.out]; simp [Hwy.out]⟩⟩
              case measure => simp [intOf]; omega
          · obtain rfl : i = ys.length := by omega
            have hi1 : decide ((ys.length : Int) < (ys.length : Int)) = false := decide_eq_false (by omega)
            have hvz : v = (x0, x1, x2, ys, true) := by
              have h2 := hA.out
              rw [List.take_length] at h2
              have := HV2.out
              rw [← hall, h2] at this
              exact this
            subst hvz
            have hk : ∀ k, some k = (Value.slice (some ⟨g5, 0, none⟩) ys.length cap5).ownBlock → k ≠ w.heap.size := fun k hk => by simp [Value.ownBlock] at hk; omega
            have Hk := Aside0.mk hk
            clear hk
            go_wp2
            exact bodyPost_ret (v := .tuple #[.agg #[.string x0, .string x1, .string x2, .slice (some ⟨g5, 0, none⟩) ys.length cap5], .bool true]) (by simp [results, Tryd.results38, go_sem, q20, q21, q22, q23]) rfl ⟨_, rfl, Kd.R_mono (Kd.R_far (p := ⟨w.heap.size, 3, none⟩) (Kd.R_far (p := ⟨w.heap.size, 2, none⟩) (Kd.R_far (p := ⟨w.heap.size, 1, none⟩) (Kd.R_far (p := ⟨w.heap.size, 0, none⟩) (Kd.R_drewN HR6.out _) Hk.out _) Hk.out _) Hk.out _) Hk.out _) (fun _ _ => trivial), by repeat (with_reducible first | exact HB6.out | refine below_set ?_ (by omega) | refine pw_below_drewN ?_ _ | refine below_drew ?_)⟩
      · have hl3 : ((xs.length : Int) != 3) = true := bne_iff_ne.2 (by omega)
        have hvz : v = zeroV := by
          rw [hsp]
          match xs, h3 with
          | [], _ => rfl
          | [_], _ => rfl
          | [_, _], _ => rfl
          | [_, _, _], h => exact absurd rfl h
          | _ :: _ :: _ :: _ :: _, _ => rfl
        subst hvz
        obtain ⟨A, c, rfl⟩ := Kd.R_slice hR
        clear hsp h3 hxl hR
        go_wp2
        exact bodyPost_ret (v := .tuple #[.agg #[.string ⟨#[]⟩, .string ⟨#[]⟩, .string ⟨#[]⟩, .slice none 0 0], .bool false]) (by simp [results, Tryd.results38, go_sem, kc2]) rfl ⟨_, rfl, Kd.R_nil _ _ _ _ _, by repeat (with_reducible first | exact HB.out | refine below_set ?_ (by omega) | refine pw_below_drewN ?_ _ | refine below_drew ?_)⟩
set_option maxHeartbeats 1000000 in
theorem split_empty (s : ByteArray) (h0 : s.size = 0) (w : World) : Calls Tryd.prog 38 #[.string s] w (SplitPost zeroV w) := by
  have hu49 := Tryd.underlying63
  have hd : ((s.size : Int) == 0) = true := by rw [h0]; rfl
  have Hh := Aside0.mk h0
  clear h0
  go_enter Tryd.func38, Tryd.ntmps38
  go_wp2
  exact bodyPost_ret (v := .tuple #[.agg #[.string ⟨#[]⟩, .string ⟨#[]⟩, .string ⟨#[]⟩, .slice none 0 0], .bool false]) (by simp [results, Tryd.results38, go_sem]) rfl ⟨_, rfl, Kd.R_nil _ _ _ _ _, ((Below.refl _ _).alloc (Nat.le_refl _) _).alloc (by simp) _⟩
set_option maxHeartbeats 1000000 in
theorem split_other (s : ByteArray) (h0 : 0 < s.size) (c : Int) (hc : bt s 0 = c) (h1 : (c != 118) = true) (w : World) : Calls Tryd.prog 38 #[.string s] w (SplitPost zeroV w) := by
  have hu49 := Tryd.underlying63
  have hd : ((s.size : Int) == 0) = false := beq_eq_false_iff_ne.2 (by omega)
  have hx9 : ∀ h : 0 < s.size, ((s[0]'h).toNat : Int) = c := fun h => by rw [← hc]; exact bt_at s 0 h
  clear hc
  go_enter Tryd.func38, Tryd.ntmps38
  go_wp2
  exact bodyPost_ret (v := .tuple #[.agg #[.string ⟨#[]⟩, .string ⟨#[]⟩, .string ⟨#[]⟩, .slice none 0 0], .bool false]) (by simp [results, Tryd.results38, go_sem]) rfl ⟨_, rfl, Kd.R_nil _ _ _ _ _, ((Below.refl _ _).alloc (Nat.le_refl _) _).alloc (by simp) _⟩
def splitV (s : ByteArray) : V4 := if bs s = [] then zeroV else if (bs s).head? = some 118 then splitS s else zeroV
theorem cutFrom_le (l : List Nat) : cutFrom l 0 ≤ l.length := by
  unfold cutFrom
  simp only [Nat.zero_add, List.drop_zero]
  induction l with
  | nil => simp [cutDash]
  | cons c r ih =>
    by_cases hc : c = 45
    · simp [cutDash, hc]
    · simp [cutDash, hc]; exact ih
theorem Split_any (s : ByteArray) (hs : Small s) (w : World) : Calls Tryd.prog 38 #[.string s] w (SplitPost (splitV s) w) := by
  unfold splitV
  cases hb : bs s with
  | nil =>
    have h0 : s.size = 0 := by rw [← bs_length, hb]; rfl
    rw [if_pos rfl]
    exact split_empty s h0 w
  | cons c r =>
    have h0 : s.size = r.length + 1 := by rw [← bs_length, hb]; rfl
    have hd : (bs s).drop 0 = c :: r := by simpa using hb
    have hc := (bt_drop hd).2.1
    rw [show ((0 : Nat) : Int) = 0 from rfl] at hc
    rw [if_neg (by simp)]
    by_cases h : c = 118
    · subst h
      rw [if_pos (by simp)]
      refine split_go s hs (by omega) hc _ rfl ?_ ?_ _ rfl w
      · rw [cutFrom_step hd, if_neg (by decide)]; unfold cutFrom; omega
      · have := cutFrom_le (bs s); rw [bs_length] at this; exact this
    · rw [if_neg (by simp; exact h)]
      exact split_other s (by omega) c hc (by rw [bne_iff_ne]; omega) w
def graftwoodref03_Split.f (a0 : ByteArray) : Option V4 := if Small a0 then some (splitV a0) else none
theorem graftwoodref03_Split.calls (a0 : ByteArray) (r1 : ByteArray) (r2 : ByteArray) (r3 : ByteArray) (r4 : List ByteArray) (r5 : Bool) (w : World) (h : graftwoodref03_Split.f a0 = some (r1, r2, r3, r4, r5)) :
    Calls Tryd.prog 38 #[.string a0] w fun e w' => ∃ v3_ : Value, e = .returned (.tuple #[.agg #[.string r1, .string r2, .string r3, v3_], .bool r5]) ∧ Kd.R Kd.string 9 w' w.heap.size (fun _ => True) v3_ r4 ∧ Below w.heap.size w w' := by
  unfold graftwoodref03_Split.f at h
  by_cases hs : Small a0
  · rw [if_pos hs] at h
    have := Split_any a0 hs w
    rw [Option.some.inj h] at this
    exact this
  · rw [if_neg hs] at h
    cases h
end Go.Proofs.YtodkjmbmlobihaaDoor.Q
end

section
namespace Go.Proofs.YtodkjmbmlobihaaDoor.Q
open Go.RowKit Go.Proofs.YtodkjmbmlobihaaDoorW.PrintWords Go.Proofs.YtodkjmbmlobihaaDoorW.PrintLast Go.Proofs.YtodkjmbmlobihaaDoorW.PrintMore
attribute [local go_sem] max2_int min2_int max_two min_two max_three min_three max_four min_four   -- for this text's walks alone
set_option linter.unusedVariables false
set_option linter.unusedSimpArgs false
attribute [local go_sem high] eqA24
/-! ### graftwoodref03_May: function 24 -/
def graftwoodref03_May.f (a0 : ByteArray) : Option (Bool) := (graftwoodref03_Split.f a0).bind fun bt272 => (some bt272.2.2.2.2)
set_option maxHeartbeats 8000000 in
set_option maxRecDepth 100000 in
theorem graftwoodref03_May.calls (a0 : ByteArray) (r : Bool) (w : World) (h : graftwoodref03_May.f a0 = some r) :
    Calls Tryd.prog 24 #[.string a0] w fun e w' => e = .returned (.bool r) ∧ Below w.heap.size w w' := by
  have hu63 := Tryd.underlying63
  have HB := Aside0.mk (Below.refl w.heap.size w)
  have H : ((graftwoodref03_Split.f a0).bind fun bt272 => (some bt272.2.2.2.2)) = some r := h
  clear h
  replace H := Option.bind_eq_some_iff.mp H
  obtain ⟨⟨t272, t273, t274, t275, t278⟩, A20, H⟩ := H
  replace H : (some t278) = some r := H
  have A2 := Aside0.mk A20
  clear A20
  obtain rfl := Option.some.inj H
  go_enter Tryd.func24, Tryd.ntmps24
  go_wp2_with (first | ((with_reducible refine gate_callee (f := 38) rfl ?_); refine goesL_ (some 7) rfl rfl Tryd.func38 (by kernel_rfl) rfl #[.string a0] rfl (by (try simp only [List.map_toArray, List.map_cons, List.map_nil]); first | done | rfl | (simp only [List.length_drop, List.length_take]; rfl)) ?_; (with_reducible refine (graftwoodref03_Split.calls a0 t272 t273 t274 t275 t278 _ A2.out).mono ?_); rintro e w3 ⟨v276, rfl, ho0, hb⟩; refine ⟨_, rfl, ?_⟩; have n0_ := Aside0.mk (Kd.R_lower ho0 (below_size (by repeat (first | (with_reducible first | exact HB.out | apply below_alloc | apply pw_below_drewN | apply below_drew1) | exact HB.out)))); have n1_ := Aside0.mk (below_step (by repeat (first | (with_reducible first | exact HB.out | apply below_alloc | apply pw_below_drewN | apply below_drew1) | exact HB.out)) hb); clear HB; have HO277 := n0_; have HB := n1_; clear n0_ n1_; (try clear hb); (try clear hb2); (try clear hk); (try clear hi); (try clear ho0)) | ((with_reducible refine gate_dst (N := 3) rfl ?_); refine box_event ?hg (N := 3) ?hd (cs := #[.string (⟨#[]⟩ : ByteArray), .string (⟨#[]⟩ : ByteArray), .string (⟨#[]⟩ : ByteArray), .slice none 0 0]) (t := 63) ?hr ?_; (case hd => rfl); (case hg => rfl); (case hr => first | (go_simp; done) | (go_simp; rfl)); intro gb279 hg w4 hbox hb; have n0_ := Aside0.mk (Kd.R_below (by (with_reducible repeat (first | apply Kd.R_alloc | apply Kd.R_drewN | apply Kd.R_drew)); exact HO277.out) hb); have n1_ := Aside0.mk (below_step (by repeat (first | (with_reducible first | exact HB.out | apply below_alloc | apply pw_below_drewN | apply below_drew1) | exact HB.out)) hb); have n2_ := Aside0.mk (hbox); have n3_ := Aside0.mk ((by rw [hg]; exact (below_size (by repeat (first | (with_reducible first | exact HB.out | apply below_alloc | apply pw_below_drewN | apply below_drew1) | exact HB.out))) : w.heap.size ≤ gb279)); have n4_ := Aside0.mk ((by rw [hg]; exact (below_size (by repeat (first | (with_reducible first | exact HB.out | apply below_alloc | apply pw_below_drewN | apply below_drew1) | exact HB.out))) : w.heap.size ≤ gb279)); clear HO277; clear HB; have HO277 := n0_; have HB := n1_; have BK279 := n2_; have GW279 := n3_; have GE279 := n4_; clear n0_ n1_ n2_ n3_ n4_; clear hb hbox hg; have hcz5_0 : w4.cell? ⟨gb279, 0, none⟩ = some (.string (⟨#[]⟩ : ByteArray)) := (blk_cell BK279.out 0).trans rfl; have hcz5_1 : w4.cell? ⟨gb279, 1, none⟩ = some (.string (⟨#[]⟩ : ByteArray)) := (blk_cell BK279.out 1).trans rfl; have hcz5_2 : w4.cell? ⟨gb279, 2, none⟩ = some (.string (⟨#[]⟩ : ByteArray)) := (blk_cell BK279.out 2).trans rfl; have hcz5_3 : w4.cell? ⟨gb279, 3, none⟩ = some (.slice none 0 0) := (blk_cell BK279.out 3).trans rfl; have hfz5_0 := blk_frozen BK279.out 0; have hfz5_1 := blk_frozen BK279.out 1; have hfz5_2 := blk_frozen BK279.out 2; have hfz5_3 := blk_frozen BK279.out 3; obtain ⟨Ao6, co6, eo6⟩ := Kd.R_slice HO277.out; subst eo6))
  go_ret
  exact ⟨by first | rfl | (simp [errW_none, errW_some] <;> rfl) | (simp [*, errW_none, errW_some] <;> rfl), by repeat (first | (with_reducible first | exact HB.out | apply below_alloc | apply pw_below_drewN | apply below_drew1 | refine below_set ?_ GE279.out) | exact HB.out)⟩
/-! ### graftwoodref05_May: function 13 -/
def graftwoodref05_May.f (k : Nat) (a0_0 : ByteArray) (a0_1 : ByteArray) : Option (Bool) := (graftwoodref04_May.f k a0_0).bind fun t281 => (if t281 = true then ((graftwoodref03_May.f a0_1).bind fun t282 => (some t282)) else (some false))
theorem graftwoodref05_May.mono : ∀ a0 a1 k, LeO (graftwoodref05_May.f k a0 a1) (graftwoodref05_May.f (k + 1) a0 a1) := by
  intro a0 a1 k
  unfold graftwoodref05_May.f
  repeat' first
      | (with_reducible exact graftwoodref04_May.mono _ _)
      | (with_reducible exact LeO.refl _)
      | (with_reducible exact LeO.none _)
      | (with_reducible refine LeO.ite ?_ ?_)
      | (with_reducible refine LeO.bind ?_ (fun _ => ?_))
      | exact graftwoodref04_May.mono _ _
      | exact LeO.none _
      | refine LeO.ite ?_ ?_
      | refine LeO.bind ?_ (fun _ => ?_)
set_option maxHeartbeats 8000000 in
set_option maxRecDepth 100000 in
theorem graftwoodref05_May.calls (k : Nat) (a0_0 : ByteArray) (a0_1 : ByteArray) (r : Bool) (w : World) (h : graftwoodref05_May.f k a0_0 a0_1 = some r) :
    Calls Tryd.prog 13 #[.agg #[.string a0_0, .string a0_1]] w fun e w' => e = .returned (.bool r) ∧ Below w.heap.size w w' := by
  have hu24 := Tryd.underlying24
  have HB := Aside0.mk (Below.refl w.heap.size w)
  have H : ((graftwoodref04_May.f k a0_0).bind fun t281 => (if t281 = true then ((graftwoodref03_May.f a0_1).bind fun t282 => (some t282)) else (some false))) = some r := h
  clear h
  replace H := Option.bind_eq_some_iff.mp H
  obtain ⟨t281, A20, H⟩ := H
  replace H : (if t281 = true then ((graftwoodref03_May.f a0_1).bind fun t282 => (some t282)) else (some false)) = some r := H
  have A2 := Aside0.mk A20
  clear A20
  by_cases c3 : t281 = true
  · subst c3
    have H1 : ((graftwoodref03_May.f a0_1).bind fun t282 => (some t282)) = some r := by rw [if_pos rfl] at H; exact H
    clear H
    have H := H1
    clear H1
    replace H := Option.bind_eq_some_iff.mp H
    obtain ⟨t282, A40, H⟩ := H
    replace H : (some t282) = some r := H
    have A4 := Aside0.mk A40
    clear A40
    obtain rfl := Option.some.inj H
    go_enter Tryd.func13, Tryd.ntmps13
    go_wp2_with (first | ((with_reducible refine gate_dst (N := 1) rfl ?_); refine box_event ?hg (N := 1) ?hd (cs := #[.string a0_0, .string a0_1]) (t := 24) ?hr ?_; (case hd => rfl); (case hg => rfl); (case hr => first | (go_simp; done) | (go_simp; rfl)); intro gb280 hg w5 hbox hb; have n0_ := Aside0.mk (below_step (by repeat (first | (with_reducible first | exact HB.out | apply below_alloc | apply pw_below_drewN | apply below_drew1) | exact HB.out)) hb); have n1_ := Aside0.mk (hbox); have n2_ := Aside0.mk ((by rw [hg]; exact (below_size (by repeat (first | (with_reducible first | exact HB.out | apply below_alloc | apply pw_below_drewN | apply below_drew1) | exact HB.out))) : w.heap.size ≤ gb280)); have n3_ := Aside0.mk ((by rw [hg]; exact (below_size (by repeat (first | (with_reducible first | exact HB.out | apply below_alloc | apply pw_below_drewN | apply below_drew1) | exact HB.out))) : w.heap.size ≤ gb280)); clear HB; have HB := n0_; have BK280 := n1_; have GW280 := n2_; have GE280 := n3_; clear n0_ n1_ n2_ n3_; clear hb hbox hg; have hcz6_0 : w5.cell? ⟨gb280, 0, none⟩ = some (.string a0_0) := (blk_cell BK280.out 0).trans rfl; have hcz6_1 : w5.cell? ⟨gb280, 1, none⟩ = some (.string a0_1) := (blk_cell BK280.out 1).trans rfl; have hfz6_0 := blk_frozen BK280.out 0; have hfz6_1 := blk_frozen BK280.out 1) | ((with_reducible refine gate_callee (f := 23) rfl ?_); refine goesL_ (some 5) rfl rfl Tryd.func23 (by kernel_rfl) rfl #[.string a0_0] rfl (by (try simp only [List.map_toArray, List.map_cons, List.map_nil]); first | done | rfl | (simp only [List.length_drop, List.length_take]; rfl)) ?_; (with_reducible refine (graftwoodref04_May.calls k a0_0 true _ A2.out).mono ?_); rintro e w7 ⟨rfl, hb⟩; refine ⟨_, rfl, ?_⟩; have n0_ := Aside0.mk (blk_below (g := gb280) (o := .cells #[.string a0_0, .string a0_1] 24 (0, 0)) (by (with_reducible repeat (first | refine blk_drewN ?_ _ | refine blk_drew ?_ | refine blk_alloc ?_ _)); exact BK280.out) hb); have n1_ := Aside0.mk (below_step (by repeat (first | (with_reducible first | exact HB.out | apply below_alloc | apply pw_below_drewN | apply below_drew1 | refine below_set ?_ GE280.out) | exact HB.out)) hb); clear BK280; clear HB; have BK280 := n0_; have HB := n1_; clear n0_ n1_; (try clear hb); (try clear hb2); (try clear hk); (try clear hi); have hcz8_0 : w7.cell? ⟨gb280, 0, none⟩ = some (.string a0_0) := (blk_cell BK280.out 0).trans rfl; have hcz8_1 : w7.cell? ⟨gb280, 1, none⟩ = some (.string a0_1) := (blk_cell BK280.out 1).trans rfl; have hfz8_0 := blk_frozen BK280.out 0; have hfz8_1 := blk_frozen BK280.out 1) | (go_at_call 24; (with_reducible refine (graftwoodref03_May.calls a0_1 t282 _ A4.out).mono ?_); rintro e w9 ⟨rfl, hb⟩; have n0_ := Aside0.mk (blk_below (g := gb280) (o := .cells #[.string a0_0, .string a0_1] 24 (0, 0)) (by (with_reducible repeat (first | refine blk_drewN ?_ _ | refine blk_drew ?_ | refine blk_alloc ?_ _)); exact BK280.out) hb); have n1_ := Aside0.mk (below_step (by repeat (first | (with_reducible first | exact HB.out | apply below_alloc | apply pw_below_drewN | apply below_drew1 | refine below_set ?_ GE280.out) | exact HB.out)) hb); clear BK280; clear HB; have BK280 := n0_; have HB := n1_; clear n0_ n1_; (try clear hb); (try clear hb2); (try clear hk); (try clear hi)))
    go_ret
    exact ⟨by first | rfl | (simp [errW_none, errW_some] <;> rfl) | (simp [*, errW_none, errW_some] <;> rfl), by repeat (first | (with_reducible first | exact HB.out | apply below_alloc | apply pw_below_drewN | apply below_drew1 | refine below_set ?_ GE280.out) | exact HB.out)⟩
  · replace c3 := Bool.eq_false_iff.mpr c3
    subst c3
    have H1 : (some false) = some r := by rw [if_neg (show ¬ (false = true) by decide)] at H; exact H
    clear H
    have H := H1
    clear H1
    obtain rfl := Option.some.inj H
    go_enter Tryd.func13, Tryd.ntmps13
    go_wp2_with (first | ((with_reducible refine gate_dst (N := 1) rfl ?_); refine box_event ?hg (N := 1) ?hd (cs := #[.string a0_0, .string a0_1]) (t := 24) ?hr ?_; (case hd => rfl); (case hg => rfl); (case hr => first | (go_simp; done) | (go_simp; rfl)); intro gb280 hg w10 hbox hb; have n0_ := Aside0.mk (below_step (by repeat (first | (with_reducible first | exact HB.out | apply below_alloc | apply pw_below_drewN | apply below_drew1) | exact HB.out)) hb); have n1_ := Aside0.mk (hbox); have n2_ := Aside0.mk ((by rw [hg]; exact (below_size (by repeat (first | (with_reducible first | exact HB.out | apply below_alloc | apply pw_below_drewN | apply below_drew1) | exact HB.out))) : w.heap.size ≤ gb280)); have n3_ := Aside0.mk ((by rw [hg]; exact (below_size (by repeat (first | (with_reducible first | exact HB.out | apply below_alloc | apply pw_below_drewN | apply below_drew1) | exact HB.out))) : w.heap.size ≤ gb280)); clear HB; have HB := n0_; have BK280 := n1_; have GW280 := n2_; have GE280 := n3_; clear n0_ n1_ n2_ n3_; clear hb hbox hg; have hcz11_0 : w10.cell? ⟨gb280, 0, none⟩ = some (.string a0_0) := (blk_cell BK280.out 0).trans rfl; have hcz11_1 : w10.cell? ⟨gb280, 1, none⟩ = some (.string a0_1) := (blk_cell BK280.out 1).trans rfl; have hfz11_0 := blk_frozen BK280.out 0; have hfz11_1 := blk_frozen BK280.out 1) | ((with_reducible refine gate_callee (f := 23) rfl ?_); refine goesL_ (some 5) rfl rfl Tryd.func23 (by kernel_rfl) rfl #[.string a0_0] rfl (by (try simp only [List.map_toArray, List.map_cons, List.map_nil]); first | done | rfl | (simp only [List.length_drop, List.length_take]; rfl)) ?_; (with_reducible refine (graftwoodref04_May.calls k a0_0 false _ A2.out).mono ?_); rintro e w12 ⟨rfl, hb⟩; refine ⟨_, rfl, ?_⟩; have n0_ := Aside0.mk (blk_below (g := gb280) (o := .cells #[.string a0_0, .string a0_1] 24 (0, 0)) (by (with_reducible repeat (first | refine blk_drewN ?_ _ | refine blk_drew ?_ | refine blk_alloc ?_ _)); exact BK280.out) hb); have n1_ := Aside0.mk (below_step (by repeat (first | (with_reducible first | exact HB.out | apply below_alloc | apply pw_below_drewN | apply below_drew1 | refine below_set ?_ GE280.out) | exact HB.out)) hb); clear BK280; clear HB; have BK280 := n0_; have HB := n1_; clear n0_ n1_; (try clear hb); (try clear hb2); (try clear hk); (try clear hi)))
    go_ret
    exact ⟨by first | rfl | (simp [errW_none, errW_some] <;> rfl) | (simp [*, errW_none, errW_some] <;> rfl), by repeat (first | (with_reducible first | exact HB.out | apply below_alloc | apply pw_below_drewN | apply below_drew1 | refine below_set ?_ GE280.out) | exact HB.out)⟩
/-! ### graftwoodref18_May: function 12 -/
def graftwoodref18_May.l0 : Nat → List (S34) → Int → Option (Bool)
  | 0, _, _ => none
  | k + 1, x0, x3 => if x3 < (x0.length : Int) then (if 0 ≤ x3 then ((graftwoodref05_May.f k ((rd_T34 x0 x3).f1.f0) ((rd_T34 x0 x3).f1.f1)).bind fun t284 => (if t284 = true then (if (!((((rd_T34 x0 x3).f0.f0).toList) == ([] : List UInt8)) || (!((((rd_T34 x0 x3).f0.f1).toList) == ([] : List UInt8)))) = true then ((graftwoodref05_May.f k ((rd_T34 x0 x3).f0.f0) ((rd_T34 x0 x3).f0.f1)).bind fun t287 => (if t287 = true then (graftwoodref18_May.l0 k x0 (wrap64 (x3 + 1))) else (some false))) else (graftwoodref18_May.l0 k x0 (wrap64 (x3 + 1)))) else (some false))) else (none)) else (some true)
def graftwoodref18_May.f (k : Nat) (l0 : List (S34)) : Option (Bool) := graftwoodref18_May.l0 k l0 0
theorem graftwoodref18_May.mono_l : ∀ k, (∀ y0 y1, LeO (graftwoodref18_May.l0 k y0 y1) (graftwoodref18_May.l0 (k + 1) y0 y1))
  | 0 => fun _ _ r h => by simp [graftwoodref18_May.l0] at h
  | k + 1 => by
    have ih0 := graftwoodref18_May.mono_l k
    · intro y0 y1
      unfold graftwoodref18_May.l0
      repeat' first
      | (with_reducible exact ih0 _ _)
      | (with_reducible exact graftwoodref05_May.mono _ _ _)
      | (with_reducible exact LeO.refl _)
      | (with_reducible exact LeO.none _)
      | (with_reducible refine LeO.ite ?_ ?_)
      | (with_reducible refine LeO.bind ?_ (fun _ => ?_))
      | exact ih0 _ _
      | exact graftwoodref05_May.mono _ _ _
      | exact LeO.none _
      | refine LeO.ite ?_ ?_
      | refine LeO.bind ?_ (fun _ => ?_)
theorem graftwoodref18_May.mono : ∀ a0 k, LeO (graftwoodref18_May.f k a0) (graftwoodref18_May.f (k + 1) a0) := by
  intro a0 k
  have ih0 := graftwoodref18_May.mono_l k
  unfold graftwoodref18_May.f
  repeat' first
      | (with_reducible exact ih0 _ _)
      | (with_reducible exact graftwoodref05_May.mono _ _ _)
      | (with_reducible exact LeO.refl _)
      | (with_reducible exact LeO.none _)
      | (with_reducible refine LeO.ite ?_ ?_)
      | (with_reducible refine LeO.bind ?_ (fun _ => ?_))
      | exact ih0 _ _
      | exact graftwoodref05_May.mono _ _ _
      | exact LeO.none _
      | refine LeO.ite ?_ ?_
      | refine LeO.bind ?_ (fun _ => ?_)
set_option maxHeartbeats 8000000 in
set_option maxRecDepth 100000 in
theorem graftwoodref18_May.calls (k : Nat) (A0 : Option Addr) (c0 : Nat) (l0 : List (S34)) (r : Bool) (w : World) (hr0 : Kd.C k34 w A0 l0.length l0) (hc0 : l0.length ≤ c0) (h : graftwoodref18_May.f k l0 = some r) :
    Calls Tryd.prog 12 #[.slice A0 l0.length c0] w fun e w' => e = .returned (.bool r) ∧ Below w.heap.size w w' := by
  have hu24 := Tryd.underlying24
  have HR0 := Aside0.mk hr0
  have HC0 := Aside0.mk hc0
  clear hr0 hc0
  have HB := Aside0.mk (Below.refl w.heap.size w)
  have H : (graftwoodref18_May.l0 k l0 0) = some r := h
  clear h
  have H' := Aside0.mk H
  clear H
  go_enter Tryd.func12, Tryd.ntmps12
  go_wp2
  go_loopg [3] k (fun kq v3 w' => ∃ (x3_1 : Int), v3 = .int .i64 x3_1 ∧ Aside0 (graftwoodref18_May.l0 kq l0 x3_1 = some r) ∧ Aside0 (kq ≤ k) ∧ Aside0 (Below w.heap.size w w'))
  case atStart => exact ⟨(0), (by first | rfl | (simp; done) | (simp [*]; done)), H', ⟨Nat.le_refl _⟩, ⟨by repeat (first | (with_reducible first | exact HB.out | apply below_alloc | apply pw_below_drewN | apply below_drew1) | exact HB.out)⟩⟩
  case round =>
    clear H'
    try clear c1
    obtain ⟨x3_1, rfl, HA, HK1, HB⟩ := hrel
    cases gk with
    | zero => exact absurd HA.out (by simp [graftwoodref18_May.l0])
    | succ k1 =>
      have H := HA.out
      clear HA
      simp only [graftwoodref18_May.l0] at H
      by_cases c2 : x3_1 < (l0.length : Int)
      · rw [if_pos c2] at H
        have c2b0 : decide (x3_1 < (l0.length : Int)) = true := decide_eq_true c2
        clear c2
        by_cases c3 : 0 ≤ x3_1
        · rw [if_pos c3] at H
          have c3b0 : decide (0 ≤ x3_1) = true := decide_eq_true c3
          clear c3
          replace H := Option.bind_eq_some_iff.mp H
          obtain ⟨t284, A40, H⟩ := H
          replace H : (if t284 = true then (if (!((((rd_T34 l0 x3_1).f0.f0).toList) == ([] : List UInt8)) || (!((((rd_T34 l0 x3_1).f0.f1).toList) == ([] : List UInt8)))) = true then ((graftwoodref05_May.f k1 ((rd_T34 l0 x3_1).f0.f0) ((rd_T34 l0 x3_1).f0.f1)).bind fun t287 => (if t287 = true then (graftwoodref18_May.l0 k1 l0 (wrap64 (x3_1 + 1))) else (some false))) else (graftwoodref18_May.l0 k1 l0 (wrap64 (x3_1 + 1)))) else (some false)) = some r := H
          have A4 := Aside0.mk A40
          clear A40
          by_cases c5 : t284 = true
          · subst c5
            have H1 : (if (!((((rd_T34 l0 x3_1).f0.f0).toList) == ([] : List UInt8)) || (!((((rd_T34 l0 x3_1).f0.f1).toList) == ([] : List UInt8)))) = true then ((graftwoodref05_May.f k1 ((rd_T34 l0 x3_1).f0.f0) ((rd_T34 l0 x3_1).f0.f1)).bind fun t287 => (if t287 = true then (graftwoodref18_May.l0 k1 l0 (wrap64 (x3_1 + 1))) else (some false))) else (graftwoodref18_May.l0 k1 l0 (wrap64 (x3_1 + 1)))) = some r := by rw [if_pos rfl] at H; exact H
            clear H
            have H := H1
            clear H1
            by_cases c6 : (!((((rd_T34 l0 x3_1).f0.f0).toList) == ([] : List UInt8)) || (!((((rd_T34 l0 x3_1).f0.f1).toList) == ([] : List UInt8)))) = true
            · rw [if_pos c6] at H
              have c6b0 : (!((((rd_T34 l0 x3_1).f0.f0).toList) == ([] : List UInt8)) || (!((((rd_T34 l0 x3_1).f0.f1).toList) == ([] : List UInt8)))) = true := c6
              have c6b9e : (!((((rd_T34 l0 x3_1).f0.f0).toList).isEmpty) || (!((((rd_T34 l0 x3_1).f0.f1).toList).isEmpty))) = true := by simpa using c6b0
              clear c6
              replace H := Option.bind_eq_some_iff.mp H
              obtain ⟨t287, A70, H⟩ := H
              replace H : (if t287 = true then (graftwoodref18_May.l0 k1 l0 (wrap64 (x3_1 + 1))) else (some false)) = some r := H
              have A7 := Aside0.mk A70
              clear A70
              by_cases c8 : t287 = true
              · subst c8
                have H1 : (graftwoodref18_May.l0 k1 l0 (wrap64 (x3_1 + 1))) = some r := by rw [if_pos rfl] at H; exact H
                clear H
                have H := H1
                clear H1
                have H' := Aside0.mk H
                clear H
                have p283 : 0 ≤ (x3_1 : Int) := of_decide_eq_true (by first | (with_reducible assumption) | assumption)
                have q283 : x3_1 < (l0.length : Int) := of_decide_eq_true (by first | (with_reducible assumption) | assumption)
                obtain ⟨ad283, e283, hx283_0, hx283_1, hx283_2, hx283_3⟩ := at_T34 HR0.out x3_1 p283 q283
                cases e283
                replace hx283_0 := (HB.out.cell (World.block_lt_of_cell? w _ hx283_0)).trans hx283_0
                replace hx283_1 := (HB.out.cell (World.block_lt_of_cell? w _ hx283_1)).trans hx283_1
                replace hx283_2 := (HB.out.cell (World.block_lt_of_cell? w _ hx283_2)).trans hx283_2
                replace hx283_3 := (HB.out.cell (World.block_lt_of_cell? w _ hx283_3)).trans hx283_3
                replace p283 := eq_true p283
                replace q283 := eq_true q283
                go_wp2_with (first | ((with_reducible refine gate_callee (f := 13) rfl ?_); refine goesL_ (some 15) rfl rfl Tryd.func13 (by kernel_rfl) rfl #[.agg #[.string ((rd_T34 l0 x3_1).f1.f0), .string ((rd_T34 l0 x3_1).f1.f1)]] rfl (by (try simp only [List.map_toArray, List.map_cons, List.map_nil]); first | done | rfl | (simp only [List.length_drop, List.length_take]; rfl)) ?_; (with_reducible refine (graftwoodref05_May.calls k1 ((rd_T34 l0 x3_1).f1.f0) ((rd_T34 l0 x3_1).f1.f1) true _ A4.out).mono ?_); rintro e w9 ⟨rfl, hb⟩; refine ⟨_, rfl, ?_⟩; have n0_ := Aside0.mk (below_step (by repeat (first | (with_reducible first | exact HB.out | apply below_alloc | apply pw_below_drewN | apply below_drew1) | exact HB.out)) hb); clear HB; have HB := n0_; clear n0_; (try clear hb); (try clear hb2); (try clear hk); (try clear hi); have p285 : 0 ≤ (x3_1 : Int) := of_decide_eq_true (by first | (with_reducible assumption) | assumption); have q285 : x3_1 < (l0.length : Int) := of_decide_eq_true (by first | (with_reducible assumption) | assumption); obtain ⟨ad285, e285, hx285_0, hx285_1, hx285_2, hx285_3⟩ := at_T34 HR0.out x3_1 p285 q285; obtain rfl : ad283 = ad285 := (by injection e285); replace hx285_0 := (HB.out.cell (World.block_lt_of_cell? w _ hx285_0)).trans hx285_0; replace hx285_1 := (HB.out.cell (World.block_lt_of_cell? w _ hx285_1)).trans hx285_1; replace hx285_2 := (HB.out.cell (World.block_lt_of_cell? w _ hx285_2)).trans hx285_2; replace hx285_3 := (HB.out.cell (World.block_lt_of_cell? w _ hx285_3)).trans hx285_3; replace p285 := eq_true p285; replace q285 := eq_true q285; have p286 : 0 ≤ (x3_1 : Int) := of_decide_eq_true (by first | (with_reducible assumption) | assumption); have q286 : x3_1 < (l0.length : Int) := of_decide_eq_true (by first | (with_reducible assumption) | assumption); obtain ⟨ad286, e286, hx286_0, hx286_1, hx286_2, hx286_3⟩ := at_T34 HR0.out x3_1 p286 q286; obtain rfl : ad283 = ad286 := (by injection e286); replace hx286_0 := (HB.out.cell (World.block_lt_of_cell? w _ hx286_0)).trans hx286_0; replace hx286_1 := (HB.out.cell (World.block_lt_of_cell? w _ hx286_1)).trans hx286_1; replace hx286_2 := (HB.out.cell (World.block_lt_of_cell? w _ hx286_2)).trans hx286_2; replace hx286_3 := (HB.out.cell (World.block_lt_of_cell? w _ hx286_3)).trans hx286_3; replace p286 := eq_true p286; replace q286 := eq_true q286) | (go_at_call 13; (with_reducible refine (graftwoodref05_May.calls k1 ((rd_T34 l0 x3_1).f0.f0) ((rd_T34 l0 x3_1).f0.f1) true _ A7.out).mono ?_); rintro e w10 ⟨rfl, hb⟩; have n0_ := Aside0.mk (below_step (by repeat (first | (with_reducible first | exact HB.out | apply below_alloc | apply pw_below_drewN | apply below_drew1) | exact HB.out)) hb); clear HB; have HB := n0_; clear n0_; (try clear hb); (try clear hb2); (try clear hk); (try clear hi)))
                go_roundg k1
                case measure => have := HK1.out; omega
                case rel => exact ⟨(wrap64 (x3_1 + 1)), (by first | rfl | (simp; done) | (simp [*]; done)), H', ⟨by have := HK1.out; omega⟩, ⟨by repeat (first | (with_reducible first | exact HB.out | apply below_alloc | apply pw_below_drewN | apply below_drew1) | exact HB.out)⟩⟩
              · replace c8 := Bool.eq_false_iff.mpr c8
                subst c8
                have H1 : (some false) = some r := by rw [if_neg (show ¬ (false = true) by decide)] at H; exact H
                clear H
                have H := H1
                clear H1
                obtain rfl := Option.some.inj H
                have p283 : 0 ≤ (x3_1 : Int) := of_decide_eq_true (by first | (with_reducible assumption) | assumption)
                have q283 : x3_1 < (l0.length : Int) := of_decide_eq_true (by first | (with_reducible assumption) | assumption)
                obtain ⟨ad283, e283, hx283_0, hx283_1, hx283_2, hx283_3⟩ := at_T34 HR0.out x3_1 p283 q283
                cases e283
                replace hx283_0 := (HB.out.cell (World.block_lt_of_cell? w _ hx283_0)).trans hx283_0
                replace hx283_1 := (HB.out.cell (World.block_lt_of_cell? w _ hx283_1)).trans hx283_1
                replace hx283_2 := (HB.out.cell (World.block_lt_of_cell? w _ hx283_2)).trans hx283_2
                replace hx283_3 := (HB.out.cell (World.block_lt_of_cell? w _ hx283_3)).trans hx283_3
                replace p283 := eq_true p283
                replace q283 := eq_true q283
                go_wp2_with (first | ((with_reducible refine gate_callee (f := 13) rfl ?_); refine goesL_ (some 15) rfl rfl Tryd.func13 (by kernel_rfl) rfl #[.agg #[.string ((rd_T34 l0 x3_1).f1.f0), .string ((rd_T34 l0 x3_1).f1.f1)]] rfl (by (try simp only [List.map_toArray, List.map_cons, List.map_nil]); first | done | rfl | (simp only [List.length_drop, List.length_take]; rfl)) ?_; (with_reducible refine (graftwoodref05_May.calls k1 ((rd_T34 l0 x3_1).f1.f0) ((rd_T34 l0 x3_1).f1.f1) true _ A4.out).mono ?_); rintro e w11 ⟨rfl, hb⟩; refine ⟨_, rfl, ?_⟩; have n0_ := Aside0.mk (below_step (by repeat (first | (with_reducible first | exact HB.out | apply below_alloc | apply pw_below_drewN | apply below_drew1) | exact HB.out)) hb); clear HB; have HB := n0_; clear n0_; (try clear hb); (try clear hb2); (try clear hk); (try clear hi); have p285 : 0 ≤ (x3_1 : Int) := of_decide_eq_true (by first | (with_reducible assumption) | assumption); have q285 : x3_1 < (l0.length : Int) := of_decide_eq_true (by first | (with_reducible assumption) | assumption); obtain ⟨ad285, e285, hx285_0, hx285_1, hx285_2, hx285_3⟩ := at_T34 HR0.out x3_1 p285 q285; obtain rfl : ad283 = ad285 := (by injection e285); replace hx285_0 := (HB.out.cell (World.block_lt_of_cell? w _ hx285_0)).trans hx285_0; replace hx285_1 := (HB.out.cell (World.block_lt_of_cell? w _ hx285_1)).trans hx285_1; replace hx285_2 := (HB.out.cell (World.block_lt_of_cell? w _ hx285_2)).trans hx285_2; replace hx285_3 := (HB.out.cell (World.block_lt_of_cell? w _ hx285_3)).trans hx285_3; replace p285 := eq_true p285; replace q285 := eq_true q285; have p286 : 0 ≤ (x3_1 : Int) := of_decide_eq_true (by first | (with_reducible assumption) | assumption); have q286 : x3_1 < (l0.length : Int) := of_decide_eq_true (by first | (with_reducible assumption) | assumption); obtain ⟨ad286, e286, hx286_0, hx286_1, hx286_2, hx286_3⟩ := at_T34 HR0.out x3_1 p286 q286; obtain rfl : ad283 = ad286 := (by injection e286); replace hx286_0 := (HB.out.cell (World.block_lt_of_cell? w _ hx286_0)).trans hx286_0; replace hx286_1 := (HB.out.cell (World.block_lt_of_cell? w _ hx286_1)).trans hx286_1; replace hx286_2 := (HB.out.cell (World.block_lt_of_cell? w _ hx286_2)).trans hx286_2; replace hx286_3 := (HB.out.cell (World.block_lt_of_cell? w _ hx286_3)).trans hx286_3; replace p286 := eq_true p286; replace q286 := eq_true q286) | (go_at_call 13; (with_reducible refine (graftwoodref05_May.calls k1 ((rd_T34 l0 x3_1).f0.f0) ((rd_T34 l0 x3_1).f0.f1) false _ A7.out).mono ?_); rintro e w12 ⟨rfl, hb⟩; have n0_ := Aside0.mk (below_step (by repeat (first | (with_reducible first | exact HB.out | apply below_alloc | apply pw_below_drewN | apply below_drew1) | exact HB.out)) hb); clear HB; have HB := n0_; clear n0_; (try clear hb); (try clear hb2); (try clear hk); (try clear hi)))
                go_ret
                exact ⟨by first | rfl | (simp [errW_none, errW_some] <;> rfl) | (simp [*, errW_none, errW_some] <;> rfl), by repeat (first | (with_reducible first | exact HB.out | apply below_alloc | apply pw_below_drewN | apply below_drew1) | exact HB.out)⟩
            · rw [if_neg c6] at H
              have c6b0 : (!((((rd_T34 l0 x3_1).f0.f0).toList) == ([] : List UInt8)) || (!((((rd_T34 l0 x3_1).f0.f1).toList) == ([] : List UInt8)))) = false := by simpa using c6
              have c6b9e : (!((((rd_T34 l0 x3_1).f0.f0).toList).isEmpty) || (!((((rd_T34 l0 x3_1).f0.f1).toList).isEmpty))) = false := by simpa using c6b0
              clear c6
              have H' := Aside0.mk H
              clear H
              have p283 : 0 ≤ (x3_1 : Int) := of_decide_eq_true (by first | (with_reducible assumption) | assumption)
              have q283 : x3_1 < (l0.length : Int) := of_decide_eq_true (by first | (with_reducible assumption) | assumption)
              obtain ⟨ad283, e283, hx283_0, hx283_1, hx283_2, hx283_3⟩ := at_T34 HR0.out x3_1 p283 q283
              cases e283
              replace hx283_0 := (HB.out.cell (World.block_lt_of_cell? w _ hx283_0)).trans hx283_0
              replace hx283_1 := (HB.out.cell (World.block_lt_of_cell? w _ hx283_1)).trans hx283_1
              replace hx283_2 := (HB.out.cell (World.block_lt_of_cell? w _ hx283_2)).trans hx283_2
              replace hx283_3 := (HB.out.cell (World.block_lt_of_cell? w _ hx283_3)).trans hx283_3
              replace p283 := eq_true p283
              replace q283 := eq_true q283
              go_wp2_with (first | ((with_reducible refine gate_callee (f := 13) rfl ?_); refine goesL_ (some 15) rfl rfl Tryd.func13 (by kernel_rfl) rfl #[.agg #[.string ((rd_T34 l0 x3_1).f1.f0), .string ((rd_T34 l0 x3_1).f1.f1)]] rfl (by (try simp only [List.map_toArray, List.map_cons, List.map_nil]); first | done | rfl | (simp only [List.length_drop, List.length_take]; rfl)) ?_; (with_reducible refine (graftwoodref05_May.calls k1 ((rd_T34 l0 x3_1).f1.f0) ((rd_T34 l0 x3_1).f1.f1) true _ A4.out).mono ?_); rintro e w13 ⟨rfl, hb⟩; refine ⟨_, rfl, ?_⟩; have n0_ := Aside0.mk (below_step (by repeat (first | (with_reducible first | exact HB.out | apply below_alloc | apply pw_below_drewN | apply below_drew1) | exact HB.out)) hb); clear HB; have HB := n0_; clear n0_; (try clear hb); (try clear hb2); (try clear hk); (try clear hi); have p285 : 0 ≤ (x3_1 : Int) := of_decide_eq_true (by first | (with_reducible assumption) | assumption); have q285 : x3_1 < (l0.length : Int) := of_decide_eq_true (by first | (with_reducible assumption) | assumption); obtain ⟨ad285, e285, hx285_0, hx285_1, hx285_2, hx285_3⟩ := at_T34 HR0.out x3_1 p285 q285; obtain rfl : ad283 = ad285 := (by injection e285); replace hx285_0 := (HB.out.cell (World.block_lt_of_cell? w _ hx285_0)).trans hx285_0; replace hx285_1 := (HB.out.cell (World.block_lt_of_cell? w _ hx285_1)).trans hx285_1; replace hx285_2 := (HB.out.cell (World.block_lt_of_cell? w _ hx285_2)).trans hx285_2; replace hx285_3 := (HB.out.cell (World.block_lt_of_cell? w _ hx285_3)).trans hx285_3; replace p285 := eq_true p285; replace q285 := eq_true q285))
              go_roundg k1
              case measure => have := HK1.out; omega
              case rel => exact ⟨(wrap64 (x3_1 + 1)), (by first | rfl | (simp; done) | (simp [*]; done)), H', ⟨by have := HK1.out; omega⟩, ⟨by repeat (first | (with_reducible first | exact HB.out | apply below_alloc | apply pw_below_drewN | apply below_drew1) | exact HB.out)⟩⟩
          · replace c5 := Bool.eq_false_iff.mpr c5
            subst c5
            have H1 : (some false) = some r := by rw [if_neg (show ¬ (false = true) by decide)] at H; exact H
            clear H
            have H := H1
            clear H1
            obtain rfl := Option.some.inj H
            have p283 : 0 ≤ (x3_1 : Int) := of_decide_eq_true (by first | (with_reducible assumption) | assumption)
            have q283 : x3_1 < (l0.length : Int) := of_decide_eq_true (by first | (with_reducible assumption) | assumption)
            obtain ⟨ad283, e283, hx283_0, hx283_1, hx283_2, hx283_3⟩ := at_T34 HR0.out x3_1 p283 q283
            cases e283
            replace hx283_0 := (HB.out.cell (World.block_lt_of_cell? w _ hx283_0)).trans hx283_0
            replace hx283_1 := (HB.out.cell (World.block_lt_of_cell? w _ hx283_1)).trans hx283_1
            replace hx283_2 := (HB.out.cell (World.block_lt_of_cell? w _ hx283_2)).trans hx283_2
            replace hx283_3 := (HB.out.cell (World.block_lt_of_cell? w _ hx283_3)).trans hx283_3
            replace p283 := eq_true p283
            replace q283 := eq_true q283
            go_wp2_with (first | ((with_reducible refine gate_callee (f := 13) rfl ?_); refine goesL_ (some 15) rfl rfl Tryd.func13 (by kernel_rfl) rfl #[.agg #[.string ((rd_T34 l0 x3_1).f1.f0), .string ((rd_T34 l0 x3_1).f1.f1)]] rfl (by (try simp only [List.map_toArray, List.map_cons, List.map_nil]); first | done | rfl | (simp only [List.length_drop, List.length_take]; rfl)) ?_; (with_reducible refine (graftwoodref05_May.calls k1 ((rd_T34 l0 x3_1).f1.f0) ((rd_T34 l0 x3_1).f1.f1) false _ A4.out).mono ?_); rintro e w14 ⟨rfl, hb⟩; refine ⟨_, rfl, ?_⟩; have n0_ := Aside0.mk (below_step (by repeat (first | (with_reducible first | exact HB.out | apply below_alloc | apply pw_below_drewN | apply below_drew1) | exact HB.out)) hb); clear HB; have HB := n0_; clear n0_; (try clear hb); (try clear hb2); (try clear hk); (try clear hi)))
            go_ret
            exact ⟨by first | rfl | (simp [errW_none, errW_some] <;> rfl) | (simp [*, errW_none, errW_some] <;> rfl), by repeat (first | (with_reducible first | exact HB.out | apply below_alloc | apply pw_below_drewN | apply below_drew1) | exact HB.out)⟩
        · rw [if_neg c3] at H
          exact absurd H (by simp)
      · rw [if_neg c2] at H
        have c2b0 : decide (x3_1 < (l0.length : Int)) = false := decide_eq_false c2
        clear c2
        obtain rfl := Option.some.inj H
        go_wp2
        go_ret
        exact ⟨by first | rfl | (simp [errW_none, errW_some] <;> rfl) | (simp [*, errW_none, errW_some] <;> rfl), by repeat (first | (with_reducible first | exact HB.out | apply below_alloc | apply pw_below_drewN | apply below_drew1) | exact HB.out)⟩

-- NOT PRINTED: function 4 (graftwoodlaw19_WhyMore)
end Go.Proofs.YtodkjmbmlobihaaDoor.Q
end

section
namespace Go.Proofs.YtodkjmbmlobihaaDoor.Q
open Go.RowKit Gw
set_option linter.unusedVariables false
theorem cutDash_split : ∀ r : List Nat, r = (cutDash r).1 ++ (match (cutDash r).2 with | none => [] | some p => 45 :: p)
  | [] => rfl
  | c :: r => by
    have ih := cutDash_split r
    by_cases h : c = 45
    · subst h; rfl
    · simp only [cutDash, if_neg h, List.cons_append]
      rw [← ih]
theorem cutFrom_v (r : List Nat) : cutFrom (118 :: r) 0 = (cutDash r).1.length + 1 := by simp [cutFrom, cutDash]
theorem take_v (r : List Nat) : ((118 :: r).take (cutFrom (118 :: r) 0)).drop 1 = (cutDash r).1 := by
  rw [cutFrom_v, List.take_succ_cons, List.drop_succ_cons, List.drop_zero]
  have h := cutDash_split r
  generalize (cutDash r).1 = x at *
  generalize (cutDash r).2 = y at *
  rw [h, List.take_left']
  rfl
theorem drop_v (r p : List Nat) (hp : (cutDash r).2 = some p) : (118 :: r).drop (cutFrom (118 :: r) 0 + 1) = p := by
  rw [cutFrom_v, List.drop_succ_cons]
  have h := cutDash_split r
  rw [hp] at h
  generalize (cutDash r).1 = x at *
  rw [h]
  simp
theorem cut_size (r : List Nat) : cutFrom (118 :: r) 0 = (118 :: r).length ↔ (cutDash r).2 = none := by
  rw [cutFrom_v, List.length_cons]
  have h := congrArg List.length (cutDash_split r)
  rw [List.length_append] at h
  cases hp : (cutDash r).2 with
  | none => rw [hp] at h; simp at h; simp; omega
  | some p => rw [hp] at h; simp at h; simp; omega
theorem splitOf_len (s : ByteArray) (cut : Nat) (l : List ByteArray) (h : l.length ≠ 3) : splitOf s cut l = zeroV := by
  match l, h with
  | [], _ => rfl
  | [_], _ => rfl
  | [_, _], _ => rfl
  | [_, _, _], h => exact absurd rfl h
  | _ :: _ :: _ :: _ :: _, _ => rfl
theorem splitV_ok (s : ByteArray) : (splitV s).2.2.2.2 = isVersion (bs s) := by
  unfold splitV
  cases hb : bs s with
  | nil => rfl
  | cons c r =>
    rw [if_neg (by simp)]
    by_cases h : c = 118
    · subst h
      rw [if_pos (by simp)]
      have hsz : s.size = (118 :: r).length := by rw [← bs_length, hb]
      unfold splitS
      rw [hb, take_v]
      simp only [isVersion, coreOk]
      by_cases h3 : (parts 46 (cutDash r).1).length = 3
      · obtain ⟨a, b, c, hp⟩ : ∃ a b c, parts 46 (cutDash r).1 = [a, b, c] := by
          match parts 46 (cutDash r).1, h3 with
          | [a, b, c], _ => exact ⟨a, b, c, rfl⟩
        have ho : ∀ p ∈ parts 46 (cutDash r).1, ∀ x ∈ p, x < 256 := by
          refine parts_oct (fun x hx => bs_oct s x ?_)
          rw [hb]
          refine List.mem_cons_of_mem _ ?_
          rw [cutDash_split r]
          exact List.mem_append_left _ hx
        rw [hp] at ho ⊢
        simp only [List.map_cons, List.map_nil, splitOf, bs_ofB (ho a (by simp)), bs_ofB (ho b (by simp)), bs_ofB (ho c (by simp))]
        simp only [List.length_cons, List.length_nil, List.all_cons, List.all_nil, Bool.and_true]
        by_cases hn : (isNum a && isNum b && isNum c) = true
        · rw [if_pos hn, hsz]
          rw [show (isNum a && (isNum b && isNum c)) = true from by rw [← Bool.and_assoc]; exact hn]
          by_cases hc : cutFrom (118 :: r) 0 = (118 :: r).length
          · rw [if_pos hc, (cut_size r).1 hc]; rfl
          · rw [if_neg hc]
            cases hp2 : (cutDash r).2 with
            | none => exact absurd ((cut_size r).2 hp2) hc
            | some p =>
              rw [hb, drop_v r p hp2]
              simp only [preOk]
              by_cases hw : (parts 46 p).all isWord = true
              · rw [if_pos hw, hw]; rfl
              · rw [if_neg hw, Bool.eq_false_iff.2 hw]; rfl
        · rw [if_neg hn, show (isNum a && (isNum b && isNum c)) = false from by rw [← Bool.and_assoc]; exact Bool.eq_false_iff.2 hn]; rfl
      · rw [splitOf_len _ _ _ (by rw [List.length_map]; exact h3), beq_eq_false_iff_ne.2 h3]; rfl
    · rw [if_neg (by simp; exact h)]
      unfold isVersion
      split
      · rename_i heq; exact absurd (List.cons.inj heq).1 h
      · rfl
end Go.Proofs.YtodkjmbmlobihaaDoor.Q
end

section
namespace Go.Proofs.YtodkjmbmlobihaaDoor.Q
open Go Go.RowKit Go.Lib Go.Proofs.YtodkjmbmlobihaaDoorW.PrintWords Go.Proofs.YtodkjmbmlobihaaDoorW.PrintLast Go.Proofs.YtodkjmbmlobihaaDoorW.PrintMore Gw
set_option linter.unusedVariables false
set_option linter.unusedSimpArgs false
theorem split_some (s : ByteArray) (p q r : List Nat) (l : List (List Nat)) (h : vparts (bs s) = some (p, q, r, l)) : splitV s = (ofB p, ofB q, ofB r, l.map ofB, true) := by
  have hv : isVersion (bs s) = true := by rw [← vparts_some, h]; rfl
  unfold splitV
  cases hb : bs s with
  | nil => rw [hb] at h; cases h
  | cons c t =>
    rw [if_neg (by simp)]
    by_cases hc : c = 118
    · subst hc
      rw [if_pos (by simp)]
      have hsz : s.size = (118 :: t).length := by rw [← bs_length, hb]
      unfold splitS
      rw [hb, take_v]
      rw [hb] at h
      have h' : vcore (cutDash t).1 (cutDash t).2 = some (p, q, r, l) := h
      unfold vcore at h'
      split at h'
      · rename_i a b c hp
        split at h'
        · rename_i hn
          have ho : ∀ p ∈ parts 46 (cutDash t).1, ∀ x ∈ p, x < 256 := by
            refine parts_oct (fun x hx => bs_oct s x ?_)
            rw [hb]
            refine List.mem_cons_of_mem _ ?_
            rw [cutDash_split t]
            exact List.mem_append_left _ hx
          rw [hp] at ho ⊢
          simp only [List.map_cons, List.map_nil, splitOf, bs_ofB (ho a (by simp)), bs_ofB (ho b (by simp)), bs_ofB (ho c (by simp))]
          rw [if_pos hn, hsz]
          unfold vpre at h'
          split at h'
          · rename_i hc
            rw [if_pos ((cut_size t).2 hc)]
            injection h' with h'
            simp only [Prod.mk.injEq] at h'
            obtain ⟨rfl, rfl, rfl, rfl⟩ := h'
            rfl
          · rename_i pp hc
            rw [if_neg (fun e => by rw [(cut_size t).1 e] at hc; cases hc), hb, drop_v t pp hc]
            split at h'
            · rename_i hw
              injection h' with h'
              simp only [Prod.mk.injEq] at h'
              obtain ⟨rfl, rfl, rfl, rfl⟩ := h'
              rw [if_pos hw]
            · cases h'
        · cases h'
      · cases h'
    · rw [hb] at hv
      unfold isVersion at hv
      split at hv <;> simp_all
theorem rcmp1_l0 (a b : ByteArray) (ha : Small a) (hb : Small b) : ∀ (n i k : Nat), a.size ≤ i + n → i ≤ a.size → i ≤ b.size → 2 * n + 2 ≤ k →
    graftwoodref01_Cmp.l0 k a b (i : Int) = some (lexC ((bs a).drop i) ((bs b).drop i)) := by
  intro n
  induction n with
  | zero =>
    intro i k h1 h2 h3 hk
    obtain ⟨j, rfl⟩ : ∃ j, k = j + 2 := ⟨k - 2, by omega⟩
    have e : i = a.size := by omega
    subst e
    rw [List.drop_eq_nil_of_le (by rw [bs_length]; exact Nat.le_refl _)]
    simp only [graftwoodref01_Cmp.l0, graftwoodref01_Cmp.j1]
    rw [if_neg (by omega)]
    simp only [Bool.false_eq_true, if_false]
    by_cases h : a.size < b.size
    · rw [if_pos (by omega), List.drop_eq_getElem_cons (by rw [bs_length]; exact h)]
      rfl
    · rw [if_neg (by omega), if_neg (by omega), List.drop_eq_nil_of_le (by rw [bs_length]; omega)]
      rfl
  | succ n ih =>
    intro i k h1 h2 h3 hk
    obtain ⟨j, rfl⟩ : ∃ j, k = j + 2 := ⟨k - 2, by omega⟩
    by_cases h : i < a.size
    · by_cases h' : i < b.size
      · have d1 : (bs a).drop i = (bs a)[i]'(by rw [bs_length]; exact h) :: (bs a).drop (i + 1) := List.drop_eq_getElem_cons _
        have d2 : (bs b).drop i = (bs b)[i]'(by rw [bs_length]; exact h') :: (bs b).drop (i + 1) := List.drop_eq_getElem_cons _
        have t1 := (bt_drop d1).2.1
        have t2 := (bt_drop d2).2.1
        rw [d1, d2]
        simp only [graftwoodref01_Cmp.l0, graftwoodref01_Cmp.j1]
        rw [if_pos (by omega), decide_eq_true (show (i : Int) < (b.size : Int) by omega), if_pos rfl, if_pos (by omega), if_pos (by omega), if_pos (by omega), t1, t2]
        generalize (bs a)[i]'(by rw [bs_length]; exact h) = x
        generalize (bs b)[i]'(by rw [bs_length]; exact h') = y
        simp only [lexC]
        by_cases c1 : x < y
        · rw [if_pos (by omega), if_pos c1]
        · rw [if_neg (by omega), if_neg c1]
          by_cases c2 : y < x
          · rw [if_pos (by omega), if_pos c2]
          · rw [if_neg (by omega), if_neg c2, show wrap64 ((i : Int) + 1) = ((i + 1 : Nat) : Int) by unfold wrap64; unfold Small at ha; omega]
            exact ih (i + 1) j (by omega) (by omega) (by omega) (by omega)
      · simp only [graftwoodref01_Cmp.l0, graftwoodref01_Cmp.j1]
        rw [if_pos (by omega), decide_eq_false (show ¬ (i : Int) < (b.size : Int) by omega), List.drop_eq_getElem_cons (show i < (bs a).length by rw [bs_length]; exact h), List.drop_eq_nil_of_le (show (bs b).length ≤ i by rw [bs_length]; omega)]
        simp only [Bool.false_eq_true, if_false]
        rw [if_neg (by omega), if_pos (by omega)]
        rfl
    · exact ih i (j + 2) (by omega) h2 h3 (by omega)
theorem rcmp1_val (a b : ByteArray) (ha : Small a) (hb : Small b) (k : Nat) (hk : 2 * a.size + 2 ≤ k) : graftwoodref01_Cmp.f k a b = some (lexC (bs a) (bs b)) := by
  have h := rcmp1_l0 a b ha hb a.size 0 k (by omega) (Nat.zero_le _) (Nat.zero_le _) hk
  exact h
/-- The digit of a place from the lowest one on. -/
def atI (l : List Nat) (i : Nat) : Int := if i ≥ l.length then 0 else ((l.getD (l.length - 1 - i) 48 : Nat) : Int) - 48
theorem at_val (s : ByteArray) (hs : Small s) (hd : (bs s).all dig = true) (i : Nat) (hi : i ≤ 4398046511104) : graftwoodref02_at.f s (i : Int) = some (atI (bs s) i) := by
  unfold graftwoodref02_at.f atI
  rw [bs_length]
  by_cases h : i ≥ s.size
  · rw [if_pos (by omega), if_pos h]
  · have hw : wrap64 (wrap64 ((s.size : Int) - 1) - (i : Int)) = ((s.size - 1 - i : Nat) : Int) := by unfold wrap64; unfold Small at hs; omega
    have hl : s.size - 1 - i < (bs s).length := by rw [bs_length]; omega
    have hb : bt s ((s.size - 1 - i : Nat) : Int) = (((bs s)[s.size - 1 - i]'hl : Nat) : Int) := bt_at_get s _ (by omega)
    have hmem : (bs s)[s.size - 1 - i]'hl ∈ bs s := List.getElem_mem _
    have hdg := List.all_eq_true.1 hd _ hmem
    rw [if_neg (by omega), if_neg h, hw, if_pos (by omega), if_pos (by omega), hb, digit_tot _ (bs_oct s _ hmem), if_pos hdg]
    simp [List.getD_eq_getElem?_getD, List.getElem?_eq_getElem hl]
theorem rnum_l0 (a b : ByteArray) (ha : Small a) (hb : Small b) (da : (bs a).all dig = true) (db : (bs b).all dig = true) (hl : a.size = b.size) : ∀ (n k : Nat), n ≤ a.size → n + 1 ≤ k →
    graftwoodref02_Cmp.l0 k a b ((n : Int) - 1) = some (lexC ((bs a).drop (a.size - n)) ((bs b).drop (a.size - n))) := by
  intro n
  induction n with
  | zero =>
    intro k h1 hk
    obtain ⟨j, rfl⟩ : ∃ j, k = j + 1 := ⟨k - 1, by omega⟩
    rw [List.drop_eq_nil_of_le (by rw [bs_length]; omega), List.drop_eq_nil_of_le (by rw [bs_length]; omega)]
    simp [graftwoodref02_Cmp.l0, lexC]
  | succ n ih =>
    intro k h1 hk
    obtain ⟨j, rfl⟩ : ∃ j, k = j + 1 := ⟨k - 1, by omega⟩
    have e : ((n + 1 : Nat) : Int) - 1 = (n : Int) := by omega
    have la : a.size - (n + 1) < (bs a).length := by rw [bs_length]; omega
    have lb : a.size - (n + 1) < (bs b).length := by rw [bs_length]; omega
    have va := at_val a ha da n (by unfold Small at ha; omega)
    have vb := at_val b hb db n (by unfold Small at ha; omega)
    have xa : atI (bs a) n = (((bs a)[a.size - (n + 1)]'la : Nat) : Int) - 48 := by
      unfold atI
      rw [bs_length, if_neg (by omega), show a.size - 1 - n = a.size - (n + 1) by omega]
      simp [List.getD_eq_getElem?_getD, List.getElem?_eq_getElem la]
    have xb : atI (bs b) n = (((bs b)[a.size - (n + 1)]'lb : Nat) : Int) - 48 := by
      unfold atI
      rw [bs_length, if_neg (by omega), show b.size - 1 - n = a.size - (n + 1) by omega]
      simp [List.getD_eq_getElem?_getD, List.getElem?_eq_getElem lb]
    rw [e, List.drop_eq_getElem_cons la, List.drop_eq_getElem_cons lb, show a.size - (n + 1) + 1 = a.size - n by omega]
    simp only [graftwoodref02_Cmp.l0]
    rw [if_pos (by omega), va, vb]
    simp only [Option.bind_some]
    rw [xa, xb]
    have ih' := ih j (by omega) (by omega)
    rw [show wrap64 ((n : Int) - 1) = (n : Int) - 1 by unfold wrap64; unfold Small at ha; omega, ih']
    generalize (bs a)[a.size - (n + 1)]'la = x
    generalize (bs b)[a.size - (n + 1)]'lb = y
    simp only [lexC]
    by_cases c1 : x < y
    · rw [if_pos (by omega), if_pos c1]
    · rw [if_neg (by omega), if_neg c1]
      by_cases c2 : y < x
      · rw [if_pos (by omega), if_pos c2]
      · rw [if_neg (by omega), if_neg c2]
theorem lead_digit {s : List Nat} (h : isNum s = true) (hl : 2 ≤ s.length) : 49 ≤ s.getD 0 48 := by
  match s, hl with
  | c :: d :: r, _ =>
    unfold isNum at h
    simp only [List.all_cons, List.isEmpty_cons, Bool.false_or, Bool.and_eq_true, bne_iff_ne] at h
    have := h.1.1
    simp only [dig, Bool.and_eq_true, decide_eq_true_eq] at this
    have h2 := h.2
    simp
    omega
theorem num_dig {s : List Nat} (h : isNum s = true) : s.all dig = true := by
  unfold isNum at h
  rw [Bool.and_eq_true] at h
  exact h.1
theorem num_ne {s : List Nat} (h : isNum s = true) : 1 ≤ s.length := by
  cases s with
  | nil => simp [isNum] at h
  | cons => simp
theorem rnum_val (a b : ByteArray) (ha : Small a) (hb : Small b) (na : isNum (bs a) = true) (nb : isNum (bs b) = true) (k : Nat) (hk : a.size + b.size + 2 ≤ k) : graftwoodref02_Cmp.f k a b = some (numC (bs a) (bs b)) := by
  have la := num_ne na
  have lb := num_ne nb
  rw [bs_length] at la lb
  unfold graftwoodref02_Cmp.f numC
  rw [bs_length, bs_length]
  have hsa : a.size ≤ 4398046511104 := ha
  have hsb : b.size ≤ 4398046511104 := hb
  rcases Nat.lt_trichotomy a.size b.size with h | h | h
  · have e : wrap64 (mx (a.size : Int) (b.size : Int) - 1) = ((b.size - 1 : Nat) : Int) := by unfold wrap64 mx; (repeat' split) <;> omega
    rw [e]
    obtain ⟨j, rfl⟩ : ∃ j, k = j + 1 := ⟨k - 1, by omega⟩
    simp only [graftwoodref02_Cmp.l0]
    rw [if_pos (by omega), at_val a ha (num_dig na) _ (by omega), at_val b hb (num_dig nb) _ (by omega)]
    simp only [Option.bind_some]
    have x1 : atI (bs a) (b.size - 1) = 0 := by unfold atI; rw [bs_length, if_pos (by omega)]
    have x2 : 1 ≤ atI (bs b) (b.size - 1) := by
      have := lead_digit nb (by rw [bs_length]; omega)
      unfold atI
      rw [bs_length, if_neg (by omega), show b.size - 1 - (b.size - 1) = 0 by omega]
      omega
    rw [x1, if_pos (by omega)]
    simp [cmpN, h, orI]
  · have e : wrap64 (mx (a.size : Int) (b.size : Int) - 1) = (a.size : Int) - 1 := by unfold wrap64 mx; (repeat' split) <;> omega
    rw [e, rnum_l0 a b ha hb (num_dig na) (num_dig nb) h a.size k (Nat.le_refl _) (by omega), Nat.sub_self]
    simp [cmpN, h, orI]
  · have e : wrap64 (mx (a.size : Int) (b.size : Int) - 1) = ((a.size - 1 : Nat) : Int) := by unfold wrap64 mx; (repeat' split) <;> omega
    rw [e]
    obtain ⟨j, rfl⟩ : ∃ j, k = j + 1 := ⟨k - 1, by omega⟩
    simp only [graftwoodref02_Cmp.l0]
    rw [if_pos (by omega), at_val a ha (num_dig na) _ (by omega), at_val b hb (num_dig nb) _ (by omega)]
    simp only [Option.bind_some]
    have x1 : atI (bs b) (a.size - 1) = 0 := by unfold atI; rw [bs_length, if_pos (by omega)]
    have x2 : 1 ≤ atI (bs a) (a.size - 1) := by
      have := lead_digit na (by rw [bs_length]; omega)
      unfold atI
      rw [bs_length, if_neg (by omega), show a.size - 1 - (a.size - 1) = 0 by omega]
      omega
    rw [x1, if_neg (by omega), if_pos (by omega)]
    have h3 : ¬ a.size < b.size := by omega
    simp [cmpN, h, h3, orI]
theorem rwords_val (a b : ByteArray) (ha : Small a) (hb : Small b) (k : Nat) (hk : 2 * a.size + b.size + 4 ≤ k) : graftwoodref03_words.f k a b = some (wordC (bs a) (bs b)) := by
  obtain ⟨j, rfl⟩ : ∃ j, k = j + 1 := ⟨k - 1, by omega⟩
  unfold graftwoodref03_words.f
  rw [ref2May_tot a ha _ (by omega), ref2May_tot b hb _ (by omega)]
  cases na : isNum (bs a) <;> cases nb : isNum (bs b)
  · simp [graftwoodref03_words.j0, wordC, na, nb, rcmp1_val a b ha hb j (by omega)]
  · simp [graftwoodref03_words.j0, wordC, na, nb]
  · simp [graftwoodref03_words.j0, wordC, na, nb]
  · simp [graftwoodref03_words.j0, wordC, na, nb, rnum_val a b ha hb na nb j (by omega)]
end Go.Proofs.YtodkjmbmlobihaaDoor.Q
end

section
namespace Go.Proofs.YtodkjmbmlobihaaDoor.Q
open Go.Proofs.YtodkjmbmlobihaaDoor.QB.D
open Go Go.RowKit Go.Lib Go.Proofs.YtodkjmbmlobihaaDoorW.PrintWords Go.Proofs.YtodkjmbmlobihaaDoorW.PrintLast Go.Proofs.YtodkjmbmlobihaaDoorW.PrintMore Gw
set_option linter.unusedVariables false
set_option linter.unusedSimpArgs false
theorem ref5May_val (k : Nat) (x : S24) (hx : Brief x) (hk : 900 ≤ k) : graftwoodref05_May.f k x.f0 x.f1 = some (mayN x) := by
  have h0 : Small x.f0 := by have := hx.1; unfold Small; omega
  have h1 : Small x.f1 := by have := hx.2; unfold Small; omega
  unfold graftwoodref05_May.f
  rw [ref4May_tot _ h0 k (by have := hx.1; omega)]
  unfold graftwoodref03_May.f graftwoodref03_Split.f
  rw [if_pos h1]
  simp only [Option.bind_some]
  rw [splitV_ok]
  show _ = some (isPath (bs x.f0) && isVersion (bs x.f1))
  cases isPath (bs x.f0) <;> rfl
theorem node_eqy (x : S24) : (!(x.f0.toList == ([] : List UInt8)) || !(x.f1.toList == ([] : List UInt8))) = !decide (x = z24) := by
  rw [← node_eqz]
  have e : (⟨#[]⟩ : ByteArray).toList = [] := by rw [ByteArray.toList_eq]
  rw [e, Bool.not_and]
theorem okE_cons (x : S34) (r : List S34) : okE (x :: r) = (!badE x && okE r) := by unfold okE; simp
theorem may18_l0 (l : List S34) (hl : l.length ≤ 65536) (hb : ∀ e ∈ l, Brief e.f0 ∧ Brief e.f1) : ∀ (r i k : Nat), i + r = l.length → r + 1000 ≤ k → graftwoodref18_May.l0 k l (i : Int) = some (okE (l.drop i)) := by
  intro r
  induction r with
  | zero =>
    intro i k hi hk
    obtain ⟨j, rfl⟩ : ∃ j, k = j + 1 := ⟨k - 1, by omega⟩
    simp only [graftwoodref18_May.l0]
    rw [if_neg (by omega), List.drop_eq_nil_of_le (by omega)]
    rfl
  | succ r ih =>
    intro i k hi hk
    obtain ⟨j, rfl⟩ : ∃ j, k = j + 1 := ⟨k - 1, by omega⟩
    have hil : i < l.length := by omega
    have hx := hb _ (List.getElem_mem hil)
    have hwr : wrap64 ((i : Int) + 1) = ((i + 1 : Nat) : Int) := by unfold wrap64; omega
    have ih' := ih (i + 1) j (by omega) (by omega)
    simp only [graftwoodref18_May.l0]
    rw [if_pos (by omega), if_pos (by omega), rd_needs hil, ref5May_val j l[i].f1 hx.2 (by omega), ref5May_val j l[i].f0 hx.1 (by omega), node_eqy, hwr, ih', List.drop_eq_getElem_cons hil, okE_cons]
    unfold badE
    simp only [Option.bind_some]
    cases mayN l[i].f1 <;> cases mayN l[i].f0 <;> by_cases hz : l[i].f0 = z24 <;> simp [hz]
theorem ref18May_val (l : List S34) (hl : l.length ≤ 65536) (hb : ∀ e ∈ l, Brief e.f0 ∧ Brief e.f1) (k : Nat) (hk : l.length + 1000 ≤ k) : graftwoodref18_May.f k l = some (okE l) := by
  have h := may18_l0 l hl hb l.length 0 k (by omega) hk
  rw [List.drop_zero] at h
  exact h
end Go.Proofs.YtodkjmbmlobihaaDoor.Q
end
