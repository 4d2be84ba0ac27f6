/- Part 9 of this claim: several texts one behind the other: PureStays. What each shows stands in its theorems; conditions: sizes of texts and lists, as the functions' definitions say. -/
import Derived.Test.YtnknjhdpjjddeaaDoorMNodeStays3
import Derived.Test.YtnknjhdpjjddeaaDoorMNodeStays6
import Derived.Test.YtnknjhdpjjddeaaDoorMNodeStays0
import Derived.Test.YtnknjhdpjjddeaaDoorMNodeStays8
import Derived.Test.YtnknjhdpjjddeaaDoorMNodeStays5
import Derived.Test.YtnknjhdpjjddeaaDoorMNodeStays7
section
namespace Go.Proofs.YtnknjhdpjjddeaaDoor.Q
open Go.Proofs.YtnknjhdpjjddeaaDoor.QB.D
open Go Go.RowKit Go.Lib Go.Proofs.YtnknjhdpjjddeaaDoorW.PrintWords Go.Proofs.YtnknjhdpjjddeaaDoorW.PrintLast Go.Proofs.YtnknjhdpjjddeaaDoorW.PrintMore Gw
set_option linter.unusedVariables false
set_option linter.unusedSimpArgs false
theorem in_parts (sep : Nat) : ∀ (s : List Nat) (c : Nat), c ∈ s → c = sep ∨ ∃ p ∈ parts sep s, c ∈ p
  | x :: r, c, h => by
    obtain ⟨q, qs, hq⟩ := parts_cons sep r
    by_cases hx : x = sep
    · subst hx
      rw [parts_sep]
      rcases List.mem_cons.1 h with e | e
      · exact Or.inl e
      · rcases in_parts x r c e with e2 | ⟨p, hp, hc⟩
        · exact Or.inl e2
        · exact Or.inr ⟨p, List.mem_cons_of_mem _ hp, hc⟩
    · rw [parts_other hx hq]
      rcases List.mem_cons.1 h with e | e
      · exact Or.inr ⟨x :: q, List.mem_cons_self, by rw [e]; exact List.mem_cons_self⟩
      · rcases in_parts sep r c e with e2 | ⟨p, hp, hc⟩
        · exact Or.inl e2
        · rw [hq] at hp
          rcases List.mem_cons.1 hp with e3 | e3
          · exact Or.inr ⟨x :: q, List.mem_cons_self, List.mem_cons_of_mem _ (by rw [← e3]; exact hc)⟩
          · exact Or.inr ⟨p, List.mem_cons_of_mem _ e3, hc⟩
theorem path_no_at {s : List Nat} (h : isPath s = true) : ∀ c ∈ s, c ≠ 64 := by
  intro c hc e
  subst e
  rcases in_parts 47 s 64 hc with e | ⟨p, hp, hc⟩
  · cases e
  · have h1 : isElem p = true := List.all_eq_true.1 h p hp
    unfold isElem at h1
    cases p with
    | nil => cases hc
    | cons x r =>
      simp only [Bool.and_eq_true] at h1
      have h2 := List.all_eq_true.1 h1.2 64 hc
      revert h2
      decide
theorem read_text (k : Nat) (x : S23) (bx : Brief x) (hm : mayN x = true) (hk : 1100 ≤ k) : node_Read.f k (x.f0 ++ (⟨#[64]⟩ : ByteArray) ++ x.f1) = some (x.f0, x.f1, 0) := by
  have hsz : (x.f0 ++ (⟨#[64]⟩ : ByteArray) ++ x.f1).size ≤ 1000 := by
    rw [ByteArray.size_append, ByteArray.size_append]
    have := bx.1; have := bx.2
    show x.f0.size + 1 + x.f1.size ≤ _
    omega
  rw [readM_val k _ hsz hk]
  have hp : isPath (bs x.f0) = true := by
    unfold mayN isNode np at hm
    rw [Bool.and_eq_true] at hm
    exact hm.1
  have hc : cutOut (cutAt 64 (bs (x.f0 ++ (⟨#[64]⟩ : ByteArray) ++ x.f1))) = (x.f0, x.f1, true) := by
    rw [bs_append, bs_append, List.append_assoc, show bs (⟨#[64]⟩ : ByteArray) ++ bs x.f1 = 64 :: bs x.f1 from rfl, cutAt_hit _ (path_no_at hp)]
    show (ofB (bs x.f0), ofB (bs x.f1), true) = _
    rw [ofB_bs, ofB_bs]
  rw [hc]
  simp only []
  rw [if_pos hm]
theorem stays_l0 (l s : List S23) (a b : ByteArray) (hl : l.length ≤ 24) : ∀ (n k : Nat) (acc : List S23), n ≤ l.length → acc.length + n ≤ 24 →
    graftwoodlaw05_NodeStays.l0 (k + n) l s acc ((n : Int) - 1) a b = graftwoodlaw05_NodeStays.l0 k l s (acc ++ (l.take n).reverse) (-1) a b := by
  intro n
  induction n with
  | zero => intro k acc _ _; simp
  | succ n ih =>
    intro k acc hn ha
    have hi : n < l.length := by omega
    rw [show k + (n + 1) = (k + n) + 1 by omega]
    conv => lhs; unfold graftwoodlaw05_NodeStays.l0
    have e1 : ((n + 1 : Nat) : Int) - 1 = (n : Int) := by omega
    rw [e1, if_pos (by omega), if_pos (by omega), if_pos (by omega), if_pos (by omega), rd_nat hi, show wrap64 ((n : Int) - 1) = (n : Int) - 1 by unfold wrap64; omega]
    rw [ih k _ (by omega) (by rw [List.length_append]; simp only [List.length_cons, List.length_nil]; omega), List.take_succ_eq_append_getElem hi, List.reverse_append, List.append_assoc]
    rfl
set_option maxHeartbeats 2000000 in
theorem stays_true (k : Nat) (hk : 8589934700 ≤ k) (l : List S23) (a b : ByteArray) : graftwoodlaw05_NodeStays.f (k + 2 + (fewN l).length + 1) l a b = some true := by
  unfold graftwoodlaw05_NodeStays.f
  rw [fewN_val l _ (by omega), One_val]
  simp only [Option.bind_some]
  have hl := fewN_len l
  have bl := fewN_brief l
  have b1 := few_size a
  have b2 := few_size b
  generalize fewN l = m at *
  generalize few a = x at *
  generalize few b = y at *
  have bt : Brief ⟨x, y⟩ := ⟨b1, b2⟩
  have tl : ∀ z ∈ m, TinyN z := fun z h => (bl z h).tiny
  have hw := awake_val k (by omega)
  have hw2 := awake_val (k + 2 + m.length) (by omega)
  have hM := node_May_val (k + 2 + m.length + 1) ⟨x, y⟩ bt.tiny (by simp only []; omega)
  simp only [] at hM
  have hS : node_Set.f m = some (if m.all mayN then (setN m, 0) else ([], 1)) := if_pos ⟨by omega, tl⟩
  rw [hS, hM]
  simp only [Option.bind_some]
  cases ha : m.all mayN with
  | false => simp [graftwoodlaw05_NodeStays.j0, hw2]
  | true =>
    cases hm : mayN (⟨x, y⟩ : S23) with
    | false => simp [graftwoodlaw05_NodeStays.j0, hw2]
    | true =>
      simp only [if_true, Bool.not_true, graftwoodlaw05_NodeStays.j0, Bool.false_eq_true, if_false]
      have hmay : ∀ z ∈ m, mayN z = true := fun z h => List.all_eq_true.1 ha z h
      have ss := setN_set tl hmay
      have bs_ : ∀ z ∈ setN m, Brief z := fun z h => bl z ((mem_setN m z).1 h)
      have ls : (setN m).length ≤ m.length := by
        have h1 := (sortN_perm (ded m)).length_eq
        have h2 := ded_len m m.length (Nat.le_refl _)
        rw [List.take_length] at h2
        show (sortN (ded m)).length ≤ _
        omega
      have gt := mayN_good bt.tiny hm
      have tr : ∀ z ∈ m.reverse, TinyN z := fun z h => tl z (List.mem_reverse.1 h)
      have mr : ∀ z ∈ m.reverse, mayN z = true := fun z h => hmay z (List.mem_reverse.1 h)
      have hR : node_Set.f m.reverse = some (setN m.reverse, 0) := by
        have h : node_Set.f m.reverse = some (if m.reverse.all mayN then (setN m.reverse, 0) else ([], 1)) := if_pos ⟨by rw [List.length_reverse]; omega, tr⟩
        rw [if_pos (List.all_eq_true.2 mr)] at h; exact h
      have er : setN m = setN m.reverse := ss.ext (setN_set tr mr) (fun z => by rw [mem_setN, mem_setN, List.mem_reverse])
      have ws := withN_set ss gt hm
      have mw := mem_withN ss gt hm
      have bw : ∀ z ∈ withN (setN m) ⟨x, y⟩, Brief z := fun z h => ((mw z).1 h).elim (bs_ z) (fun e => by rw [e]; exact bt)
      have lw : (withN (setN m) ⟨x, y⟩).length ≤ (setN m).length + 1 := by
        rw [withN_ref ss gt hm]
        have h := (List.length_filter_le (fun z => decide (ordN z ⟨x, y⟩ < 0)) (setN m))
        have h' := (List.length_filter_le (fun z => decide (ordN ⟨x, y⟩ z < 0)) (setN m))
        rw [← withN_ref ss gt hm]
        unfold withN
        split
        · omega
        · rw [List.length_append, List.length_append, List.length_take, List.length_drop]
          simp only [List.length_cons, List.length_nil]
          omega
      have cs : (setN m).length ≤ 4294967296 ∧ (∀ z ∈ setN m, TinyN z) ∧ TinyN (⟨x, y⟩ : S23) := ⟨by omega, fun z h => (bs_ z h).tiny, bt.tiny⟩
      have cw : (withN (setN m) ⟨x, y⟩).length ≤ 4294967296 ∧ (∀ z ∈ withN (setN m) ⟨x, y⟩, TinyN z) ∧ TinyN (⟨x, y⟩ : S23) := ⟨by omega, fun z h => (bw z h).tiny, bt.tiny⟩
      have hW : node_With.f (setN m) x y = some (withN (setN m) ⟨x, y⟩, 0) := by
        have h : node_With.f (setN m) x y = some (if checkN (setN m) = true ∧ mayN ⟨x, y⟩ = true then (withN (setN m) ⟨x, y⟩, 0) else ([], 1)) := if_pos cs
        rw [if_pos ⟨ss.check, hm⟩] at h; exact h
      have hO : node_Without.f (withN (setN m) ⟨x, y⟩) x y = some (woutN (withN (setN m) ⟨x, y⟩) ⟨x, y⟩, 0) := by
        have h : node_Without.f (withN (setN m) ⟨x, y⟩) x y = some (if checkN (withN (setN m) ⟨x, y⟩) = true ∧ mayN ⟨x, y⟩ = true then (woutN (withN (setN m) ⟨x, y⟩) ⟨x, y⟩, 0) else ([], 1)) := if_pos cw
        rw [if_pos ⟨ws.check, hm⟩] at h; exact h
      have hF1 : node_Has.f (setN m) x y = some (decide ((⟨x, y⟩ : S23) ∈ setN m), 0) := by
        have h : node_find.f (setN m) x y = some (if checkN (setN m) = true ∧ mayN ⟨x, y⟩ = true then (((ahead (setN m) ⟨x, y⟩ : Nat) : Int), decide ((⟨x, y⟩ : S23) ∈ setN m), (0 : Int)) else (0, false, 1)) := if_pos cs
        rw [if_pos ⟨ss.check, hm⟩] at h
        unfold node_Has.f; rw [h]; rfl
      have hF2 : node_Has.f (withN (setN m) ⟨x, y⟩) x y = some (true, 0) := by
        have h : node_find.f (withN (setN m) ⟨x, y⟩) x y = some (if checkN (withN (setN m) ⟨x, y⟩) = true ∧ mayN ⟨x, y⟩ = true then (((ahead (withN (setN m) ⟨x, y⟩) ⟨x, y⟩ : Nat) : Int), decide ((⟨x, y⟩ : S23) ∈ withN (setN m) ⟨x, y⟩), (0 : Int)) else (0, false, 1)) := if_pos cw
        rw [if_pos ⟨ws.check, hm⟩, decide_eq_true ((mw _).2 (Or.inr rfl))] at h
        unfold node_Has.f; rw [h]; rfl
      have hN : node_Minus.f (setN m) (setN m) = some ([], 0) := by
        have h : node_Minus.f (setN m) (setN m) = some (if checkN (setN m) = true ∧ checkN (setN m) = true then ((setN m).filter (fun z => !decide (z ∈ setN m)), 0) else ([], 1)) := if_pos ⟨by omega, by omega, cs.2.1, cs.2.1⟩
        rw [if_pos ⟨ss.check, ss.check⟩, List.filter_eq_nil_iff.2 (fun z h => by simp [h])] at h; exact h
      have c1 := check_val (setN m) (by omega) cs.2.1 (k + 1) (by omega)
      have c2 := check_val (withN (setN m) ⟨x, y⟩) (by omega) cw.2.1 (k + 1) (by omega)
      rw [ss.check] at c1
      rw [ws.check] at c2
      have sv := same_val (setN m) (setN m.reverse) (by omega) (k + 1) (by omega)
      rw [decide_eq_true er] at sv
      have hT : node_Text.f x y = some (x ++ (⟨#[64]⟩ : ByteArray) ++ y) := by
        have z1 : x.size + 1 ≤ 9223372036854775807 := by omega
        have z2 : (x ++ (⟨#[64]⟩ : ByteArray)).size + y.size ≤ 9223372036854775807 := by
          rw [ByteArray.size_append]; show x.size + 1 + y.size ≤ _; omega
        unfold node_Text.f
        simp only [if_pos z1, if_pos z2]
      have hRd := read_text k ⟨x, y⟩ bt hm (by omega)
      simp only [] at hRd
      have hj2 : graftwoodlaw05_NodeStays.j2 (k + 1) (setN m) (withN (setN m) ⟨x, y⟩) (woutN (withN (setN m) ⟨x, y⟩) ⟨x, y⟩) (decide ((⟨x, y⟩ : S23) ∈ setN m)) true [] false x y = some true := by
        simp only [graftwoodlaw05_NodeStays.j2, Bool.false_eq_true, if_false]
        rw [hT]
        simp only [Option.bind_some]
        rw [hRd]
        simp only [Option.bind_some, if_true, List.length_nil, beq_self_eq_true, Bool.and_self]
        rw [if_pos (by rfl)]
        by_cases hin : (⟨x, y⟩ : S23) ∈ setN m
        · have e : withN (setN m) ⟨x, y⟩ = setN m := if_pos hin
          have s2 := same_val (withN (setN m) ⟨x, y⟩) (setN m) (by omega) k (by omega)
          rw [decide_eq_true e] at s2
          rw [if_pos (decide_eq_true hin), s2]
          simp only [Option.bind_some, if_true, hw]
        · have e : woutN (withN (setN m) ⟨x, y⟩) ⟨x, y⟩ = setN m := (woutN_set ws gt).ext ss (fun z => by
            rw [mem_woutN ws gt, mw z]
            constructor
            · rintro ⟨h | h, h2⟩
              · exact h
              · exact absurd h h2
            · intro h
              exact ⟨Or.inl h, fun e => hin (by rw [← e]; exact h)⟩)
          have s2 := same_val (woutN (withN (setN m) ⟨x, y⟩) ⟨x, y⟩) (setN m) (by rw [e]; omega) k (by rw [e]; omega)
          rw [decide_eq_true e] at s2
          rw [if_neg (by simp [hin]), s2]
          simp only [Option.bind_some, if_true, hw]
      have h0 := stays_l0 m (setN m) x y hl m.length (k + 2) [] (Nat.le_refl _) (by simp only [List.length_nil]; omega)
      rw [List.take_length, List.nil_append] at h0
      rw [show wrap64 ((m.length : Int) - 1) = (m.length : Int) - 1 by unfold wrap64; omega]
      refine h0.trans ?_
      conv => lhs; unfold graftwoodlaw05_NodeStays.l0
      rw [if_neg (by decide), hR]
      simp only [Option.bind_some]
      rw [hW]
      simp only [Option.bind_some]
      rw [hO, hF1, hF2, hN]
      simp only [Option.bind_some, if_true]
      rw [c1, c2]
      simp only [Option.bind_some, okI, if_true]
      rw [sv]
      simp only [Option.bind_some, Bool.not_true]
      exact hj2
end Go.Proofs.YtnknjhdpjjddeaaDoor.Q
end
