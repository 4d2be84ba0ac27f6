/- Part 13 of this claim: several texts one behind the other: RLess5, RMay5, RChk5, RWith5, PureSets. What each shows stands in its theorems; conditions: sizes of texts and lists, as the functions' definitions say. -/
import Derived.Test.YtnknjhdpjjddeaaGreatDoorMNodeSets0
import Derived.Test.YtnknjhdpjjddeaaGreatDoorMNodeSets9
import Derived.Test.YtnknjhdpjjddeaaGreatDoorMNodeSets6
import Derived.Test.YtnknjhdpjjddeaaGreatDoorMNodeSets8
import Derived.Test.YtnknjhdpjjddeaaGreatDoorMNodeSets3
import Derived.Test.YtnknjhdpjjddeaaGreatDoorMNodeSets10
import Derived.Test.YtnknjhdpjjddeaaGreatDoorMNodeSets7
import Derived.Test.YtnknjhdpjjddeaaGreatDoorMNodeSets11
import Derived.Test.YtnknjhdpjjddeaaGreatDoorMNodeSets12
section
namespace Go.Proofs.YtnknjhdpjjddeaaGreatDoor.Q
open Go.Proofs.YtnknjhdpjjddeaaGreatDoor.QB.D
open Go Go.RowKit Go.Lib Go.Proofs.YtnknjhdpjjddeaaGreatDoorW.PrintWords Go.Proofs.YtnknjhdpjjddeaaGreatDoorW.PrintLast Go.Proofs.YtnknjhdpjjddeaaGreatDoorW.PrintMore Gw
set_option linter.unusedVariables false
set_option linter.unusedSimpArgs false
theorem less_val (k : Nat) (x y : S32) (hx : Brief x) (hy : Brief y) (gx : GoodN x) (gy : GoodN y) (hk : 900 ≤ k) : graftwoodref05_Less.f k x.f0 x.f1 y.f0 y.f1 = some (decide (ordN x y < 0)) := by
  have h0 : Small x.f0 := by have := hx.1; unfold Small; omega
  have h1 : Small y.f0 := by have := hy.1; unfold Small; omega
  unfold graftwoodref05_Less.f
  rw [rcmp1_val _ _ h0 h1 k (by have := hx.1; omega)]
  have hc : graftwoodref03_Cmp.f x.f1 y.f1 = some (verC (vOf (bs x.f1)) (vOf (bs y.f1))) := by
    unfold graftwoodref03_Cmp.f
    rw [if_pos ⟨⟨gx.2.1, gy.2.1⟩, gx.2.2, gy.2.2⟩]
  rw [hc]
  simp only [Option.bind_some]
  have ho : ordN x y = orI (lexC (bs x.f0) (bs y.f0)) (verC (vOf (bs x.f1)) (vOf (bs y.f1))) := rfl
  rw [ho]
  unfold orI
  by_cases c1 : lexC (bs x.f0) (bs y.f0) < 0
  · rw [if_pos c1, if_neg (by omega), decide_eq_true c1]
  · rw [if_neg c1]
    by_cases c2 : lexC (bs x.f0) (bs y.f0) = 0
    · rw [if_pos c2, if_pos c2]
    · rw [if_neg c2, if_neg c2, decide_eq_false c1]
theorem ref5May_val (k : Nat) (x : S32) (hx : Brief x) (hk : 900 ≤ k) : graftwoodref05_May.f k x.f0 x.f1 = some (mayN x) := by
  have h0 : Small x.f0 := by have := hx.1; unfold Small; omega
  have h1 : Small x.f1 := by have := hx.2; unfold Small; omega
  unfold graftwoodref05_May.f
  rw [ref4May_tot _ h0 k (by have := hx.1; omega)]
  unfold graftwoodref03_May.f graftwoodref03_Split.f
  rw [if_pos h1]
  simp only [Option.bind_some]
  rw [splitV_ok]
  show _ = some (isPath (bs x.f0) && isVersion (bs x.f1))
  cases isPath (bs x.f0) <;> rfl
theorem rchk_l0 (l : List S32) (hl : l.length ≤ 4294967296) (hb : ∀ x ∈ l, Brief x) : ∀ (n i k : Nat) (p : Option S32), l.length ≤ i + n → i ≤ l.length → n + 1000 ≤ k →
    (p = if i = 0 then none else l[i - 1]?) → (∀ q, p = some q → mayN q = true) → graftwoodref05_Check.l0 k l (i : Int) = some (chk p (l.drop i)) := by
  intro n
  induction n with
  | zero =>
    intro i k p h1 h2 hk hp hq
    obtain ⟨j, rfl⟩ : ∃ j, k = j + 1 := ⟨k - 1, by omega⟩
    have e : i = l.length := by omega
    subst e
    simp only [graftwoodref05_Check.l0]
    rw [if_neg (by omega), List.drop_length]
    cases p <;> rfl
  | succ n ih =>
    intro i k p h1 h2 hk hp hq
    obtain ⟨j, rfl⟩ : ∃ j, k = j + 1 := ⟨k - 1, by omega⟩
    by_cases hi : i < l.length
    · have hx := hb _ (List.getElem_mem hi)
      have hwr : wrap64 ((i : Int) + 1) = ((i + 1 : Nat) : Int) := by unfold wrap64; omega
      simp only [graftwoodref05_Check.l0]
      rw [if_pos (by omega), if_pos (by omega), rd_nat hi, ref5May_val j l[i] hx (by omega), List.drop_eq_getElem_cons hi]
      simp only [Option.bind_some, chk]
      cases hm : mayN l[i]
      · rfl
      · rw [if_pos rfl]
        have hnext : graftwoodref05_Check.l0 j l (wrap64 ((i : Int) + 1)) = some (chk (some l[i]) (l.drop (i + 1))) := by
          rw [hwr]
          refine ih (i + 1) j _ (by omega) (by omega) (by omega) ?_ ?_
          · rw [if_neg (by omega), Nat.add_sub_cancel, List.getElem?_eq_getElem hi]
          · intro q hqq
            injection hqq with hqq
            rw [← hqq]; exact hm
        by_cases h0 : i = 0
        · subst h0
          have hp' : p = none := by rw [hp]; rfl
          subst hp'
          rw [if_neg (by omega), hnext]
          rfl
        · have hi1 : i - 1 < l.length := by omega
          have hp' : p = some l[i - 1] := by rw [hp, if_neg h0, List.getElem?_eq_getElem hi1]
          subst hp'
          have hm1 := hq _ rfl
          have hx1 := hb _ (List.getElem_mem hi1)
          have hw1 : wrap64 ((i : Int) - 1) = ((i - 1 : Nat) : Int) := by unfold wrap64; omega
          rw [if_pos (by omega), hw1, if_pos (by omega), if_pos (by omega), rd_nat hi1, less_val j l[i - 1] l[i] hx1 hx (mayN_good hx1.tiny hm1) (mayN_good hx.tiny hm) (by omega)]
          simp only [Option.bind_some]
          by_cases ho : ordN l[i - 1] l[i] < 0
          · rw [decide_eq_true ho, if_pos rfl, hnext]
            rfl
          · rw [decide_eq_false ho, if_neg (by decide)]
            rfl
    · have e : i = l.length := by omega
      subst e
      simp only [graftwoodref05_Check.l0]
      rw [if_neg (by omega), List.drop_length]
      cases p <;> rfl
theorem rcheck_val (l : List S32) (hl : l.length ≤ 4294967296) (hb : ∀ x ∈ l, Brief x) (k : Nat) (hk : l.length + 1000 ≤ k) : graftwoodref05_Check.f k l = some (checkN l) := by
  have h := rchk_l0 l hl hb l.length 0 k none (by omega) (Nat.zero_le _) hk rfl (fun q h => by cases h)
  rw [List.drop_zero] at h
  exact h
theorem rwith_l1 (l : List S32) (t : S32) (hl : l.length ≤ 2147483648) (hb : ∀ x ∈ l, Brief x) (hg : ∀ x ∈ l, GoodN x) (bt : Brief t) (gt : GoodN t) : ∀ (n i k : Nat) (acc : List S32), l.length ≤ i + n → i ≤ l.length → n + 1000 ≤ k → acc.length ≤ 4294967296 + i →
    graftwoodref05_With.l1 k l acc (i : Int) t.f0 t.f1 = some (acc ++ (l.drop i).filter (fun x => decide (ordN t x < 0))) := by
  intro n
  induction n with
  | zero =>
    intro i k acc h1 h2 hk ha
    obtain ⟨j, rfl⟩ : ∃ j, k = j + 1 := ⟨k - 1, by omega⟩
    simp only [graftwoodref05_With.l1]
    rw [if_neg (by omega), List.drop_of_length_le (by omega)]
    simp
  | succ n ih =>
    intro i k acc h1 h2 hk ha
    obtain ⟨j, rfl⟩ : ∃ j, k = j + 1 := ⟨k - 1, by omega⟩
    by_cases hi : i < l.length
    · have hm := List.getElem_mem hi
      have hwr : wrap64 ((i : Int) + 1) = ((i + 1 : Nat) : Int) := by unfold wrap64; omega
      simp only [graftwoodref05_With.l1]
      rw [if_pos (by omega), if_pos (by omega), rd_nat hi, less_val j t l[i] bt (hb _ hm) gt (hg _ hm) (by omega), List.drop_eq_getElem_cons hi, hwr]
      simp only [Option.bind_some]
      by_cases ho : ordN t l[i] < 0
      · rw [decide_eq_true ho, if_pos rfl, if_pos (by omega), List.filter_cons_of_pos (by simp [ho]), ih (i + 1) j _ (by omega) (by omega) (by omega) (by simp; omega)]
        simp
      · rw [decide_eq_false ho, if_neg (by decide), List.filter_cons_of_neg (by simp [ho]), ih (i + 1) j _ (by omega) (by omega) (by omega) (by omega)]
    · exact ih i (j + 1) acc (by omega) h2 (by omega) ha
theorem rwith_l0 (l : List S32) (t : S32) (hl : l.length ≤ 2147483648) (hb : ∀ x ∈ l, Brief x) (hg : ∀ x ∈ l, GoodN x) (bt : Brief t) (gt : GoodN t) : ∀ (n i k : Nat) (acc : List S32), l.length ≤ i + n → i ≤ l.length → n + l.length + 1001 ≤ k → acc.length ≤ i →
    graftwoodref05_With.l0 k l acc (i : Int) t.f0 t.f1 = some (acc ++ (l.drop i).filter (fun x => decide (ordN x t < 0)) ++ [t] ++ l.filter (fun x => decide (ordN t x < 0))) := by
  intro n
  induction n with
  | zero =>
    intro i k acc h1 h2 hk ha
    obtain ⟨j, rfl⟩ : ∃ j, k = j + 1 := ⟨k - 1, by omega⟩
    have h9 := rwith_l1 l t hl hb hg bt gt l.length 0 j (acc ++ [t]) (by omega) (Nat.zero_le _) (by omega) (by simp; omega)
    simp only [graftwoodref05_With.l0]
    rw [if_neg (by omega), if_pos (by omega), List.drop_of_length_le (by omega)]
    refine h9.trans ?_
    simp
  | succ n ih =>
    intro i k acc h1 h2 hk ha
    obtain ⟨j, rfl⟩ : ∃ j, k = j + 1 := ⟨k - 1, by omega⟩
    by_cases hi : i < l.length
    · have hm := List.getElem_mem hi
      have hwr : wrap64 ((i : Int) + 1) = ((i + 1 : Nat) : Int) := by unfold wrap64; omega
      simp only [graftwoodref05_With.l0]
      rw [if_pos (by omega), if_pos (by omega), rd_nat hi, less_val j l[i] t (hb _ hm) bt (hg _ hm) gt (by omega), List.drop_eq_getElem_cons hi, hwr]
      simp only [Option.bind_some]
      by_cases ho : ordN l[i] t < 0
      · rw [decide_eq_true ho, if_pos rfl, if_pos (by omega), List.filter_cons_of_pos (by simp [ho]), ih (i + 1) j _ (by omega) (by omega) (by omega) (by simp; omega)]
        simp
      · rw [decide_eq_false ho, if_neg (by decide), List.filter_cons_of_neg (by simp [ho]), ih (i + 1) j _ (by omega) (by omega) (by omega) (by omega)]
    · exact ih i (j + 1) acc (by omega) h2 (by omega) ha
theorem rwith_val (l : List S32) (t : S32) (hl : l.length ≤ 2147483648) (hb : ∀ x ∈ l, Brief x) (hg : ∀ x ∈ l, GoodN x) (bt : Brief t) (gt : GoodN t) (k : Nat) (hk : 2 * l.length + 1001 ≤ k) :
    graftwoodref05_With.f k l t.f0 t.f1 = some (rwithN l t) := by
  have h := rwith_l0 l t hl hb hg bt gt l.length 0 k [] (by omega) (Nat.zero_le _) (by omega) (Nat.le_refl _)
  rw [List.drop_zero] at h
  exact h
theorem filter_two {α : Type} (p q : α → Bool) : ∀ (l : List α), (∀ x ∈ l, ¬ (p x = true ∧ q x = true)) → (l.filter p).length + (l.filter q).length ≤ l.length
  | [], _ => by simp
  | x :: r, h => by
    have ih := filter_two p q r (fun y hy => h y (List.mem_cons_of_mem _ hy))
    have hx := h x List.mem_cons_self
    simp only [List.filter_cons, List.length_cons]
    cases hp : p x <;> cases hq : q x <;> simp_all <;> omega
theorem rwithN_len {l : List S32} {t : S32} (hg : ∀ x ∈ l, GoodN x) (gt : GoodN t) : (rwithN l t).length ≤ l.length + 1 := by
  have h := filter_two (fun x => decide (ordN x t < 0)) (fun x => decide (ordN t x < 0)) l (fun x hx h => by
    have h1 : ordN x t < 0 := of_decide_eq_true h.1
    have h2 : ordN t x < 0 := of_decide_eq_true h.2
    have := ordN_to.sym x t (hg x hx) gt
    omega)
  unfold rwithN
  simp only [List.length_append, List.length_cons, List.length_nil]
  omega
theorem rset_l0 (l : List S32) (hl : l.length ≤ 2147483648) (hb : ∀ x ∈ l, Brief x) (hm : ∀ x ∈ l, mayN x = true) : ∀ (n i k : Nat) (acc : List S32), l.length ≤ i + n → i ≤ l.length → n + 2 * l.length + 1002 ≤ k → acc.length ≤ i → (∀ x ∈ acc, Brief x ∧ GoodN x) →
    graftwoodref05_Set.l0 k l acc (i : Int) = some ((l.drop i).foldl rwithN acc) := by
  intro n
  induction n with
  | zero =>
    intro i k acc h1 h2 hk ha hx
    obtain ⟨j, rfl⟩ : ∃ j, k = j + 1 := ⟨k - 1, by omega⟩
    simp only [graftwoodref05_Set.l0]
    rw [if_neg (by omega), List.drop_of_length_le (by omega)]
    rfl
  | succ n ih =>
    intro i k acc h1 h2 hk ha hx
    obtain ⟨j, rfl⟩ : ∃ j, k = j + 1 := ⟨k - 1, by omega⟩
    by_cases hi : i < l.length
    · have hmm := List.getElem_mem hi
      have bt := hb _ hmm
      have gt := mayN_good bt.tiny (hm _ hmm)
      have hwr : wrap64 ((i : Int) + 1) = ((i + 1 : Nat) : Int) := by unfold wrap64; omega
      have hlen := rwithN_len (fun x h => (hx x h).2) gt
      simp only [graftwoodref05_Set.l0]
      rw [if_pos (by omega), if_pos (by omega), rd_nat hi, rwith_val acc l[i] (by omega) (fun x h => (hx x h).1) (fun x h => (hx x h).2) bt gt j (by omega), List.drop_eq_getElem_cons hi, hwr]
      simp only [Option.bind_some]
      rw [ih (i + 1) j _ (by omega) (by omega) (by omega) (by omega) (fun x h => by
        rcases (mem_rwithN (fun x h => (hx x h).2) gt x).1 h with e | e
        · exact hx x e
        · subst e; exact ⟨bt, gt⟩)]
      rfl
    · exact ih i (j + 1) acc (by omega) h2 (by omega) ha hx
theorem rset_val (l : List S32) (hl : l.length ≤ 2147483648) (hb : ∀ x ∈ l, Brief x) (hm : ∀ x ∈ l, mayN x = true) (k : Nat) (hk : 3 * l.length + 1002 ≤ k) : graftwoodref05_Set.f k l = some (rsetN l) := by
  have h := rset_l0 l hl hb hm l.length 0 k [] (by omega) (Nat.zero_le _) (by omega) (Nat.le_refl _) (fun x h => by cases h)
  rw [List.drop_zero] at h
  exact h
theorem sets_l0 (l : List S32) (hl : l.length ≤ 24) (hb : ∀ x ∈ l, Brief x) (a b : ByteArray) : ∀ (n i k : Nat) (c : Bool), l.length = i + n → 1000 ≤ k →
    graftwoodlaw05_NodeSets.l0 (k + n) l c (i : Int) a b = graftwoodlaw05_NodeSets.l0 k l (c && (l.drop i).all mayN) (l.length : Int) a b := by
  intro n
  induction n with
  | zero =>
    intro i k c h1 hk
    have e : i = l.length := by omega
    subst e
    rw [List.drop_length]
    simp
  | succ n ih =>
    intro i k c h1 hk
    have hi : i < l.length := by omega
    have hwr : wrap64 ((i : Int) + 1) = ((i + 1 : Nat) : Int) := by unfold wrap64; omega
    rw [show k + (n + 1) = (k + n) + 1 by omega]
    conv => lhs; unfold graftwoodlaw05_NodeSets.l0
    rw [if_pos (by omega), List.drop_eq_getElem_cons hi, hwr]
    cases c with
    | false =>
      rw [if_neg (by decide), ih (i + 1) k false (by omega) hk]
      simp
    | true =>
      rw [if_pos rfl, if_pos (by omega), rd_nat hi, ref5May_val _ l[i] (hb _ (List.getElem_mem hi)) (by omega)]
      simp only [Option.bind_some]
      rw [ih (i + 1) k _ (by omega) hk, List.all_cons, Bool.true_and]
set_option maxHeartbeats 2000000 in
theorem sets_true (k : Nat) (hk : 8589934700 ≤ k) (l : List S32) (a b : ByteArray) : graftwoodlaw05_NodeSets.f (k + 3 + (fewN l).length) l a b = some true := by
  unfold graftwoodlaw05_NodeSets.f
  rw [fewN_val l _ (by omega), One_val]
  simp only [Option.bind_some]
  have hl := fewN_len l
  have bl := fewN_brief l
  have b1 := few_size a
  have b2 := few_size b
  generalize fewN l = m at *
  generalize few a = x at *
  generalize few b = y at *
  have bt : Brief ⟨x, y⟩ := ⟨b1, b2⟩
  have tl : ∀ z ∈ m, TinyN z := fun z h => (bl z h).tiny
  have h0 := sets_l0 m hl bl x y m.length 0 (k + 3) true (by omega) (by omega)
  rw [List.drop_zero, Bool.true_and] at h0
  refine h0.trans ?_
  have hw := awake_val k (by omega)
  have hS : node_Set.f m = some (if m.all mayN then (setN m, 0) else ([], 1)) := if_pos ⟨by omega, tl⟩
  have hC := check_val m (by omega) tl (k + 2) (by omega)
  have hR := rcheck_val m (by omega) bl (k + 2) (by omega)
  have hR1 := rcheck_val m (by omega) bl (k + 1) (by omega)
  have hcd : m.length ≤ 4294967296 ∧ (∀ x ∈ m, TinyN x) ∧ TinyN (⟨x, y⟩ : S32) := ⟨by omega, tl, bt.tiny⟩
  have hF : node_find.f m x y = some (if checkN m = true ∧ mayN ⟨x, y⟩ = true then (((ahead m ⟨x, y⟩ : Nat) : Int), decide ((⟨x, y⟩ : S32) ∈ m), (0 : Int)) else (0, false, 1)) := if_pos hcd
  have hW : node_With.f m x y = some (if checkN m = true ∧ mayN ⟨x, y⟩ = true then (withN m ⟨x, y⟩, 0) else ([], 1)) := if_pos hcd
  have hO : node_Without.f m x y = some (if checkN m = true ∧ mayN ⟨x, y⟩ = true then (woutN m ⟨x, y⟩, 0) else ([], 1)) := if_pos hcd
  have hM := ref5May_val (k + 1) ⟨x, y⟩ bt (by omega)
  have hj2 : graftwoodlaw05_NodeSets.j1 (k + 2) m false x y = some true := by
    simp only [graftwoodlaw05_NodeSets.j1, node_Has.f, Bool.false_eq_true, if_false]
    rw [hF, hW, hO, hR1]
    simp only [Option.bind_some]
    simp only [] at hM
    cases hc : checkN m with
    | false => simp [graftwoodlaw05_NodeSets.j2, hw]
    | true =>
      cases hm : mayN (⟨x, y⟩ : S32) with
      | false => simp [graftwoodlaw05_NodeSets.j2, hw, hM, hm]
      | true =>
        have hset := (check_set tl).1 hc
        have gt := mayN_good bt.tiny hm
        have v1 := has_val m ⟨x, y⟩ (by omega) k (by omega)
        have v2 := rwith_val m ⟨x, y⟩ (by omega) bl hset.good bt gt k (by omega)
        have v3 := rminus_val m [⟨x, y⟩] (by omega) (by simp) k (by simp; omega)
        have e1 := withN_ref hset gt hm
        have e2 := woutN_eq hset gt
        have n1 : (withN m ⟨x, y⟩).length ≤ m.length + 1 := by rw [e1]; exact rwithN_len hset.good gt
        have n2 : (woutN m ⟨x, y⟩).length ≤ m.length := by rw [e2]; exact List.length_filter_le _ _
        have s1 := same_val (withN m ⟨x, y⟩) (rwithN m ⟨x, y⟩) (by omega) k (by omega)
        have s2 := same_val (woutN m ⟨x, y⟩) (m.filter (fun z => !decide (z ∈ [(⟨x, y⟩ : S32)]))) (by omega) k (by omega)
        rw [decide_eq_true e1] at s1
        rw [decide_eq_true e2] at s2
        simp only [] at v1 v2
        simp only [hm, and_self, if_true, hM, Option.bind_some, Bool.not_true, graftwoodlaw05_NodeSets.j2, Bool.false_eq_true, if_false, v1, v2, v3, s1, s2, beq_self_eq_true, hw]
  simp only [graftwoodlaw05_NodeSets.l0]
  rw [if_neg (by omega), hS, hC, hR]
  simp only [Option.bind_some]
  have hz : ((okI (checkN m) == 0) != checkN m) = false := by cases checkN m <;> rfl
  rw [hz, if_neg (by decide)]
  cases ha : m.all mayN with
  | false =>
    simp only [Bool.false_eq_true, if_false]
    exact hj2
  | true =>
    have hm : ∀ x ∈ m, mayN x = true := fun x h => List.all_eq_true.1 ha x h
    have e := setN_ref tl hm
    have hn : (setN m).length ≤ m.length := by
      have h1 := (sortN_perm (ded m)).length_eq
      have h2 := ded_len m m.length (Nat.le_refl _)
      rw [List.take_length] at h2
      show (sortN (ded m)).length ≤ _
      omega
    have s1 := same_val (setN m) (rsetN m) (by omega) (k + 2) (by omega)
    rw [decide_eq_true e] at s1
    simp only [if_true, rset_val m (by omega) bl hm (k + 2) (by omega), Option.bind_some, s1]
    exact hj2
end Go.Proofs.YtnknjhdpjjddeaaGreatDoor.Q
end
