/- Part 8 of this claim: several texts one behind the other: PureUnions. What each shows stands in its theorems; conditions: sizes of texts and lists, as the functions' definitions say. -/
import Derived.Test.YtnknjhdpjjddeaaDoorMNodeUnions6
import Derived.Test.YtnknjhdpjjddeaaDoorMNodeUnions7
import Derived.Test.YtnknjhdpjjddeaaDoorMNodeUnions5
section
namespace Go.Proofs.YtnknjhdpjjddeaaDoor.Q
open Go.Proofs.YtnknjhdpjjddeaaDoor.QB.D
open Go Go.RowKit Go.Lib Go.Proofs.YtnknjhdpjjddeaaDoorW.PrintWords Go.Proofs.YtnknjhdpjjddeaaDoorW.PrintLast Go.Proofs.YtnknjhdpjjddeaaDoorW.PrintMore Gw
set_option linter.unusedVariables false
set_option linter.unusedSimpArgs false
theorem withN_len {l : List S23} {t : S23} : (withN l t).length ≤ l.length + 1 := by
  unfold withN
  split
  · omega
  · rw [List.length_append, List.length_append, List.length_take, List.length_drop]
    simp only [List.length_cons, List.length_nil]
    omega
theorem unions_l0 (l m a b : List S23) (hl : l.length ≤ 4294967296) (hm : m.length ≤ 4294967296) (hb : b.length ≤ 4294967296) (ha : a.length ≤ 4294967296) (h1 : ∀ x ∈ a, x ∈ l ∧ x ∉ m ∧ x ∉ b) : ∀ (n i k : Nat), a.length = i + n → l.length + m.length + b.length + 1 ≤ k →
    graftwoodlaw05_NodeUnions.l0 (k + n) l m a b (i : Int) = graftwoodlaw05_NodeUnions.l0 k l m a b (a.length : Int) := by
  intro n
  induction n with
  | zero => intro i k h hk; rw [show i = a.length by omega]; rfl
  | succ n ih =>
    intro i k h hk
    have hi : i < a.length := by omega
    have hx := h1 _ (List.getElem_mem hi)
    have hwr : wrap64 ((i : Int) + 1) = ((i + 1 : Nat) : Int) := by unfold wrap64; omega
    rw [show k + (n + 1) = (k + n) + 1 by omega]
    conv => lhs; unfold graftwoodlaw05_NodeUnions.l0
    rw [if_pos (by omega), if_pos (by omega), rd_nat hi, has_val m a[i] hm (k + n) (by omega), has_val b a[i] hb (k + n) (by omega), has_val l a[i] hl (k + n) (by omega), decide_eq_false hx.2.1, decide_eq_false hx.2.2, decide_eq_true hx.1]
    simp only [Option.bind_some, Bool.false_eq_true, if_false, if_true]
    rw [hwr]
    exact ih (i + 1) k (by omega) hk
theorem unions_l1 (l m a : List S23) (hm : IsSet m) (bm : ∀ x ∈ m, Brief x) (hml : m.length ≤ 24) : ∀ (n k : Nat) (acc : List S23), n ≤ m.length → IsSet acc → (∀ x ∈ acc, Brief x) → acc.length + n ≤ 48 →
    ∃ acc', IsSet acc' ∧ (∀ x, x ∈ acc' ↔ x ∈ acc ∨ x ∈ m.take n) ∧ acc'.length ≤ 48 ∧ graftwoodlaw05_NodeUnions.l1 (k + n) l m a acc ((n : Int) - 1) = graftwoodlaw05_NodeUnions.l1 k l m a acc' (-1) := by
  intro n
  induction n with
  | zero => intro k acc _ hs hb hl; exact ⟨acc, hs, fun x => by simp, by omega, rfl⟩
  | succ n ih =>
    intro k acc hn hs hb hl
    have hi : n < m.length := by omega
    have hmm := List.getElem_mem hi
    have bt := bm _ hmm
    have gt := hm.good _ hmm
    have mt := hm.may _ hmm
    have hW : node_With.f acc m[n].f0 m[n].f1 = some (if checkN acc = true ∧ mayN m[n] = true then (withN acc m[n], 0) else ([], 1)) := if_pos ⟨by omega, fun x hx => (hb x hx).tiny, bt.tiny⟩
    rw [if_pos ⟨hs.check, mt⟩] at hW
    have hmw := mem_withN hs gt mt
    obtain ⟨acc', h1, h2, h3, h4⟩ := ih k (withN acc m[n]) (by omega) (withN_set hs gt mt) (fun x hx => by
      rcases (hmw x).1 hx with e | e
      · exact hb x e
      · rw [e]; exact bt) (by have := @withN_len acc m[n]; omega)
    refine ⟨acc', h1, fun x => (h2 x).trans ?_, h3, ?_⟩
    · rw [hmw x, List.take_succ_eq_append_getElem hi, List.mem_append, List.mem_singleton]
      constructor
      · rintro ((h | h) | h)
        · exact Or.inl h
        · exact Or.inr (Or.inr h)
        · exact Or.inr (Or.inl h)
      · rintro (h | h | h)
        · exact Or.inl (Or.inl h)
        · exact Or.inr h
        · exact Or.inl (Or.inr h)
    · rw [show k + (n + 1) = (k + n) + 1 by omega]
      conv => lhs; unfold graftwoodlaw05_NodeUnions.l1
      have e1 : ((n + 1 : Nat) : Int) - 1 = (n : Int) := by omega
      rw [e1, if_pos (by omega), if_pos (by omega), if_pos (by omega), rd_nat hi, hW]
      simp only [Option.bind_some, if_true]
      rw [show wrap64 ((n : Int) - 1) = (n : Int) - 1 by unfold wrap64; omega]
      exact h4
set_option maxHeartbeats 2000000 in
theorem unions_main (k : Nat) (hk : 8589934700 ≤ k) : ∀ (x y : List S23), x.length ≤ 24 → y.length ≤ 24 → (∀ z ∈ x, Brief z) → (∀ z ∈ y, Brief z) → IsSet x → IsSet y → ∃ K, 8589934700 ≤ K ∧ graftwoodlaw05_NodeUnions.j0 K x y false = some true := by
  intro x y hx hy bx by_ sx sy
  have tx : ∀ z ∈ x, TinyN z := fun z h => (bx z h).tiny
  have ty : ∀ z ∈ y, TinyN z := fun z h => (by_ z h).tiny
  have hA : node_Minus.f x y = some (x.filter (fun z => !decide (z ∈ y)), 0) := by
    have h : node_Minus.f x y = some (if checkN x = true ∧ checkN y = true then (x.filter (fun z => !decide (z ∈ y)), 0) else ([], 1)) := if_pos ⟨by omega, by omega, tx, ty⟩
    rw [if_pos ⟨sx.check, sy.check⟩] at h; exact h
  have hB : node_Minus.f y x = some (y.filter (fun z => !decide (z ∈ x)), 0) := by
    have h : node_Minus.f y x = some (if checkN y = true ∧ checkN x = true then (y.filter (fun z => !decide (z ∈ x)), 0) else ([], 1)) := if_pos ⟨by omega, by omega, ty, tx⟩
    rw [if_pos ⟨sy.check, sx.check⟩] at h; exact h
  have la : (x.filter (fun z => !decide (z ∈ y))).length ≤ x.length := List.length_filter_le _ _
  have lb : (y.filter (fun z => !decide (z ∈ x))).length ≤ y.length := List.length_filter_le _ _
  have ma : ∀ z, z ∈ x.filter (fun z => !decide (z ∈ y)) ↔ z ∈ x ∧ z ∉ y := fun z => by rw [List.mem_filter]; simp
  have mb : ∀ z, z ∈ y.filter (fun z => !decide (z ∈ x)) ↔ z ∈ y ∧ z ∉ x := fun z => by rw [List.mem_filter]; simp
  obtain ⟨acc, s1, s2, s3, s4⟩ := unions_l1 x y (x.filter (fun z => !decide (z ∈ y))) sy by_ hy y.length (k + 1) x (Nat.le_refl _) sx bx (by omega)
  have f1 := unions_l0 x y (x.filter (fun z => !decide (z ∈ y))) (y.filter (fun z => !decide (z ∈ x))) (by omega) (by omega) (by omega) (by omega) (fun z hz => by
    have h1 := (ma z).1 hz
    exact ⟨h1.1, h1.2, fun h => h1.2 ((mb z).1 h).1⟩) (x.filter (fun z => !decide (z ∈ y))).length 0 (k + 1 + y.length + 1) (by omega) (by omega)
  refine ⟨(k + 1 + y.length + 1 + (x.filter (fun z => !decide (z ∈ y))).length) + 2, by omega, ?_⟩
  simp only [graftwoodlaw05_NodeUnions.j0, Bool.false_eq_true, if_false]
  rw [hA, hB]
  simp only [Option.bind_some, if_true, graftwoodlaw05_NodeUnions.j1, bne_self_eq_false, Bool.false_eq_true, if_false]
  refine f1.trans ?_
  conv => lhs; unfold graftwoodlaw05_NodeUnions.l0
  rw [if_neg (by omega), show wrap64 ((y.length : Int) - 1) = (y.length : Int) - 1 by unfold wrap64; omega]
  refine s4.trans ?_
  rw [List.take_length] at s2
  have hmem : ∀ z ∈ y ++ x, TinyN z := fun z h => (List.mem_append.1 h).elim (ty z) (tx z)
  have hmay : ∀ z ∈ y ++ x, mayN z = true := fun z h => (List.mem_append.1 h).elim (sy.may z) (sx.may z)
  have hS : node_Set.f (y ++ x) = some (setN (y ++ x), 0) := by
    have h : node_Set.f (y ++ x) = some (if (y ++ x).all mayN then (setN (y ++ x), 0) else ([], 1)) := if_pos ⟨by rw [List.length_append]; omega, hmem⟩
    rw [if_pos (List.all_eq_true.2 hmay)] at h; exact h
  have sb := setN_set hmem hmay
  have e : acc = setN (y ++ x) := s1.ext sb (fun z => by rw [s2 z, mem_setN, List.mem_append]; exact Or.comm)
  have sv := same_val acc (setN (y ++ x)) (by omega) k (by omega)
  rw [decide_eq_true e] at sv
  have hlen : (setN (y ++ x)).length = (x.filter (fun z => !decide (z ∈ y))).length + y.length := by
    have nd : (y ++ x.filter (fun z => !decide (z ∈ y))).Nodup := List.nodup_append.2 ⟨sy.nodup, (sx.filter _).nodup, fun p hp q hq h => by
      subst h; exact ((ma p).1 hq).2 hp⟩
    have hp := ((List.perm_ext_iff_of_nodup sb.nodup nd).2 (fun z => by
      rw [mem_setN, List.mem_append, List.mem_append, ma z]
      constructor
      · rintro (h | h)
        · exact Or.inl h
        · by_cases hz : z ∈ y
          · exact Or.inl hz
          · exact Or.inr ⟨h, hz⟩
      · rintro (h | h)
        · exact Or.inl h
        · exact Or.inr h.1)).length_eq
    rw [hp, List.length_append]; omega
  have hw := awake_val k (by omega)
  conv => lhs; unfold graftwoodlaw05_NodeUnions.l1
  rw [if_neg (by decide)]
  simp only [Option.bind_some, List.length_nil, List.nil_append]
  rw [if_pos (by omega), if_pos (by omega), hS]
  simp only [Option.bind_some, if_true]
  rw [sv, Option.bind_some, if_pos rfl, hlen, if_pos (by unfold wrap64; omega), hw]
  rfl
theorem unions_none : ∀ (K : Nat) (x y : List S23), 2000 ≤ K → graftwoodlaw05_NodeUnions.j0 K x y true = some true := by
  intro K x y hK
  obtain ⟨j, rfl⟩ : ∃ j, K = j + 1 := ⟨K - 1, by omega⟩
  simp only [graftwoodlaw05_NodeUnions.j0, if_true]
  rw [awake_val j (by omega)]
  rfl
theorem unions_pre (l m : List S23) (a b : ByteArray) : ∀ K, 8589934700 ≤ K → graftwoodlaw05_NodeUnions.f K l m a b = if checkN (fewN l) = true ∧ checkN (fewN m) = true ∧ mayN ⟨few a, few b⟩ = true then graftwoodlaw05_NodeUnions.j0 K (fewN l) (fewN m) false else graftwoodlaw05_NodeUnions.j0 K (fewN l) (fewN m) true := by
  intro K hK
  have hl := fewN_len l
  have bl := fewN_brief l
  have hm := fewN_len m
  have bm := fewN_brief m
  have b1 := few_size a
  have b2 := few_size b
  have bt : Brief ⟨few a, few b⟩ := ⟨b1, b2⟩
  have hM := node_May_val K ⟨few a, few b⟩ bt.tiny (by simp only []; omega)
  simp only [] at hM
  unfold graftwoodlaw05_NodeUnions.f
  rw [fewN_val l _ (by omega), fewN_val m _ (by omega), One_val]
  simp only [Option.bind_some]
  rw [check_val (fewN l) (by omega) (fun z h => (bl z h).tiny) K (by omega), check_val (fewN m) (by omega) (fun z h => (bm z h).tiny) K (by omega), hM]
  simp only [Option.bind_some]
  cases h1 : checkN (fewN l) with
  | false =>
    rw [if_neg (by decide), if_neg (fun h => by cases h.1)]
  | true =>
    cases h2 : checkN (fewN m) with
    | false => rw [if_pos (by decide), if_neg (by decide), if_neg (fun h => by cases h.2.1)]
    | true =>
      rw [if_pos (by decide), if_pos (by decide)]
      cases h3 : mayN ⟨few a, few b⟩ with
      | false => rw [if_neg (fun h => by cases h.2.2)]; rfl
      | true => rw [if_pos ⟨rfl, rfl, rfl⟩]; rfl
theorem unions_true (k : Nat) (hk : 8589934700 ≤ k) (l m : List S23) (a b : ByteArray) : ∃ K, graftwoodlaw05_NodeUnions.f K l m a b = some true := by
  have hl := fewN_len l
  have bl := fewN_brief l
  have hm := fewN_len m
  have bm := fewN_brief m
  have main := unions_main k hk
  have none_ := unions_none
  have pre := unions_pre l m a b
  by_cases hc : checkN (fewN l) = true ∧ checkN (fewN m) = true ∧ mayN ⟨few a, few b⟩ = true
  · obtain ⟨K, hK, h⟩ := main (fewN l) (fewN m) hl hm bl bm ((check_set (fun z h => (bl z h).tiny)).1 hc.1) ((check_set (fun z h => (bm z h).tiny)).1 hc.2.1)
    exact ⟨K, by rw [pre K hK, if_pos hc]; exact h⟩
  · exact ⟨k, by rw [pre k hk, if_neg hc]; exact none_ k _ _ (by omega)⟩
end Go.Proofs.YtnknjhdpjjddeaaDoor.Q
end
