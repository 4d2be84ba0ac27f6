/- Part 9 of this claim: several texts one behind the other: PDist, PChn. What each shows stands in its theorems; conditions: sizes of texts and lists, as the functions' definitions say. -/
import Derived.Test.YtodkjmbmlobihaaDoorMWhyMore6
import Derived.Test.YtodkjmbmlobihaaDoorMWhyMore5
import Derived.Test.YtodkjmbmlobihaaDoorMWhyMore7
section
namespace Go.Proofs.YtodkjmbmlobihaaDoor.Q
open Go.Proofs.YtodkjmbmlobihaaDoor.QB.D
open Go Go.RowKit Go.Lib Go.Proofs.YtodkjmbmlobihaaDoorW.PrintWords Go.Proofs.YtodkjmbmlobihaaDoorW.PrintLast Go.Proofs.YtodkjmbmlobihaaDoorW.PrintMore Gw
set_option linter.unusedVariables false
set_option linter.unusedSimpArgs false
/-- There is a chain of d needs from the root. -/
def ReachF (l : List S34) : Nat → S24 → Prop
  | 0, x => x = z24
  | d + 1, y => ∃ e ∈ l, e.f1 = y ∧ ReachF l d e.f0
/-- .. and none of fewer. -/
def DistF (l : List S34) (d : Nat) (y : S24) : Prop := ReachF l d y ∧ ∀ n, n < d → ¬ ReachF l n y
theorem dist_uniq {l : List S34} {d n : Nat} {y : S24} (h : DistF l d y) (h' : DistF l n y) : d = n := by
  rcases Nat.lt_trichotomy d n with e | e | e
  · exact absurd h.1 (h'.2 d e)
  · exact e
  · exact absurd h'.1 (h.2 n e)
theorem reach_dist {l : List S34} : ∀ (d : Nat) {y : S24}, ReachF l d y → ∃ n, n ≤ d ∧ DistF l n y := by
  intro d
  induction d using Nat.strongRecOn with
  | _ d ih =>
    intro y h
    by_cases hx : ∃ n, n < d ∧ ReachF l n y
    · obtain ⟨n, hn, hr⟩ := hx
      obtain ⟨m, hm, hd⟩ := ih n hn hr
      exact ⟨m, by omega, hd⟩
    · exact ⟨d, Nat.le_refl _, h, fun n hn hr => hx ⟨n, hn, hr⟩⟩
theorem dist_step {l : List S34} {d : Nat} {y : S24} (h : DistF l (d + 1) y) : ∃ e ∈ l, e.f1 = y ∧ DistF l d e.f0 := by
  obtain ⟨e, he, hy, hr⟩ := h.1
  exact ⟨e, he, hy, hr, fun n hn hr2 => h.2 (n + 1) (by omega) ⟨e, he, hy, hr2⟩⟩
theorem dist_down {l : List S34} : ∀ (n : Nat) {y : S24} (m : Nat), DistF l n y → m ≤ n → ∃ x, DistF l m x := by
  intro n
  induction n with
  | zero => intro y m h hm; exact ⟨y, by rw [show m = 0 by omega]; exact h⟩
  | succ n ih =>
    intro y m h hm
    by_cases e : m = n + 1
    · exact ⟨y, by rw [e]; exact h⟩
    · obtain ⟨e, _, _, hd⟩ := dist_step h
      exact ih m hd (by omega)
theorem may_z : mayN z24 = false := by decide +kernel
theorem ok_each {l : List S34} (h : okE l = true) {e : S34} (he : e ∈ l) : mayN e.f1 = true ∧ (e.f0 = z24 ∨ mayN e.f0 = true) := by
  unfold okE at h
  have h1 : l.any badE = false := by simpa using h
  have h2 : badE e = false := by
    rw [List.any_eq_false] at h1
    simpa using h1 e he
  unfold badE at h2
  simp only [Bool.or_eq_false_iff, Bool.not_eq_false', Bool.and_eq_false_iff, decide_eq_true_eq] at h2
  exact h2
theorem dist_may {l : List S34} (h : okE l = true) {d : Nat} {y : S24} (hd : DistF l (d + 1) y) : mayN y = true := by
  obtain ⟨e, he, rfl, _⟩ := hd.1
  exact (ok_each h he).1
theorem reach0 {l : List S34} (h : okE l = true) {e : S34} (he : e ∈ l) : ¬ ReachF l 0 e.f1 := fun hr => by
  have h1 := (ok_each h he).1
  have h2 : e.f1 = z24 := hr
  rw [h2, may_z] at h1
  cases h1
theorem lookF_none_or (out : List (S24 × Nat)) (y : S24) : lookF out y = none ∨ ∃ n, lookF out y = some n := by
  cases lookF out y with
  | none => exact Or.inl rfl
  | some n => exact Or.inr ⟨n, rfl⟩
theorem foldF_spec (l : List S34) (d : Nat) (level : List S24) (out : List (S24 × Nat)) : ∀ i, i ≤ l.length →
    (∀ y m, lookF out y = some m → lookF ((l.take i).foldl (stepF d level) (out, [])).1 y = some m) ∧
    (∀ y, lookF out y = none → (∃ e ∈ l.take i, e.f1 = y ∧ e.f0 ∈ level) → lookF ((l.take i).foldl (stepF d level) (out, [])).1 y = some d) ∧
    (∀ y, lookF out y = none → ¬ (∃ e ∈ l.take i, e.f1 = y ∧ e.f0 ∈ level) → lookF ((l.take i).foldl (stepF d level) (out, [])).1 y = none) ∧
    (∀ y, y ∈ ((l.take i).foldl (stepF d level) (out, [])).2 ↔ lookF out y = none ∧ ∃ e ∈ l.take i, e.f1 = y ∧ e.f0 ∈ level) := by
  intro i
  induction i with
  | zero =>
    intro _
    refine ⟨fun y m h => h, fun y _ h => ?_, fun y h _ => h, fun y => ?_⟩
    · obtain ⟨e, he, _⟩ := h; cases he
    · constructor
      · intro h; cases h
      · rintro ⟨_, e, he, _⟩; cases he
  | succ i ih =>
    intro hi
    have hil : i < l.length := by omega
    obtain ⟨ia, ib, ic, id⟩ := ih (by omega)
    have hmem : ∀ y, (∃ e ∈ l.take (i + 1), e.f1 = y ∧ e.f0 ∈ level) ↔ (∃ e ∈ l.take i, e.f1 = y ∧ e.f0 ∈ level) ∨ (l[i].f1 = y ∧ l[i].f0 ∈ level) := by
      intro y
      rw [List.take_succ_eq_append_getElem hil]
      constructor
      · rintro ⟨e, he, h⟩
        rcases List.mem_append.1 he with he | he
        · exact Or.inl ⟨e, he, h⟩
        · rw [List.mem_singleton] at he
          subst he
          exact Or.inr h
      · rintro (⟨e, he, h⟩ | h)
        · exact ⟨e, List.mem_append_left _ he, h⟩
        · exact ⟨l[i], List.mem_append_right _ List.mem_cons_self, h⟩
    rw [foldF_take l d level (out, []) i hil]
    generalize (l.take i).foldl (stepF d level) (out, []) = st at ia ib ic id ⊢
    generalize l[i] = e at hmem ⊢
    unfold stepF
    by_cases hc : (lookF st.1 e.f1).isNone ∧ e.f0 ∈ level
    · rw [if_pos hc]
      have hn : lookF st.1 e.f1 = none := Option.isNone_iff_eq_none.1 hc.1
      have hout : lookF out e.f1 = none := by
        rcases lookF_none_or out e.f1 with h | ⟨n, h⟩
        · exact h
        · rw [ia _ _ h] at hn; cases hn
      have hnp : ¬ ∃ e' ∈ l.take i, e'.f1 = e.f1 ∧ e'.f0 ∈ level := fun h => by rw [ib _ hout h] at hn; cases hn
      refine ⟨fun y m h => ?_, fun y h hp => ?_, fun y h hp => ?_, fun y => ?_⟩
      · show lookF (st.1 ++ [(e.f1, d)]) y = _
        rw [lookF_snoc, ia y m h]; rfl
      · show lookF (st.1 ++ [(e.f1, d)]) y = _
        rw [lookF_snoc]
        rcases (hmem y).1 hp with h2 | h2
        · rw [ib y h h2]; rfl
        · rw [← h2.1, hn, if_pos rfl]; rfl
      · show lookF (st.1 ++ [(e.f1, d)]) y = _
        rw [lookF_snoc, ic y h (fun h2 => hp ((hmem y).2 (Or.inl h2))), if_neg (fun h2 => hp ((hmem y).2 (Or.inr ⟨h2.symm, hc.2⟩)))]; rfl
      · show y ∈ st.2 ++ [e.f1] ↔ _
        rw [List.mem_append, List.mem_singleton, id y, hmem y]
        constructor
        · rintro (⟨h1, h2⟩ | h)
          · exact ⟨h1, Or.inl h2⟩
          · subst h; exact ⟨hout, Or.inr ⟨rfl, hc.2⟩⟩
        · rintro ⟨h1, h2 | h2⟩
          · exact Or.inl ⟨h1, h2⟩
          · exact Or.inr h2.1.symm
    · rw [if_neg hc]
      -- what e would add is there, or its parent isn't in the level
      have hold : ∀ y, lookF out y = none → (e.f1 = y ∧ e.f0 ∈ level) → ∃ e' ∈ l.take i, e'.f1 = y ∧ e'.f0 ∈ level := by
        intro y h h2
        refine Classical.byContradiction fun h3 => hc ⟨?_, h2.2⟩
        rw [h2.1, ic y h h3]; rfl
      refine ⟨fun y m h => ia y m h, fun y h hp => ?_, fun y h hp => ic y h (fun h2 => hp ((hmem y).2 (Or.inl h2))), fun y => ?_⟩
      · rcases (hmem y).1 hp with h2 | h2
        · exact ib y h h2
        · exact ib y h (hold y h h2)
      · rw [id y, hmem y]
        constructor
        · rintro ⟨h1, h2⟩; exact ⟨h1, Or.inl h2⟩
        · rintro ⟨h1, h2 | h2⟩
          · exact ⟨h1, h2⟩
          · exact ⟨h1, hold y h1 h2⟩
theorem filter_lt {α : Type} (p q : α → Bool) : ∀ (l : List α), (∀ x ∈ l, q x = true → p x = true) → (∃ x ∈ l, p x = true ∧ q x = false) → (l.filter q).length < (l.filter p).length
  | [], _, h => by obtain ⟨x, hx, _⟩ := h; cases hx
  | y :: r, hs, h => by
    have hs' : ∀ x ∈ r, q x = true → p x = true := fun x hx => hs x (List.mem_cons_of_mem _ hx)
    have hle : (r.filter q).length ≤ (r.filter p).length := by
      clear h hs
      induction r with
      | nil => exact Nat.le_refl _
      | cons u r ih =>
        have ih' := ih (fun x hx => hs' x (List.mem_cons_of_mem _ hx))
        have hu := hs' u List.mem_cons_self
        cases hq : q u with
        | true => rw [List.filter_cons_of_pos hq, List.filter_cons_of_pos (hu hq)]; simp only [List.length_cons]; omega
        | false =>
          rw [List.filter_cons_of_neg (by rw [hq]; decide)]
          cases hp : p u with
          | true => rw [List.filter_cons_of_pos hp]; simp only [List.length_cons]; omega
          | false => rw [List.filter_cons_of_neg (by rw [hp]; decide)]; exact ih'
    obtain ⟨x, hx, h1, h2⟩ := h
    have hy := hs y List.mem_cons_self
    rcases List.mem_cons.1 hx with e | e
    · subst e
      rw [List.filter_cons_of_neg (by rw [h2]; decide), List.filter_cons_of_pos h1]
      simp only [List.length_cons]; omega
    · have ih := filter_lt p q r hs' ⟨x, e, h1, h2⟩
      cases hq : q y with
      | true => rw [List.filter_cons_of_pos hq, List.filter_cons_of_pos (hy hq)]; simp only [List.length_cons]; omega
      | false =>
        rw [List.filter_cons_of_neg (by rw [hq]; decide)]
        cases hp : p y with
        | true => rw [List.filter_cons_of_pos hp]; simp only [List.length_cons]; omega
        | false => rw [List.filter_cons_of_neg (by rw [hp]; decide)]; exact ih
def unmet (l : List S34) (out : List (S24 × Nat)) : Nat := (l.filter (fun e => (lookF out e.f1).isNone)).length
theorem depF_spec {l : List S34} (hok : okE l = true) : ∀ (k d : Nat) (level : List S24) (out : List (S24 × Nat)), 1 ≤ d → (∀ y, y ∈ level ↔ DistF l (d - 1) y) → (∀ y n, lookF out y = some n ↔ 1 ≤ n ∧ n ≤ d - 1 ∧ DistF l n y) →
    (unmet l out + 2 ≤ k ∨ (level = [] ∧ 1 ≤ k)) → ∃ out', depF l k d level out = some out' ∧ (∀ y n, lookF out' y = some n ↔ 1 ≤ n ∧ DistF l n y) ∧ (∀ y n, lookF out' y = some n → n ≤ d + k) := by
  intro k
  induction k with
  | zero => intro d level out _ _ _ h; rcases h with h | h <;> omega
  | succ k ih =>
    intro d level out hd h1 h2 hk
    unfold depF
    by_cases hl : level = []
    · rw [if_pos hl]
      refine ⟨out, rfl, fun y n => ?_, fun y n h => by have := ((h2 y n).1 h).2.1; omega⟩
      rw [h2 y n]
      constructor
      · rintro ⟨a, _, b⟩; exact ⟨a, b⟩
      · rintro ⟨a, b⟩
        refine ⟨a, ?_, b⟩
        refine Nat.not_lt.1 fun hc => ?_
        obtain ⟨x, hx⟩ := dist_down n (d - 1) b (by omega)
        have := (h1 x).2 hx
        rw [hl] at this
        cases this
    · rw [if_neg hl]
      obtain ⟨fa, fb, fc, fd⟩ := foldF_spec l d level out l.length (Nat.le_refl _)
      rw [List.take_length] at fa fb fc fd
      have hr : roundF l d level out = l.foldl (stepF d level) (out, []) := rfl
      rw [hr]
      generalize l.foldl (stepF d level) (out, []) = st at fa fb fc fd ⊢
      have H1 : ∀ y, y ∈ st.2 ↔ DistF l d y := by
        intro y
        rw [fd y]
        constructor
        · rintro ⟨hn, e, he, hy, hlev⟩
          have hd0 := (h1 _).1 hlev
          refine ⟨?_, fun n hn2 hr => ?_⟩
          · rw [show d = (d - 1) + 1 by omega]; exact ⟨e, he, hy, hd0.1⟩
          · obtain ⟨m, hm, hdm⟩ := reach_dist n hr
            cases m with
            | zero => exact reach0 hok he (by rw [hy]; exact hdm.1)
            | succ m =>
              have := (h2 y (m + 1)).2 ⟨by omega, by omega, hdm⟩
              rw [hn] at this
              cases this
        · intro hdy
          rw [show d = (d - 1) + 1 by omega] at hdy
          obtain ⟨e, he, hy, hd0⟩ := dist_step hdy
          refine ⟨?_, e, he, hy, (h1 _).2 hd0⟩
          rcases lookF_none_or out y with h | ⟨n, h⟩
          · exact h
          · have h3 := (h2 y n).1 h
            have := dist_uniq h3.2.2 hdy
            omega
      have H2 : ∀ y n, lookF st.1 y = some n ↔ 1 ≤ n ∧ n ≤ d + 1 - 1 ∧ DistF l n y := by
        intro y n
        rw [Nat.add_sub_cancel]
        rcases lookF_none_or out y with h | ⟨m, h⟩
        · by_cases hp : ∃ e ∈ l, e.f1 = y ∧ e.f0 ∈ level
          · rw [fb y h hp]
            have hdy := (H1 y).1 ((fd y).2 ⟨h, hp⟩)
            constructor
            · intro e; injection e with e; subst e; exact ⟨hd, Nat.le_refl _, hdy⟩
            · rintro ⟨_, _, h3⟩; rw [dist_uniq hdy h3]
          · rw [fc y h hp]
            constructor
            · intro e; cases e
            · rintro ⟨a, b, h3⟩
              exfalso
              by_cases hnd : n = d
              · subst hnd
                exact hp ((fd y).1 ((H1 y).2 h3)).2
              · have := (h2 y n).2 ⟨a, by omega, h3⟩
                rw [h] at this
                cases this
        · rw [fa y m h]
          have h3 := (h2 y m).1 h
          constructor
          · intro e; injection e with e; subst e; exact ⟨h3.1, by omega, h3.2.2⟩
          · rintro ⟨_, _, h4⟩; rw [dist_uniq h3.2.2 h4]
      obtain ⟨out', g1, g2, g3⟩ := ih (d + 1) st.2 st.1 (by omega) (fun y => by rw [Nat.add_sub_cancel]; exact H1 y) H2 (by
        have hk2 : unmet l out + 2 ≤ k + 1 := by
          rcases hk with h | h
          · exact h
          · exact absurd h.1 hl
        by_cases hs : st.2 = []
        · exact Or.inr ⟨hs, by omega⟩
        · refine Or.inl ?_
          obtain ⟨y, hy⟩ := List.exists_mem_of_ne_nil _ hs
          obtain ⟨hn, e, he, hy1, hy2⟩ := (fd y).1 hy
          have : unmet l st.1 < unmet l out := by
            refine filter_lt _ _ l (fun x hx hq => ?_) ⟨e, he, ?_, ?_⟩
            · rcases lookF_none_or out x.f1 with h | ⟨m, h⟩
              · rw [h]; rfl
              · rw [fa _ _ h] at hq; cases hq
            · rw [hy1, hn]; rfl
            · rw [hy1, fb y hn ⟨e, he, hy1, hy2⟩]; rfl
          omega)
      exact ⟨out', g1, g2, fun y n h => by have := g3 y n h; omega⟩
theorem depths_spec {l : List S34} (hok : okE l = true) : ∃ out, depF l (l.length + 2) 1 [z24] [] = some out ∧ (∀ y n, lookF out y = some n ↔ 1 ≤ n ∧ DistF l n y) ∧ (∀ y n, lookF out y = some n → n ≤ l.length + 3) := by
  obtain ⟨out, h1, h2, h3⟩ := depF_spec hok (l.length + 2) 1 [z24] [] (Nat.le_refl _) (fun y => by
    rw [List.mem_singleton]
    exact ⟨fun h => ⟨h, fun n hn => by omega⟩, fun h => h.1⟩) (fun y n => by
    constructor
    · intro h; cases h
    · rintro ⟨a, b, _⟩; omega) (Or.inl (by
    have : unmet l [] ≤ l.length := List.length_filter_le _ _
    omega))
  exact ⟨out, h1, h2, fun y n h => by have := h3 y n h; omega⟩
theorem mem_parF {l : List S34} {out : List (S24 × Nat)} (h : ∀ y n, lookF out y = some n ↔ 1 ≤ n ∧ DistF l n y) (i : Nat) (y x : S24) : x ∈ parF l out i y ↔ (∃ e ∈ l, e.f1 = y ∧ e.f0 = x) ∧ DistF l (i + 1) x := by
  unfold parF
  rw [List.mem_map]
  constructor
  · rintro ⟨e, he, rfl⟩
    obtain ⟨he1, he2⟩ := List.mem_filter.1 he
    unfold isParF at he2
    simp only [Bool.and_eq_true, decide_eq_true_eq] at he2
    refine ⟨⟨e, he1, he2.1, rfl⟩, ?_⟩
    rcases lookF_none_or out e.f0 with h3 | ⟨n, h3⟩
    · rw [h3] at he2; cases he2.2
    · rw [h3] at he2
      have h4 := (h _ _).1 h3
      have : n = i + 1 := he2.2
      rw [← this]; exact h4.2
  · rintro ⟨⟨e, he, hy, rfl⟩, hd⟩
    refine ⟨e, List.mem_filter.2 ⟨he, ?_⟩, rfl⟩
    unfold isParF
    rw [(h _ _).2 ⟨by omega, hd⟩, decide_eq_true hy]
    simp
theorem chainF_spec {l : List S34} {out : List (S24 × Nat)} (hok : okE l = true) (h : ∀ y n, lookF out y = some n ↔ 1 ≤ n ∧ DistF l n y) : ∀ (i : Nat) (y : S24), DistF l (i + 1) y →
    ∃ c, chainF l out i y = some c ∧ c.length = i + 1 ∧ c[i]? = some y ∧ (∀ j x, c[j]? = some x → DistF l (j + 1) x) ∧ (∀ j x x', c[j]? = some x → c[j + 1]? = some x' → parF l out j x' ≠ [] ∧ x = minL (parF l out j x')) := by
  intro i
  induction i with
  | zero =>
    intro y hy
    refine ⟨[y], rfl, rfl, rfl, fun j x hx => ?_, fun j x x' _ hx => by simp at hx⟩
    cases j with
    | zero => injection hx with hx; subst hx; exact hy
    | succ j => simp at hx
  | succ i ih =>
    intro y hy
    obtain ⟨e, he, hey, hde⟩ := dist_step hy
    have hne : parF l out i y ≠ [] := List.ne_nil_of_mem ((mem_parF h i y e.f0).2 ⟨⟨e, he, hey, rfl⟩, hde⟩)
    have hall : (parF l out i y).all mayN = true := List.all_eq_true.2 fun x hx => dist_may hok ((mem_parF h i y x).1 hx).2
    have hm := (mem_parF h i y _).1 (minL_mem _ hne)
    obtain ⟨c, h1, h2, h3, h4, h5⟩ := ih _ hm.2
    refine ⟨c ++ [y], ?_, by simp [h2], ?_, fun j x hx => ?_, fun j x x' hx hx' => ?_⟩
    · unfold chainF
      rw [if_pos ⟨hne, hall⟩, h1]
      rfl
    · rw [List.getElem?_append_right (by omega), h2]; simp
    · by_cases hj : j < c.length
      · rw [List.getElem?_append_left hj] at hx; exact h4 j x hx
      · rw [List.getElem?_append_right (by omega)] at hx
        have hj2 : j - c.length = 0 := by
          rcases Nat.eq_zero_or_pos (j - c.length) with e | e
          · exact e
          · rw [List.getElem?_eq_none (by simp; omega)] at hx; cases hx
        rw [hj2] at hx
        injection hx with hx
        subst hx
        have : j = i + 1 := by omega
        rw [this]; exact hy
    · by_cases hj : j + 1 < c.length
      · rw [List.getElem?_append_left (by omega)] at hx
        rw [List.getElem?_append_left hj] at hx'
        exact h5 j x x' hx hx'
      · have hj3 : j + 1 = c.length := by
          refine Nat.le_antisymm (Nat.not_lt.1 fun hc => ?_) (by omega)
          rw [List.getElem?_eq_none (by simp; omega)] at hx'; cases hx'
        rw [List.getElem?_append_right (by omega), hj3, Nat.sub_self] at hx'
        injection hx' with hx'
        subst hx'
        rw [List.getElem?_append_left (by omega)] at hx
        have hji : j = i := by omega
        subst hji
        rw [h3] at hx
        injection hx with hx
        exact ⟨hne, hx.symm⟩
theorem minL_le : ∀ (l : List S24), (∀ x ∈ l, GoodN x) → ∀ x ∈ l, ¬ ordN x (minL l) < 0 := by
  have h : ∀ (r : List S24) (m : S24) (s : List S24), GoodN m → (∀ x ∈ r, GoodN x) → (∀ x ∈ s, GoodN x ∧ ¬ ordN x m < 0) → ∀ x, x ∈ s ∨ x ∈ r → ¬ ordN x (r.foldl (fun m y => if ordN y m < 0 then y else m) m) < 0 := by
    intro r
    induction r with
    | nil => intro m s _ _ hs x hx; exact hx.elim (fun h => (hs x h).2) (fun h => by cases h)
    | cons y r ih =>
      intro m s gm hr hs x hx
      have gy := hr y List.mem_cons_self
      have hr' : ∀ x ∈ r, GoodN x := fun x hx => hr x (List.mem_cons_of_mem _ hx)
      rw [List.foldl_cons]
      by_cases hc : ordN y m < 0
      · rw [if_pos hc]
        refine ih y (y :: s) gy hr' (fun u hu => ?_) x ?_
        · rcases List.mem_cons.1 hu with e | e
          · subst e; exact ⟨gy, by rw [(ordN_to.eq u u gy gy).2 rfl]; decide⟩
          · exact ⟨(hs u e).1, fun h => (hs u e).2 (ordN_to.tr u y m (hs u e).1 gy gm h hc)⟩
        · rcases hx with h | h
          · exact Or.inl (List.mem_cons_of_mem _ h)
          · rcases List.mem_cons.1 h with e | e
            · exact Or.inl (by rw [e]; exact List.mem_cons_self)
            · exact Or.inr e
      · rw [if_neg hc]
        refine ih m (y :: s) gm hr' (fun u hu => ?_) x ?_
        · rcases List.mem_cons.1 hu with e | e
          · subst e; exact ⟨gy, hc⟩
          · exact hs u e
        · rcases hx with h | h
          · exact Or.inl (List.mem_cons_of_mem _ h)
          · rcases List.mem_cons.1 h with e | e
            · exact Or.inl (by rw [e]; exact List.mem_cons_self)
            · exact Or.inr e
  intro l hg x hx
  cases l with
  | nil => cases hx
  | cons y r =>
    have gy := hg y List.mem_cons_self
    exact h r y [y] gy (fun u hu => hg u (List.mem_cons_of_mem _ hu)) (fun u hu => by rw [List.mem_singleton] at hu; subst hu; exact ⟨gy, by rw [(ordN_to.eq u u gy gy).2 rfl]; decide⟩) x (by
      rcases List.mem_cons.1 hx with e | e
      · exact Or.inl (by rw [e]; exact List.mem_cons_self)
      · exact Or.inr e)
/-- What a chain is, as why.Chain yields it. -/
structure IsCh (l : List S34) (out : List (S24 × Nat)) (n : S24) (c : List S24) : Prop where
  pos : 1 ≤ c.length
  last : c[c.length - 1]? = some n
  dist : ∀ j x, c[j]? = some x → DistF l (j + 1) x
  par : ∀ j x x', c[j]? = some x → c[j + 1]? = some x' → parF l out j x' ≠ [] ∧ x = minL (parF l out j x')
theorem chain_cases {l : List S34} (hl : l.length ≤ 65536) (hb : ∀ e ∈ l, Brief e.f0 ∧ Brief e.f1) (n : S24) (hn : Brief n) :
    (why_Chain.f l n.f0 n.f1 = some ([], 1) ∧ ¬ (okE l = true ∧ mayN n = true)) ∨ (why_Chain.f l n.f0 n.f1 = some ([], 11) ∧ okE l = true ∧ mayN n = true ∧ ∀ d, ¬ DistF l (d + 1) n) ∨
    (∃ out c, why_Chain.f l n.f0 n.f1 = some (c, 0) ∧ okE l = true ∧ mayN n = true ∧ (∀ y m, lookF out y = some m ↔ 1 ≤ m ∧ DistF l m y) ∧ IsCh l out n c ∧ DistF l c.length n ∧ c.length ≤ l.length + 3 ∧ (∀ x ∈ c, Brief x)) := by
  have hc : l.length ≤ 65536 ∧ (∀ x ∈ l, BriefE x) ∧ Brief n := ⟨hl, hb, hn⟩
  by_cases hok : okE l = true
  · by_cases hm : mayN n = true
    · obtain ⟨out, h1, h2, h3⟩ := depths_spec hok
      have hf : why_Chain.f l n.f0 n.f1 = (match lookF out n with
          | none => some ([], 11)
          | some d => if 1 ≤ d ∧ d ≤ 65540 then (chainF l out (d - 1) n).map (fun c => (c, 0)) else none) := by
        unfold why_Chain.f
        rw [if_pos hc, if_pos hok, if_pos hm, h1]
        rfl
      rcases lookF_none_or out n with hd | ⟨d, hd⟩
      · rw [hd] at hf
        refine Or.inr (Or.inl ⟨hf, hok, hm, fun d hdd => ?_⟩)
        have := (h2 n (d + 1)).2 ⟨by omega, hdd⟩
        rw [hd] at this
        cases this
      · rw [hd] at hf
        have h4 := (h2 n d).1 hd
        have h5 := h3 n d hd
        obtain ⟨d', rfl⟩ : ∃ d', d = d' + 1 := ⟨d - 1, by omega⟩
        obtain ⟨c, c1, c2, c3, c4, c5⟩ := chainF_spec hok h2 d' n h4.2
        refine Or.inr (Or.inr ⟨out, c, ?_, hok, hm, h2, ⟨by omega, by rw [c2, Nat.add_sub_cancel]; exact c3, c4, c5⟩, by rw [c2]; exact h4.2, by omega, fun x hx => ?_⟩)
        · rw [hf]
          simp only []
          rw [if_pos ⟨by omega, by omega⟩, Nat.add_sub_cancel, c1]
          rfl
        · obtain ⟨t, ht, rfl⟩ := List.getElem_of_mem hx
          obtain ⟨e, he, hee, _⟩ := (c4 t _ (List.getElem?_eq_getElem ht)).1
          rw [← hee]
          exact (hb e he).2
    · refine Or.inl ⟨?_, fun h => hm h.2⟩
      unfold why_Chain.f
      rw [if_pos hc, if_pos hok, if_neg hm]
  · refine Or.inl ⟨?_, fun h => hok h.1⟩
    unfold why_Chain.f
    rw [if_pos hc, if_neg hok]
theorem lookF_ext {l : List S34} {out out' : List (S24 × Nat)} (h : ∀ y n, lookF out y = some n ↔ 1 ≤ n ∧ DistF l n y) (h' : ∀ y n, lookF out' y = some n ↔ 1 ≤ n ∧ DistF l n y) (y : S24) : lookF out y = lookF out' y := by
  rcases lookF_none_or out y with e | ⟨n, e⟩
  · rcases lookF_none_or out' y with e' | ⟨n, e'⟩
    · rw [e, e']
    · have := (h y n).2 ((h' y n).1 e'); rw [e] at this; cases this
  · rw [e, (h' y n).2 ((h y n).1 e)]
theorem parF_ext {l : List S34} {out out' : List (S24 × Nat)} (h : ∀ y, lookF out y = lookF out' y) (i : Nat) (y : S24) : parF l out i y = parF l out' i y := by
  unfold parF
  congr 1
  refine List.filter_congr fun e _ => ?_
  unfold isParF
  rw [h]
theorem ch_uniq {l : List S34} {out out' : List (S24 × Nat)} {n : S24} {c c' : List S24} (h : ∀ y, lookF out y = lookF out' y) (hc : IsCh l out n c) (hc' : IsCh l out' n c') : c = c' := by
  have hl : c.length = c'.length := by
    have h1 := hc.dist _ _ hc.last
    have h2 := hc'.dist _ _ hc'.last
    have h3 := dist_uniq h1 h2
    have := hc.pos
    have := hc'.pos
    omega
  have hp := hc.pos
  have key : ∀ t, t < c.length → c[c.length - 1 - t]? = c'[c.length - 1 - t]? := by
    intro t
    induction t with
    | zero => intro _; rw [Nat.sub_zero, hc.last, hl, hc'.last]
    | succ t ih =>
      intro ht
      have ih' := ih (by omega)
      have e1 : c.length - 1 - t = (c.length - 1 - (t + 1)) + 1 := by omega
      rw [e1] at ih'
      have g1 := List.getElem?_eq_getElem (l := c) (i := c.length - 1 - (t + 1)) (by omega)
      have g2 := List.getElem?_eq_getElem (l := c') (i := c.length - 1 - (t + 1)) (by omega)
      have g3 := List.getElem?_eq_getElem (l := c) (i := c.length - 1 - (t + 1) + 1) (by omega)
      have p1 := (hc.par _ _ _ g1 g3).2
      have p2 := (hc'.par _ _ _ g2 (by rw [← ih']; exact g3)).2
      rw [g1, g2, p1, p2, parF_ext h]
  refine List.ext_getElem? fun j => ?_
  by_cases hj : j < c.length
  · have := key (c.length - 1 - j) (by omega)
    rwa [show c.length - 1 - (c.length - 1 - j) = j by omega] at this
  · rw [List.getElem?_eq_none (by omega), List.getElem?_eq_none (by omega)]
end Go.Proofs.YtodkjmbmlobihaaDoor.Q
end
