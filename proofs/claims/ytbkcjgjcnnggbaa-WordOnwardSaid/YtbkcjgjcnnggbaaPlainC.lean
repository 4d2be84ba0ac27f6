/- The automata: what is read, what lives, what ends; kinds against one another. Nothing of Go stands in here. -/
import Derived.Test.YtbkcjgjcnnggbaaPlainB
set_option linter.unusedVariables false
namespace Gw

def EndsL : List B := [[], [97], [48], [118, 48, 46, 48, 46, 48], [48, 46, 48, 46, 48], [46, 48, 46, 48], [48, 46, 48], [46, 48]]
theorem next_lt : ∀ k < 3, ∀ q < 15, ∀ c < 256, q < (tab k).length → ∀ q', next k q c = some q' → q' < (tab k).length := by
  have h : ∀ k < 3, ∀ q < 15, ∀ c < 256, q < (tab k).length → (next k q c).all (fun q' => q' < (tab k).length) = true := by decide +kernel
  intro k hk q hq c hc hl q' hn
  have := h k hk q hq c hc hl
  rw [hn] at this
  simpa using this
theorem tab_le : ∀ k < 3, 0 < (tab k).length ∧ (tab k).length ≤ 15 := by decide
theorem rest_acc : ∀ k < 3, ∀ q < 15, q < (tab k).length → acc k q (at_ k q).rest = true := by decide +kernel
theorem ends_rest : ∀ k < 3, ∀ q < 15, q < (tab k).length → (at_ k q).ends = (at_ k q).rest.isEmpty := by decide +kernel
theorem rest_in : ∀ k < 3, ∀ q < 15, q < (tab k).length → (at_ k q).rest ∈ EndsL := by decide +kernel
theorem goes_append (k : Nat) : ∀ (s t : B) (q : Nat), goes k q (s ++ t) = (goes k q s).bind fun q' => goes k q' t
  | [], t, q => rfl
  | c :: s, t, q => by
    rw [List.cons_append, goes, goes]
    cases next k q c with
    | none => rfl
    | some q' => exact goes_append k s t q'
theorem goes_lt {k : Nat} (hk : k < 3) : ∀ (s : B) (q q' : Nat), oct s → q < (tab k).length → goes k q s = some q' → q' < (tab k).length
  | [], q, q', _, hq, h => by rw [goes] at h; injection h with h; exact h ▸ hq
  | c :: s, q, q', ho, hq, h => by
    rw [goes] at h
    cases hn : next k q c with
    | none => rw [hn] at h; cases h
    | some q1 =>
      rw [hn] at h
      have := tab_le k hk
      exact goes_lt hk s q1 q' (fun x hx => ho x (List.mem_cons_of_mem _ hx)) (next_lt k hk q (by omega) c (ho c List.mem_cons_self) hq q1 hn) h
theorem acc_append {k q q' : Nat} {s : B} (t : B) (h : goes k q s = some q') : acc k q (s ++ t) = acc k q' t := by
  unfold acc
  rw [goes_append, h]
  rfl
theorem acc_goes {k q : Nat} {s : B} (h : acc k q s = true) : ∃ q', goes k q s = some q' ∧ (at_ k q').ends = true := by
  unfold acc at h
  cases hg : goes k q s with
  | none => rw [hg] at h; cases h
  | some q' => rw [hg] at h; exact ⟨q', rfl, h⟩
theorem goes_of_append {k q q' : Nat} {s t : B} (h : goes k q (s ++ t) = some q') : ∃ q1, goes k q s = some q1 := by
  rw [goes_append] at h
  cases hg : goes k q s with
  | none => rw [hg] at h; cases h
  | some q1 => exact ⟨q1, rfl⟩
theorem EndsL_oct : ∀ e ∈ EndsL, oct e := by
  intro e he c hc
  have h : ∀ e ∈ EndsL, ∀ c ∈ e, c < 256 := by decide
  exact h e he c hc
theorem oct_append {s t : B} (h : oct s) (h2 : oct t) : oct (s ++ t) := fun c hc => (List.mem_append.1 hc).elim (h c) (h2 c)
theorem rest_word {k q : Nat} (hk : k < 3) {s : B} (ho : oct s) (h : goes k 0 s = some q) : isKind k (s ++ (at_ k q).rest) = true := by
  have ht := tab_le k hk
  have hq := goes_lt hk s 0 q ho ht.1 h
  rw [← acc_kind k hk _ (oct_append ho (EndsL_oct _ (rest_in k hk q (by omega) hq))), acc_append _ h]
  exact rest_acc k hk q (by omega) hq
theorem lives_ref {k : Nat} (hk : k < 3) {s : B} (ho : oct s) : EndsL.any (fun e => isKind k (s ++ e)) = (goes k 0 s).isSome := by
  rw [Bool.eq_iff_iff]
  constructor
  · intro h
    obtain ⟨e, he, hw⟩ := List.any_eq_true.1 h
    rw [← acc_kind k hk _ (oct_append ho (EndsL_oct e he))] at hw
    obtain ⟨q, hq, _⟩ := acc_goes hw
    obtain ⟨q1, h1⟩ := goes_of_append hq
    rw [h1]; rfl
  · intro h
    obtain ⟨q, hq⟩ := Option.isSome_iff_exists.1 h
    have ht := tab_le k hk
    have hl := goes_lt hk s 0 q ho ht.1 hq
    exact List.any_eq_true.2 ⟨_, rest_in k hk q (by omega) hl, rest_word hk ho hq⟩
theorem run_le (k : Nat) : ∀ (s : B) (q : Nat), (run k q s).1 ≤ s.length
  | [], q => Nat.le_refl _
  | c :: s, q => by
    rw [run]
    cases next k q c with
    | none => exact Nat.zero_le _
    | some q' => have := run_le k s q'; simp; exact this
/-- The beginning of that length lives, and leads to that state; a longer one does not live. -/
theorem run_take (k : Nat) : ∀ (s : B) (q i : Nat), i ≤ s.length → ((goes k q (s.take i)).isSome = true ↔ i ≤ (run k q s).1)
  | s, q, 0, _ => by simp [goes]
  | [], q, i + 1, h => by simp at h
  | c :: s, q, i + 1, h => by
    rw [List.take_succ_cons, goes, run]
    cases next k q c with
    | none => simp
    | some q' =>
      have := run_take k s q' i (by simpa using h)
      simp only [Nat.add_le_add_iff_right]
      exact this
theorem run_state (k : Nat) : ∀ (s : B) (q : Nat), goes k q (s.take (run k q s).1) = some (run k q s).2
  | [], q => rfl
  | c :: s, q => by
    rw [run]
    cases hn : next k q c with
    | none => rfl
    | some q' =>
      simp only [List.take_succ_cons]
      rw [goes, hn]
      exact run_state k s q'
theorem run_all {k q : Nat} {s : B} : (run k q s).1 = s.length ↔ ∃ q', goes k q s = some q' := by
  have h := run_take k s q s.length (Nat.le_refl _)
  rw [List.take_length] at h
  have h2 := run_le k s q
  constructor
  · intro e; exact Option.isSome_iff_exists.1 (h.2 (by omega))
  · intro e; have := h.1 (Option.isSome_iff_exists.2 e); omega
theorem run_goes {k q q' : Nat} {s : B} (h : goes k q s = some q') : run k q s = (s.length, q') := by
  have h1 := (run_all (k := k) (q := q) (s := s)).2 ⟨q', h⟩
  have h2 := run_state k s q
  rw [h1, List.take_length, h] at h2
  injection h2 with h2
  rw [← h1, h2]
/-- Whole: all of it is read, and a word ends there. -/
def whole (k : Nat) (s : B) : Bool := (run k 0 s).1 == s.length && (at_ k (run k 0 s).2).ends
theorem whole_acc (k : Nat) (s : B) : whole k s = acc k 0 s := by
  unfold whole
  cases hg : goes k 0 s with
  | none =>
    have : (run k 0 s).1 ≠ s.length := fun h => by
      obtain ⟨q, hq⟩ := run_all.1 h
      rw [hg] at hq; cases hq
    rw [beq_eq_false_iff_ne.2 this]
    unfold acc
    rw [hg]; rfl
  | some q => rw [run_goes hg]; unfold acc; rw [hg]; simp
theorem whole_kind {k : Nat} (hk : k < 3) {s : B} (ho : oct s) : whole k s = isKind k s := by rw [whole_acc, acc_kind k hk s ho]
/-- The reference's count: as long as the next beginning lives. -/
theorem take_append_run {k : Nat} {s t : B} (h : (run k 0 s).1 < s.length) : (run k 0 (s ++ t)).1 = (run k 0 s).1 := by
  have h1 := run_take k (s ++ t) 0 (run k 0 s).1 (by simp; omega)
  have h2 := run_take k (s ++ t) 0 ((run k 0 s).1 + 1) (by simp; omega)
  rw [List.take_append_of_le_length (by omega)] at h1 h2
  have g1 := (run_take k s 0 (run k 0 s).1 (by omega)).2 (Nat.le_refl _)
  have g2 : ¬ (goes k 0 (s.take ((run k 0 s).1 + 1))).isSome = true := fun h3 => by
    have := (run_take k s 0 ((run k 0 s).1 + 1) (by omega)).1 h3
    omega
  have a1 := h1.1 g1
  have a2 : ¬ (run k 0 s).1 + 1 ≤ (run k 0 (s ++ t)).1 := fun h3 => g2 (h2.2 h3)
  omega
theorem run_append_ge {k : Nat} {s : B} (t : B) : (run k 0 s).1 ≤ (run k 0 (s ++ t)).1 := by
  have hl := run_le k s 0
  have h1 := run_take k (s ++ t) 0 (run k 0 s).1 (by simp; omega)
  rw [List.take_append_of_le_length hl] at h1
  exact h1.1 ((run_take k s 0 (run k 0 s).1 hl).2 (Nat.le_refl _))
theorem run_prefix {k : Nat} {s : B} {i : Nat} (h : i ≤ (run k 0 s).1) : (run k 0 (s.take i)).1 = i := by
  have hl := run_le k s 0
  have h1 := (run_take k s 0 i (by omega)).2 h
  obtain ⟨q, hq⟩ := Option.isSome_iff_exists.1 h1
  rw [run_goes hq, List.length_take]
  simp; omega
/-! Kinds against one another. -/
def vp (q : Nat) : List Nat := if q = 0 then [0] else if q = 4 ∨ q = 7 ∨ q = 14 then [1, 2] else if q = 10 then [1, 2] else [1]
def simV (q p : Nat) : Bool := (vp q).contains p
theorem simV_step : ∀ q < 15, ∀ c < 256, ∀ p < 3, simV q p = true → ∀ q', next 1 q c = some q' → ∃ p', next 0 p c = some p' ∧ p' < 3 ∧ simV q' p' = true := by
  have h : ∀ q < 15, ∀ c < 256, ∀ p < 3, simV q p = true → (match next 1 q c with | none => true | some q' => match next 0 p c with | none => false | some p' => decide (p' < 3) && simV q' p') = true := by decide +kernel
  intro q hq c hc p hp hs q' hn
  have := h q hq c hc p hp hs
  rw [hn] at this
  cases hm : next 0 p c with
  | none => rw [hm] at this; cases this
  | some p' => rw [hm] at this; simp at this; exact ⟨p', rfl, this.1, this.2⟩
theorem simV_ends : ∀ q < 15, ∀ p < 3, simV q p = true → (at_ 1 q).ends = true → (at_ 0 p).ends = true := by decide +kernel
theorem simV_goes : ∀ (s : B) (q p q' : Nat), oct s → q < 15 → p < 3 → simV q p = true → goes 1 q s = some q' → ∃ p', goes 0 p s = some p' ∧ p' < 3 ∧ simV q' p' = true
  | [], q, p, q', _, _, hp, hs, h => by rw [goes] at h; injection h with h; exact ⟨p, rfl, hp, h ▸ hs⟩
  | c :: r, q, p, q', ho, hq, hp, hs, h => by
    rw [goes] at h
    cases hn : next 1 q c with
    | none => rw [hn] at h; cases h
    | some q1 =>
      rw [hn] at h
      have hc := ho c List.mem_cons_self
      obtain ⟨p1, h1, h2, h3⟩ := simV_step q hq c hc p hp hs q1 hn
      have hq1 : q1 < 15 := next_lt 1 (by omega) q hq c hc (by
        rcases Nat.lt_or_ge q (tab 1).length with h4 | h4
        · exact h4
        · exact absurd hq (Nat.not_lt.2 h4)) q1 hn
      obtain ⟨p', h4, h5⟩ := simV_goes r q1 p1 q' (fun x hx => ho x (List.mem_cons_of_mem _ hx)) hq1 h2 h3 h
      refine ⟨p', ?_, h5⟩
      rw [goes, h1]; exact h4
theorem version_path {s : B} (ho : oct s) (h : acc 1 0 s = true) : acc 0 0 s = true := by
  obtain ⟨q, hq, he⟩ := acc_goes h
  obtain ⟨p, hp, hp3, hs⟩ := simV_goes s 0 0 q ho (by omega) (by omega) rfl hq
  have hl : q < 15 := goes_lt (by omega : 1 < 3) s 0 q ho (by decide) hq
  unfold acc
  rw [hp]
  exact simV_ends q hl p hp3 hs he
def gp (q : Nat) : List Nat := if q = 0 then [0] else if q = 3 ∨ q = 6 then [2] else [1]
def simG (q p : Nat) : Bool := (gp q).contains p
theorem simG_step : ∀ q < 9, ∀ c < 256, ∀ p < 3, simG q p = true → ∀ q', next 2 q c = some q' → ∃ p', next 0 p c = some p' ∧ p' < 3 ∧ simG q' p' = true := by
  have h : ∀ q < 9, ∀ c < 256, ∀ p < 3, simG q p = true → (match next 2 q c with | none => true | some q' => match next 0 p c with | none => false | some p' => decide (p' < 3) && simG q' p') = true := by decide +kernel
  intro q hq c hc p hp hs q' hn
  have := h q hq c hc p hp hs
  rw [hn] at this
  cases hm : next 0 p c with
  | none => rw [hm] at this; cases this
  | some p' => rw [hm] at this; simp at this; exact ⟨p', rfl, this.1, this.2⟩
theorem simG_ends : ∀ q < 9, ∀ p < 3, simG q p = true → (at_ 2 q).ends = true → (at_ 0 p).ends = true := by decide +kernel
theorem simG_goes : ∀ (s : B) (q p q' : Nat), oct s → q < 9 → p < 3 → simG q p = true → goes 2 q s = some q' → ∃ p', goes 0 p s = some p' ∧ p' < 3 ∧ simG q' p' = true
  | [], q, p, q', _, _, hp, hs, h => by rw [goes] at h; injection h with h; exact ⟨p, rfl, hp, h ▸ hs⟩
  | c :: r, q, p, q', ho, hq, hp, hs, h => by
    rw [goes] at h
    cases hn : next 2 q c with
    | none => rw [hn] at h; cases h
    | some q1 =>
      rw [hn] at h
      have hc := ho c List.mem_cons_self
      obtain ⟨p1, h1, h2, h3⟩ := simG_step q hq c hc p hp hs q1 hn
      have hq1 : q1 < 9 := next_lt 2 (by omega) q (by omega) c hc hq q1 hn
      obtain ⟨p', h4, h5⟩ := simG_goes r q1 p1 q' (fun x hx => ho x (List.mem_cons_of_mem _ hx)) hq1 h2 h3 h
      refine ⟨p', ?_, h5⟩
      rw [goes, h1]; exact h4
theorem go_path {s : B} (ho : oct s) (h : acc 2 0 s = true) : acc 0 0 s = true := by
  obtain ⟨q, hq, he⟩ := acc_goes h
  obtain ⟨p, hp, hp3, hs⟩ := simG_goes s 0 0 q ho (by omega) (by omega) rfl hq
  have hl : q < 9 := goes_lt (by omega : 2 < 3) s 0 q ho (by decide) hq
  unfold acc
  rw [hp]
  exact simG_ends q hl p hp3 hs he
theorem not_both {s : B} (ho : oct s) : ¬ (acc 1 0 s = true ∧ acc 2 0 s = true) := by
  intro ⟨h1, h2⟩
  cases s with
  | nil => revert h1; decide
  | cons c r =>
    have hc := ho c List.mem_cons_self
    have h : ∀ c < 256, next 1 0 c = none ∨ next 2 0 c = none := by decide +kernel
    rw [acc_cons] at h1 h2
    rcases h c hc with h | h
    · rw [h] at h1; cases h1
    · rw [h] at h2; cases h2
theorem acc_nil : ∀ k < 3, acc k 0 [] = false := by decide
end Gw
