/- Word: what the printed functions of layer 6 and its reference answer, by the automata. Conditions: texts of at most 2^42 octets. -/
import Derived.Test.YtbkcjgjcnnggbaaQ4
import Derived.Test.YtbkcjgjcnnggbaaQ5
import Derived.Test.YtbkcjgjcnnggbaaSplit
import Derived.Test.YtbkcjgjcnnggbaaPlainC
namespace Go.Proofs.Ytbkcjgjcnnggbaa.Q
open Go.RowKit Go.Proofs.YtbkcjgjcnnggbaaW.PrintWords Go.Proofs.YtbkcjgjcnnggbaaW.PrintLast Go.Proofs.YtbkcjgjcnnggbaaW.PrintMore Gw
set_option linter.unusedVariables false
set_option linter.unusedSimpArgs false
def toM (m : Gw.B × Nat) : S54 := ⟨ofB m.1, m.2⟩
def toS (s : St) : S38 := ⟨s.moves.map toM, s.ends, ofB s.rest⟩
theorem statesT_tab : ∀ k < 3, statesT (k : Nat) = (tab k).map toS := by
  intro k hk
  have h : k = 0 ∨ k = 1 ∨ k = 2 := by omega
  rcases h with rfl | rfl | rfl <;> rfl
theorem indexByte_contains : ∀ (l : List UInt8) (c : UInt8), (0 ≤ Lib.indexByte l c) ↔ (l.map UInt8.toNat).contains c.toNat = true
  | [], c => by simp [Lib.indexByte]
  | b :: l, c => by
    have ih := indexByte_contains l c
    have hg := Lib.indexByte_ge l c
    unfold Lib.indexByte
    by_cases h : b = c
    · simp [h]
    · have h2 : b.toNat ≠ c.toNat := fun e => h (UInt8.toNat_inj.1 e)
      rw [if_neg (by simpa using h)]
      simp only [List.map_cons, List.contains_cons]
      rw [show (c.toNat == b.toNat) = false from beq_eq_false_iff_ne.2 (Ne.symm h2), Bool.false_or, ← ih]
      by_cases h3 : Lib.indexByte l c = -1
      · rw [if_pos (by simpa using h3)]; omega
      · rw [if_neg (by simpa using h3)]; omega
theorem IndexByte_tot (o : ByteArray) (c : Nat) (hc : c < 256) : ∃ n : Int, strings_IndexByte.f o (c : Int) = some n ∧ (n ≥ 0 ↔ (bs o).contains c = true) := by
  refine ⟨_, rfl, ?_⟩
  have h := indexByte_contains o.data.toList (UInt8.ofNat c)
  rw [show (UInt8.ofNat c).toNat = c from by simp [UInt8.toNat_ofNat, Nat.mod_eq_of_lt hc]] at h
  simp only [Int.toNat_natCast, Nat.toUInt8_eq]
  exact h
def stepR (o : Option Nat) : Int × Bool := match o with | none => (0, false) | some q => (q, true)
theorem rd_T54_at {l : List S54} {i : Nat} {m : S54} {r : List S54} (h : l.drop i = m :: r) : i < l.length ∧ rd_T54 l (i : Int) = m ∧ l.drop (i + 1) = r := by
  have hl : i < l.length := by
    rcases Nat.lt_or_ge i l.length with h1 | h1
    · exact h1
    · rw [List.drop_eq_nil_of_le h1] at h; cases h
  rw [List.drop_eq_getElem_cons hl] at h
  injection h with h1 h2
  exact ⟨hl, by simp [rd_T54, List.getD_eq_getElem?_getD, List.getElem?_eq_getElem hl, h1], h2⟩
theorem step_l0 (l : List S54) (c : Nat) (hc : c < 256) (hl : l.length ≤ 100) : ∀ (r : List (Gw.B × Nat)) (i k : Nat), (∀ m ∈ r, oct m.1) → l.drop i = r.map toM → i ≤ l.length → r.length < k →
    word_step.l0 k (c : Int) l (l.length : Int) (i : Int) = some (stepR (stepM r c))
  | [], i, k, ho, hr, hi, hk => by
    have := List.drop_eq_nil_iff.1 hr
    obtain ⟨k, rfl⟩ : ∃ m, k = m + 1 := ⟨k - 1, by omega⟩
    simp only [word_step.l0]
    rw [if_neg (by omega)]
    rfl
  | m :: r, i, k, ho, hr, hi, hk => by
    obtain ⟨h1, h2, h3⟩ := rd_T54_at (m := toM m) (r := r.map toM) hr
    obtain ⟨k, rfl⟩ : ∃ m, k = m + 1 := ⟨k - 1, by omega⟩
    simp only [List.length_cons] at hk
    obtain ⟨n, hn, hnn⟩ := IndexByte_tot (toM m).f0 c hc
    have hb : bs (toM m).f0 = m.1 := bs_ofB (ho m List.mem_cons_self)
    rw [hb] at hnn
    simp only [word_step.l0]
    rw [if_pos (by omega), if_pos (by omega), if_pos (by omega), h2, hn]
    simp only [Option.bind_some]
    unfold stepM
    by_cases hh : m.1.contains c = true
    · rw [if_pos (hnn.2 hh), if_pos hh]; rfl
    · rw [if_neg (fun h => hh (hnn.1 h)), if_neg hh, wl h1 (by omega)]
      exact step_l0 l c hc hl r (i + 1) k (fun m hm => ho m (List.mem_cons_of_mem _ hm)) h3 (by omega) (by omega)
theorem tab_oct : ∀ k < 3, ∀ q < 15, (∀ m ∈ (at_ k q).moves, oct m.1) ∧ oct (at_ k q).rest ∧ (at_ k q).moves.length ≤ 3 := by
  have h : ∀ k < 3, ∀ q < 15, (∀ m ∈ (at_ k q).moves, ∀ c ∈ m.1, c < 256) ∧ (∀ c ∈ (at_ k q).rest, c < 256) ∧ (at_ k q).moves.length ≤ 3 := by decide +kernel
  exact h
theorem step_tot (k q c K : Nat) (hk : k < 3) (hq : q < 15) (hc : c < 256) (hK : 5 ≤ K) (b : Bool) (x : ByteArray) : word_step.f K (toS (at_ k q)).f0 b x (c : Int) = some (stepR (next k q c)) := by
  obtain ⟨h1, h2, h3⟩ := tab_oct k hk q hq
  unfold word_step.f
  have hl : (toS (at_ k q)).f0.length = (at_ k q).moves.length := by simp [toS]
  exact step_l0 (toS (at_ k q)).f0 c hc (by omega) (at_ k q).moves 0 K h1 rfl (Nat.zero_le _) (by omega)
theorem rd_T38_tab {k q : Nat} (hk : k < 3) (hq : q < (tab k).length) : rd_T38 (statesT k) (q : Int) = toS (at_ k q) := by
  rw [statesT_tab k hk]
  simp [rd_T38, at_, List.getD_eq_getElem?_getD, List.getElem?_eq_getElem hq]
def stOut (n : Nat) (s : St) : Int × List S54 × Bool × ByteArray := ((n : Int), (toS s).f0, (toS s).f1, (toS s).f2)
theorem read_l0 (k : Nat) (hk : k < 3) (s : ByteArray) (hs : Small s) : ∀ (r : List Nat) (i q K : Nat), (bs s).drop i = r → i ≤ s.size → q < (tab k).length → r.length + 6 < K →
    word_read1.l0 K s (statesT k) (q : Int) (s.size : Int) (i : Int) = some (stOut (i + (run k q r).1) (at_ k (run k q r).2))
  | [], i, q, K, hr, hi, hq, hK => by
    have e := drop_nil hr hi
    have hl : (statesT k).length = (tab k).length := by rw [statesT_tab k hk, List.length_map]
    obtain ⟨K, rfl⟩ : ∃ m, K = m + 1 := ⟨K - 1, by omega⟩
    simp only [word_read1.l0]
    rw [if_neg (by omega), if_pos (by omega), if_pos (by omega), rd_T38_tab hk hq, ← e]
    rfl
  | c :: r, i, q, K, hr, hi, hq, hK => by
    obtain ⟨h1, h2, h3, h4⟩ := bt_drop hr
    have hw := w1 h1 hs
    have ht := tab_le k hk
    have hl : (statesT k).length = (tab k).length := by rw [statesT_tab k hk, List.length_map]
    obtain ⟨K, rfl⟩ : ∃ m, K = m + 1 := ⟨K - 1, by omega⟩
    simp only [List.length_cons] at hK
    simp only [word_read1.l0]
    rw [if_pos (by omega), if_pos (by omega), if_pos (by omega), if_pos (by omega), if_pos (by omega), rd_T38_tab hk hq, h2, step_tot k q c K hk (by omega) h4 (by omega)]
    simp only [Option.bind_some]
    rw [run]
    cases hn : next k q c with
    | none => simp [stepR, stOut]
    | some q' =>
      have hq' := next_lt k hk q (by omega) c h4 hq q' hn
      simp only [stepR, if_true]
      rw [hw, read_l0 k hk s hs r (i + 1) q' K h3 (by omega) hq' (by omega)]
      simp only [stOut]
      congr 2
      omega
theorem read_tot (k : Nat) (hk : k < 3) (s : ByteArray) (hs : Small s) (K : Nat) (hK : s.size + 6 < K) : word_read.f K (k : Int) s = some (stOut (run k 0 (bs s)).1 (at_ k (run k 0 (bs s)).2)) := by
  have ht := tab_le k hk
  unfold word_read.f word_read1.f
  rw [if_pos (by omega)]
  have h := read_l0 k hk s hs (bs s) 0 0 K rfl (Nat.zero_le _) ht.1 (by rw [bs_length]; exact hK)
  rw [Nat.zero_add] at h
  exact h
theorem read_none (k : Int) (hk : k < 0 ∨ 2 < k) (s : ByteArray) (K : Nat) : word_read.f K k s = some (-1, [], false, ⟨#[]⟩) := by
  unfold word_read.f
  rw [if_neg (by omega)]
theorem Live_tot (k : Nat) (hk : k < 3) (s : ByteArray) (hs : Small s) (K : Nat) (hK : s.size + 6 < K) : word_Live.f K (k : Int) s = some ((run k 0 (bs s)).1 : Int) := by
  unfold word_Live.f
  rw [read_tot k hk s hs K hK]; rfl
theorem Whole_tot (k : Nat) (hk : k < 3) (s : ByteArray) (hs : Small s) (K : Nat) (hK : s.size + 6 < K) : word_Whole.f K (k : Int) s = some (whole k (bs s)) := by
  unfold word_Whole.f
  rw [read_tot k hk s hs K hK]
  simp only [Option.bind_some, stOut]
  unfold whole
  rw [bs_length]
  by_cases h : (run k 0 (bs s)).1 = s.size
  · rw [if_pos (by omega), h]; simp [toS]
  · rw [if_neg (by omega), beq_eq_false_iff_ne.2 h]; rfl
theorem Small_of {l : List UInt8} (h : l.length ≤ 100) : Small ⟨l.toArray⟩ := by unfold Small; simp [ByteArray.size]; omega
theorem awake_tot (K : Nat) (hK : 100 < K) : graftwoodlaw06_awake.f K = some true := by
  unfold graftwoodlaw06_awake.f
  have e1 : ∀ (s : ByteArray) (h : s.size ≤ 50), Small s := fun s h => by unfold Small; omega
  rw [show (1 : Int) = ((1 : Nat) : Int) from rfl, show (0 : Int) = ((0 : Nat) : Int) from rfl]
  rw [Live_tot 1 (by omega) _ (e1 _ (by decide)) K (by show _ < K; exact Nat.lt_of_le_of_lt (by decide) hK)]
  simp only [Option.bind_some]
  rw [if_pos (by decide +kernel), Live_tot 1 (by omega) _ (e1 _ (by decide)) K (by show _ < K; exact Nat.lt_of_le_of_lt (by decide) hK)]
  simp only [Option.bind_some]
  rw [if_pos (by decide +kernel), Live_tot 0 (by omega) _ (e1 _ (by decide)) K (by show _ < K; exact Nat.lt_of_le_of_lt (by decide) hK)]
  simp only [Option.bind_some]
  rw [if_pos (by decide +kernel), show (2 : Int) = ((2 : Nat) : Int) from rfl, Whole_tot 2 (by omega) _ (e1 _ (by decide)) K (by show _ < K; exact Nat.lt_of_le_of_lt (by decide) hK)]
  simp only [Option.bind_some]
  rw [if_pos (by decide +kernel), Whole_tot 2 (by omega) _ (e1 _ (by decide)) K (by show _ < K; exact Nat.lt_of_le_of_lt (by decide) hK)]
  simp only [Option.bind_some]
  rw [if_neg (by decide +kernel)]
end Go.Proofs.Ytbkcjgjcnnggbaa.Q
