/- Word: what the printed reference of layer 6 and the law's cut of a text answer. Conditions: texts of at most 2^41 octets. -/
import Derived.Test.YtbkcjgjcnnggbaaTot
import Derived.Test.YtbkcjgjcnnggbaaSplitP
namespace Go.Proofs.Ytbkcjgjcnnggbaa.Q
open Go.RowKit Go.Proofs.YtbkcjgjcnnggbaaW.PrintWords Go.Proofs.YtbkcjgjcnnggbaaW.PrintLast Go.Proofs.YtbkcjgjcnnggbaaW.PrintMore Gw
set_option linter.unusedVariables false
set_option linter.unusedSimpArgs false
theorem Few_tot (s : ByteArray) : ∃ t, graftwoodlaw06_Few.f s = some t ∧ t.size ≤ 60 := by
  unfold graftwoodlaw06_Few.f graftwoodlaw01_Few.f
  by_cases h : (s.size : Int) > 60
  · rw [if_pos h, if_pos (by omega), if_pos (by omega)]
    exact ⟨_, rfl, by simp only [ByteArray.size_extract]; omega⟩
  · rw [if_neg h, if_neg (by omega)]
    exact ⟨s, rfl, by omega⟩
theorem ref3May_tot (s : ByteArray) (hs : Small s) : graftwoodref03_May.f s = some (isVersion (bs s)) := by
  unfold graftwoodref03_May.f graftwoodref03_Split.f
  rw [if_pos hs, ← splitV_ok]; rfl
theorem Whole6_l0 (l : List ByteArray) (B : Nat) (hl : l.length ≤ 8796093022208) (hs : ∀ x ∈ l, Small x ∧ x.size ≤ B) : ∀ (r : List ByteArray) (i k : Nat), l.drop i = r → i ≤ l.length → r.length + B + 8 < k →
    graftwoodref06_Whole.l0 k l (i : Int) = some (r.all (fun x => isNum (bs x)) && (l.length == 2 || l.length == 3))
  | [], i, k, hr, hi, hk => by
    have := List.drop_eq_nil_iff.1 hr
    obtain ⟨k, rfl⟩ : ∃ m, k = m + 1 := ⟨k - 1, by omega⟩
    simp only [graftwoodref06_Whole.l0]
    rw [if_neg (by omega)]
    by_cases h2 : l.length = 2
    · rw [if_pos (by omega), h2]; rfl
    · rw [if_neg (by omega), beq_eq_false_iff_ne.2 h2, Bool.false_or, List.all_nil, Bool.true_and]
      congr 1
      rw [Bool.eq_iff_iff]; simp; omega
  | x :: r, i, k, hr, hi, hk => by
    obtain ⟨h1, h2, h3⟩ := rdOf_nat hr
    have hx := hs x (List.mem_of_mem_drop (i := i) (by rw [hr]; exact List.mem_cons_self))
    have hw := wl h1 hl
    obtain ⟨k, rfl⟩ : ∃ m, k = m + 1 := ⟨k - 1, by omega⟩
    simp only [List.length_cons] at hk
    simp only [graftwoodref06_Whole.l0]
    rw [if_pos (by omega), if_pos (by omega), h2, ref2May_tot x hx.1 k (by omega)]
    simp only [Option.bind_some]
    by_cases hc : isNum (bs x) = true
    · rw [if_pos hc, hw, Whole6_l0 l B hl hs r (i + 1) k h3 (by omega) (by omega), List.all_cons, hc, Bool.true_and]
    · rw [if_neg hc, List.all_cons, Bool.eq_false_iff.2 hc, Bool.false_and, Bool.false_and]
theorem Whole6_tot (k : Nat) (hk : k < 3) (s : ByteArray) (hs : Small s) (K : Nat) (hK : 2 * s.size + 10 < K) : graftwoodref06_Whole.f K (k : Int) s = some (isKind k (bs s)) := by
  have h := parts_small hs 46
  have hs' := hs
  unfold Small at hs'
  have h3 : k = 0 ∨ k = 1 ∨ k = 2 := by omega
  unfold graftwoodref06_Whole.f
  rcases h3 with rfl | rfl | rfl
  · rw [if_pos (by omega), ref4May_tot s hs K (by omega)]; rfl
  · rw [if_neg (by omega), if_pos (by omega), ref3May_tot s hs]; rfl
  · rw [if_neg (by omega), if_neg (by omega), if_pos (by omega), show (46 : Int) = ((46 : Nat) : Int) from rfl, Parts_tot s hs 46 K (by omega)]
    simp only [Option.bind_some]
    rw [show (0 : Int) = ((0 : Nat) : Int) from rfl, Whole6_l0 _ s.size (by omega) h.2 ((parts 46 (bs s)).map ofB) 0 K rfl (Nat.zero_le _) (by omega), parts_all s 46 isNum, List.length_map]
    simp only [isKind, isGo, coreOk]
    cases (parts 46 (bs s)).all isNum <;> simp
def EndsB : List ByteArray := EndsL.map ofB
theorem Ends_tot : graftwoodref06_Ends.f = some EndsB := rfl
theorem EndsB_size : ∀ x ∈ EndsB, x.size ≤ 6 := by decide
theorem Lives6_l0 (k : Nat) (hk : k < 3) (s : ByteArray) (hs : s.size ≤ 4398046511000) : ∀ (r : List Gw.B) (i K : Nat), EndsB.drop i = r.map ofB → (∀ e ∈ r, e ∈ EndsL) → i ≤ 8 → r.length + 2 * s.size + 30 < K →
    graftwoodref06_Lives.l0 K (k : Int) s EndsB (i : Int) = some (r.any fun e => isKind k (bs s ++ e))
  | [], i, K, hr, he, hi, hK => by
    have h8 : EndsB.length = 8 := rfl
    have := List.drop_eq_nil_iff.1 hr
    obtain ⟨K, rfl⟩ : ∃ m, K = m + 1 := ⟨K - 1, by omega⟩
    simp only [graftwoodref06_Lives.l0]
    rw [if_neg (by omega)]
    rfl
  | e :: r, i, K, hr, he, hi, hK => by
    have h8 : EndsB.length = 8 := rfl
    obtain ⟨h1, h2, h3⟩ := rdOf_nat (x := ofB e) (r := r.map ofB) hr
    have hmem : ofB e ∈ EndsB := List.mem_of_mem_drop (i := i) (by rw [hr]; exact List.mem_cons_self)
    have hsz := EndsB_size _ hmem
    have hbe : bs (ofB e) = e := bs_ofB (EndsL_oct e (he e List.mem_cons_self))
    obtain ⟨K, rfl⟩ : ∃ m, K = m + 1 := ⟨K - 1, by omega⟩
    simp only [List.length_cons] at hK
    have hsm : (s ++ ofB e).size = s.size + (ofB e).size := by simp
    simp only [graftwoodref06_Lives.l0]
    rw [if_pos (by omega), if_pos (by omega), h2, if_pos (by omega), Whole6_tot k hk _ (by unfold Small; omega) K (by omega), bs_append, hbe]
    simp only [Option.bind_some]
    rw [List.any_cons]
    by_cases hc : isKind k (bs s ++ e) = true
    · rw [if_pos hc, hc]; rfl
    · rw [if_neg hc, wl h1 (by omega), Lives6_l0 k hk s hs r (i + 1) K h3 (fun x hx => he x (List.mem_cons_of_mem _ hx)) (by omega) (by omega), Bool.eq_false_iff.2 hc, Bool.false_or]
theorem Lives6_tot (k : Nat) (hk : k < 3) (s : ByteArray) (hs : s.size ≤ 4398046511000) (K : Nat) (hK : 2 * s.size + 40 < K) : graftwoodref06_Lives.f K (k : Int) s = some ((goes k 0 (bs s)).isSome) := by
  unfold graftwoodref06_Lives.f
  rw [Ends_tot]
  simp only [Option.bind_some]
  rw [show (0 : Int) = ((0 : Nat) : Int) from rfl, Lives6_l0 k hk s hs EndsL 0 K rfl (fun _ h => h) (by omega) (by show 8 + _ + _ < _; omega), lives_ref hk (bs_oct s)]
theorem Live6_l0 (k : Nat) (hk : k < 3) (s : ByteArray) (hs : s.size ≤ 4398046511000) : ∀ (d i K : Nat), s.size - i = d → i ≤ (run k 0 (bs s)).1 → d + 2 * s.size + 50 < K →
    graftwoodref06_Live.l0 K (k : Int) s (i : Int) = some ((run k 0 (bs s)).1 : Int)
  | 0, i, K, hd, hi, hK => by
    have hr := run_le k (bs s) 0
    rw [bs_length] at hr
    obtain ⟨K, rfl⟩ : ∃ m, K = m + 1 := ⟨K - 1, by omega⟩
    simp only [graftwoodref06_Live.l0]
    rw [if_neg (by omega)]
    congr 1; omega
  | d + 1, i, K, hd, hi, hK => by
    have hr := run_le k (bs s) 0
    rw [bs_length] at hr
    have hw : wrap64 ((i : Int) + 1) = ((i + 1 : Nat) : Int) := w1 (n := s.size) (by omega) (by omega)
    obtain ⟨K, rfl⟩ : ∃ m, K = m + 1 := ⟨K - 1, by omega⟩
    have hsz : (s.extract 0 (i + 1)).size = i + 1 := by simp only [ByteArray.size_extract]; omega
    have hb : bs (s.extract 0 (i + 1)) = (bs s).take (i + 1) := by rw [bs_extract]; rfl
    have ht := run_take k (bs s) 0 (i + 1) (by rw [bs_length]; omega)
    simp only [graftwoodref06_Live.l0]
    rw [if_pos (by omega), hw, if_pos (by omega), if_pos (by omega), Int.toNat_natCast, Lives6_tot k hk _ (by omega) K (by omega), hb]
    simp only [Option.bind_some]
    by_cases hc : (goes k 0 ((bs s).take (i + 1))).isSome = true
    · rw [if_pos hc]
      exact Live6_l0 k hk s hs d (i + 1) K (by omega) (ht.1 hc) (by omega)
    · rw [if_neg hc]
      have : ¬ i + 1 ≤ (run k 0 (bs s)).1 := fun h => hc (ht.2 h)
      congr 1; omega
theorem Live6_tot (k : Nat) (hk : k < 3) (s : ByteArray) (hs : s.size ≤ 4398046511000) (K : Nat) (hK : 3 * s.size + 60 < K) : graftwoodref06_Live.f K (k : Int) s = some ((run k 0 (bs s)).1 : Int) := by
  unfold graftwoodref06_Live.f
  exact Live6_l0 k hk s hs s.size 0 K rfl (Nat.zero_le _) (by omega)
theorem mod3 (a0 : Int) (h : (Lit.int .u8 a0).wf = true) : ∃ k : Nat, k < 3 ∧ wrap64 (Int.tmod a0 3) = (k : Int) := by
  have hb : 0 ≤ a0 ∧ a0 ≤ 255 := by
    simp [Lit.wf, IntKind.min, IntKind.max, IntKind.signed, IntKind.bits] at h
    omega
  obtain ⟨n, rfl⟩ := Int.eq_ofNat_of_zero_le hb.1
  refine ⟨n % 3, Nat.mod_lt _ (by omega), ?_⟩
  rw [show Int.tmod (n : Int) 3 = ((n % 3 : Nat) : Int) from by rw [Int.tmod_eq_emod_of_nonneg (by omega)]; rfl]
  unfold wrap64; omega
end Go.Proofs.Ytbkcjgjcnnggbaa.Q
