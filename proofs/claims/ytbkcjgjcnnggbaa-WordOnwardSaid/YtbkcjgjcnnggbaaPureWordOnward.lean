/- WordOnward: the pure statement of the law: the printed law answers true, with rounds enough. No conditions but the row's own. -/
import Derived.Test.YtbkcjgjcnnggbaaTot2
import Derived.Test.YtbkcjgjcnnggbaaOnward
namespace Go.Proofs.Ytbkcjgjcnnggbaa.Pure
open Go.RowKit Go.Proofs.Ytbkcjgjcnnggbaa.Q Go.Proofs.YtbkcjgjcnnggbaaW.PrintWords Go.Proofs.YtbkcjgjcnnggbaaW.PrintLast Gw
set_option linter.unusedVariables false
theorem findT_tab (k q : Nat) (hk : k < 3) (hq : q < (tab k).length) : findT (k : Int) (q : Int) = toS (at_ k q) := by
  unfold findT
  rw [if_neg (by omega), ← rd_T38_tab hk hq]
  rfl
theorem Step_tot (k q c K : Nat) (hk : k < 3) (hq : q < (tab k).length) (hc : c < 256) (hK : 5 ≤ K) : word_Step.f K (k : Int) (q : Int) (c : Int) = some (stepR (next k q c)) := by
  have ht := tab_le k hk
  unfold word_Step.f word_find.f
  rw [findT_tab k q hk hq]
  simp only [Option.bind_some]
  rw [step_tot k q c K hk (by omega) hc hK]; rfl
theorem bs_num (c : Nat) (hc : c < 256) : bs (strOfNums [(c : Int)]) = [c] := by
  simp [bs, strOfNums]
  omega
theorem num_size (c : Int) : (strOfNums [c]).size = 1 := rfl
theorem Rest_tot (k q : Nat) (hk : k < 3) (hq : q < (tab k).length) : word_Rest.f (k : Int) (q : Int) = some (ofB (at_ k q).rest) := by
  unfold word_Rest.f
  rw [findT_tab k q hk hq]; rfl
theorem WEnds_tot (k q : Nat) (hk : k < 3) (hq : q < (tab k).length) : word_Ends.f (k : Int) (q : Int) = some (at_ k q).ends := by
  unfold word_Ends.f
  rw [findT_tab k q hk hq]; rfl
theorem rest_size (k q : Nat) (hk : k < 3) (hq : q < (tab k).length) : (ofB (at_ k q).rest).size ≤ 6 := by
  have ht := tab_le k hk
  exact EndsB_size _ (List.mem_map.2 ⟨_, rest_in k hk q (by omega) hq, rfl⟩)
theorem bs_rest (k q : Nat) (hk : k < 3) (hq : q < (tab k).length) : bs (ofB (at_ k q).rest) = (at_ k q).rest := by
  have ht := tab_le k hk
  exact bs_ofB (tab_oct k hk q (by omega)).2.1
theorem Onward_end (k : Nat) (hk : k < 3) (s : ByteArray) (hs : s.size ≤ 60) (c : Nat) (hc : c < 256) (q : Nat) (hg : goes k 0 (bs s) = some q) (K : Nat) (hK : 500 < K) : graftwoodlaw06_WordOnward.l0 (K + 1) s (c : Int) (k : Int) (q : Int) (s.size : Int) = some true := by
  have ht := tab_le k hk
  have ho : oct (bs s) := fun c hc => bs_oct s c hc
  have ho1 : oct (bs s ++ [c]) := oct_append ho (fun x hx => by rw [List.mem_singleton.1 hx]; exact hc)
  have hq := goes_lt hk _ 0 q ho ht.1 hg
  have hgn : goes k 0 (bs s ++ [c]) = next k q c := by
    rw [goes_append, hg]
    show goes k q [c] = _
    rw [goes]
    cases next k q c <;> rfl
  have n0 : ¬ (s.size : Int) < (s.size : Int) := by omega
  have n1 : 5 ≤ K := by omega
  have hsz : (s ++ strOfNums [(c : Int)]).size = s.size + 1 := by rw [ByteArray.size_append, num_size]
  have hbs : bs (s ++ strOfNums [(c : Int)]) = bs s ++ [c] := by rw [bs_append, bs_num c hc]
  have n2 : s.size + (strOfNums [(c : Int)]).size ≤ 9223372036854775807 := by rw [num_size]; omega
  have n3 : Small (s ++ strOfNums [(c : Int)]) := by unfold Small; omega
  have n4 : (s ++ strOfNums [(c : Int)]).size + 6 < K := by omega
  have hr := rest_size k q hk hq
  have rz : (s ++ ofB (at_ k q).rest).size = s.size + (ofB (at_ k q).rest).size := by simp
  have r1 : s.size + (ofB (at_ k q).rest).size ≤ 9223372036854775807 := by omega
  have r2 : Small (s ++ ofB (at_ k q).rest) := by unfold Small; omega
  have r3 : (s ++ ofB (at_ k q).rest).size + 6 < K := by omega
  have n5 : 100 < K := by omega
  have hrw : whole k (bs s ++ (at_ k q).rest) = true := by
    rw [whole_acc, acc_append _ hg]; exact rest_acc k hk q (by omega) hq
  have fin : ((word_Rest.f (k : Int) (q : Int)).bind fun t228 => (if s.size + t228.size ≤ 9223372036854775807 then ((word_Whole.f K (k : Int) (s ++ t228)).bind fun t229 => (if t229 = true then ((graftwoodlaw06_awake.f K).bind fun t230 => (some t230)) else (some false))) else (none))) = some true := by
    rw [Rest_tot k q hk hq]
    simp only [Option.bind_some]
    rw [if_pos r1, Whole_tot k hk _ r2 K r3, bs_append, bs_rest k q hk hq, hrw]
    simp only [Option.bind_some, if_true]
    rw [awake_tot K n5]; rfl
  simp only [graftwoodlaw06_WordOnward.l0]
  rw [if_neg n0, Step_tot k q c K hk hq hc n1]
  simp only [Option.bind_some]
  rw [if_pos n2, Live_tot k hk _ n3 K n4, hbs]
  simp only [Option.bind_some]
  rw [hsz]
  cases hn : next k q c with
  | none =>
    have hne : ((run k 0 (bs s ++ [c])).1 : Int) ≠ ((s.size + 1 : Nat) : Int) := by
      intro e
      have : (run k 0 (bs s ++ [c])).1 = (bs s ++ [c]).length := by rw [List.length_append, bs_length]; simp; omega
      obtain ⟨q', hq'⟩ := run_all.1 this
      rw [hgn, hn] at hq'
      cases hq'
    have hne2 : (((run k 0 (bs s ++ [c])).1 : Int) == ((s.size + 1 : Nat) : Int)) = false := beq_eq_false_iff_ne.2 hne
    rw [hne2]
    simp only [stepR, bne_self_eq_false, Bool.false_eq_true, if_false]
    exact fin
  | some q' =>
    have hg' : goes k 0 (bs s ++ [c]) = some q' := hgn.trans hn
    have hq' := goes_lt hk _ 0 q' ho1 ht.1 hg'
    have hrun := run_goes hg'
    have he2 : (((run k 0 (bs s ++ [c])).1 : Int) == ((s.size + 1 : Nat) : Int)) = true := by
      rw [beq_iff_eq, hrun]
      simp [bs_length]
    have hr' := rest_size k q' hk hq'
    have s1 : s.size + 1 + (ofB (at_ k q').rest).size ≤ 9223372036854775807 := by omega
    have sz2 : (s ++ strOfNums [(c : Int)] ++ ofB (at_ k q').rest).size = s.size + 1 + (ofB (at_ k q').rest).size := by rw [ByteArray.size_append, hsz]
    have s2 : Small (s ++ strOfNums [(c : Int)] ++ ofB (at_ k q').rest) := by unfold Small; omega
    have s3 : (s ++ strOfNums [(c : Int)] ++ ofB (at_ k q').rest).size + 6 < K := by omega
    have hw1 : whole k (bs s ++ [c] ++ (at_ k q').rest) = true := by
      rw [whole_acc, acc_append _ hg']; exact rest_acc k hk q' (by omega) hq'
    have hw2 : whole k (bs s ++ [c]) = (at_ k q').ends := by
      rw [whole_acc]; unfold acc; rw [hg']
    rw [he2]
    simp only [stepR, bne_self_eq_false, Bool.false_eq_true, if_false, if_true]
    rw [Rest_tot k q' hk hq']
    simp only [Option.bind_some]
    rw [if_pos s1, Whole_tot k hk _ s2 K s3, bs_append, hbs, bs_rest k q' hk hq', hw1]
    simp only [Option.bind_some, if_true]
    rw [WEnds_tot k q' hk hq', Whole_tot k hk _ n3 K n4, hbs, hw2]
    simp only [Option.bind_some, beq_self_eq_true, if_true]
    exact fin
theorem Onward_l0 (k : Nat) (hk : k < 3) (s : ByteArray) (hs : s.size ≤ 60) (c : Nat) (hc : c < 256) (n : Nat) (hn : goes k 0 (bs s) = some n) : ∀ (r : List Nat) (i q K : Nat), (bs s).drop i = r → i ≤ s.size → goes k 0 ((bs s).take i) = some q → r.length + 600 < K → graftwoodlaw06_WordOnward.l0 K s (c : Int) (k : Int) (q : Int) (i : Int) = some true := by
  intro r
  induction r with
  | nil =>
    intro i q K hr hi hg hK
    obtain rfl := drop_nil hr hi
    obtain ⟨K, rfl⟩ : ∃ m, K = m + 1 := ⟨K - 1, by omega⟩
    rw [List.take_of_length_le (by rw [bs_length]; exact Nat.le_refl _)] at hg
    simp only [List.length_nil] at hK
    have hK' : 500 < K := by omega
    exact Onward_end k hk s hs c hc q hg K hK'
  | cons x r ih =>
    intro i q K hr hi hg hK
    obtain ⟨h1, h2, h3, h4⟩ := bt_drop hr
    have ht := tab_le k hk
    have ho : oct ((bs s).take i) := fun c hc => bs_oct s c (List.mem_of_mem_take hc)
    have hq := goes_lt hk _ 0 q ho ht.1 hg
    simp only [List.length_cons] at hK
    obtain ⟨K, rfl⟩ : ∃ m, K = m + 1 := ⟨K - 1, by omega⟩
    have n9 : r.length + 600 < K := by omega
    have h1' : i + 1 ≤ s.size := h1
    have n6 : 5 ≤ K := by omega
    have htk : (bs s).take (i + 1) = (bs s).take i ++ [x] := cur_snoc (f := 0) hr (Nat.zero_le _)
    have hgn : goes k 0 ((bs s).take (i + 1)) = next k q x := by
      rw [htk, goes_append, hg]
      show goes k q [x] = _
      rw [goes]
      cases next k q x <;> rfl
    have hs1 : ∃ q1, goes k 0 ((bs s).take (i + 1)) = some q1 := by
      have e : (bs s).take (i + 1) ++ (bs s).drop (i + 1) = bs s := List.take_append_drop _ _
      rw [← e] at hn
      exact goes_of_append hn
    obtain ⟨q1, hq1⟩ := hs1
    have hnx : next k q x = some q1 := hgn.symm.trans hq1
    have n1 : (i : Int) < (s.size : Int) := by omega
    have n2 : (0 : Int) ≤ (i : Int) := by omega
    have hw1 : wrap64 ((i : Int) + 1) = ((i + 1 : Nat) : Int) := w1 h1 (by omega)
    simp only [graftwoodlaw06_WordOnward.l0]
    rw [if_pos n1, if_pos n2, h2, Step_tot k q x K hk hq h4 n6, hnx, hw1]
    simp only [Option.bind_some, stepR, if_true]
    exact ih (i + 1) q1 K h3 h1' hq1 n9
theorem WordOnward : graftwoodlaw06_WordOnward.Pure := by
  intro a0 a1 a2 h0 h1 h2
  obtain ⟨s, hs, hsl⟩ := Few_tot a1
  obtain ⟨k, hk, hm⟩ := mod3 a0 h0
  obtain ⟨c, rfl, hc⟩ : ∃ c : Nat, a2 = (c : Int) ∧ c < 256 := by
    have hb : 0 ≤ a2 ∧ a2 ≤ 255 := by
      have h := h2
      simp [Lit.wf, IntKind.min, IntKind.max, IntKind.signed, IntKind.bits] at h
      omega
    exact ⟨a2.toNat, by omega, by omega⟩
  obtain ⟨K, hK⟩ : ∃ K, K = 1000 := ⟨_, rfl⟩
  have hl : (bs s).length + 600 < K := by rw [bs_length]; omega
  have m1 : Small s := by unfold Small; omega
  have m2 : s.size + 6 < K := by omega
  have m3 : 100 < K := by omega
  clear hK
  refine ⟨K, ?_⟩
  unfold graftwoodlaw06_WordOnward.f
  rw [hs, hm]
  simp only [Option.bind_some]
  rw [Live_tot k hk s m1 K m2]
  simp only [Option.bind_some]
  by_cases e : ((run k 0 (bs s)).1 : Int) = (s.size : Int)
  · rw [if_pos e]
    have : (run k 0 (bs s)).1 = (bs s).length := by rw [bs_length]; omega
    obtain ⟨q', hq'⟩ := run_all.1 this
    exact Onward_l0 k hk s hsl c hc q' hq' (bs s) 0 0 K rfl (Nat.zero_le _) rfl hl
  · rw [if_neg e, awake_tot K m3]; rfl
end Go.Proofs.Ytbkcjgjcnnggbaa.Pure
