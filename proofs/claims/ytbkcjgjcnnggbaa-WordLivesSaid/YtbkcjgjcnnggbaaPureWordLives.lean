/- WordLives: the pure statement of the law: the printed law answers true, with rounds enough. No conditions but the row's own. -/
import Derived.Test.YtbkcjgjcnnggbaaTot2
import Derived.Test.YtbkcjgjcnnggbaaQ5
namespace Go.Proofs.Ytbkcjgjcnnggbaa.Pure
open Go.RowKit Go.Proofs.Ytbkcjgjcnnggbaa.Q Go.Proofs.YtbkcjgjcnnggbaaW.PrintWords Go.Proofs.YtbkcjgjcnnggbaaW.PrintLast Gw
set_option linter.unusedVariables false
theorem Lives_l0 (k : Nat) (hk : k < 3) (s t : ByteArray) (hs : s.size ≤ 60) (ht : t.size ≤ 60) (n : Nat) (hn : n = (run k 0 (bs s)).1) : ∀ (d i K : Nat), n + 1 - i = d → i ≤ n + 1 → d + 500 < K → graftwoodlaw06_WordLives.l0 K s t (k : Int) (n : Int) (i : Int) = some true
  | 0, i, K, hd, hi, hK => by
    have hr := run_le k (bs s) 0
    rw [bs_length] at hr
    obtain ⟨K, rfl⟩ : ∃ m, K = m + 1 := ⟨K - 1, by omega⟩
    have hsz : (s ++ t).size = s.size + t.size := by simp
    simp only [graftwoodlaw06_WordLives.l0]
    rw [if_neg (by omega)]
    by_cases he : n = s.size
    · rw [if_pos (by omega), awake_tot K (by omega)]; rfl
    · have hlt : (run k 0 (bs s)).1 < (bs s).length := by rw [bs_length]; omega
      have w1 : whole k (bs s) = false := by unfold whole; rw [beq_eq_false_iff_ne.2 (by omega)]; rfl
      have w2 : whole k (bs s ++ bs t) = false := by
        unfold whole
        rw [take_append_run hlt, beq_eq_false_iff_ne.2 (by rw [List.length_append]; omega)]; rfl
      rw [if_neg (by omega), Whole_tot k hk s (by unfold Small; omega) K (by omega), w1]
      simp only [Option.bind_some, Bool.false_eq_true, if_false]
      rw [if_pos (by omega), Whole_tot k hk _ (by unfold Small; omega) K (by omega), bs_append, w2]
      simp only [Option.bind_some, Bool.false_eq_true, if_false]
      rw [awake_tot K (by omega)]; rfl
  | d + 1, i, K, hd, hi, hK => by
    have hr := run_le k (bs s) 0
    rw [bs_length] at hr
    obtain ⟨K, rfl⟩ : ∃ m, K = m + 1 := ⟨K - 1, by omega⟩
    have hsz : (s.extract 0 i).size = i := by simp only [ByteArray.size_extract]; omega
    have hb : bs (s.extract 0 i) = (bs s).take i := by rw [bs_extract]; rfl
    simp only [graftwoodlaw06_WordLives.l0]
    rw [if_pos (by omega), if_pos (by omega), if_pos (by omega), Int.toNat_natCast, Live_tot k hk _ (by unfold Small; omega) K (by omega), hb, run_prefix (by omega)]
    simp only [Option.bind_some, if_true]
    rw [show wrap64 ((i : Int) + 1) = ((i + 1 : Nat) : Int) from by unfold wrap64; omega]
    exact Lives_l0 k hk s t hs ht n hn d (i + 1) K (by omega) (by omega) (by omega)
theorem WordLives : graftwoodlaw06_WordLives.Pure := by
  intro a0 a1 a2 h0 h1 h2
  obtain ⟨s, hs, hsl⟩ := Few_tot a1
  obtain ⟨t, ht, htl⟩ := Few_tot a2
  obtain ⟨k, hk, hm⟩ := mod3 a0 h0
  have hsz : (s ++ t).size = s.size + t.size := by simp
  have hs1 : Small s := by unfold Small; omega
  have hs2 : Small (s ++ t) := by unfold Small; omega
  have hr := run_le k (bs s) 0
  rw [bs_length] at hr
  have hg : (run k 0 (bs s)).1 ≤ (run k 0 (bs s ++ bs t)).1 := run_append_ge (bs t)
  have fin : graftwoodlaw06_WordLives.j0 1001 s t (k : Int) ((run k 0 (bs s)).1 : Int) false = some true := by
    simp only [graftwoodlaw06_WordLives.j0, Bool.false_eq_true, if_false]
    exact Lives_l0 k hk s t hsl htl _ rfl _ 0 1000 rfl (by omega) (by omega)
  refine ⟨1001, ?_⟩
  unfold graftwoodlaw06_WordLives.f
  rw [hs, ht, hm]
  simp only [Option.bind_some]
  rw [Live_tot k hk s hs1 1001 (by omega)]
  simp only [Option.bind_some]
  rw [if_pos (by omega), Live_tot k hk _ hs2 1001 (by omega), bs_append]
  simp only [Option.bind_some]
  rw [if_neg (by omega), if_neg (by omega), if_neg (by omega), Whole_tot k hk s hs1 1001 (by omega)]
  simp only [Option.bind_some]
  by_cases hlt : (run k 0 (bs s)).1 < s.size
  · have w1 : whole k (bs s) = false := by unfold whole; rw [beq_eq_false_iff_ne.2 (by rw [bs_length]; omega)]; rfl
    rw [if_pos (by omega), take_append_run (by rw [bs_length]; exact hlt), if_pos rfl, w1]
    simp only [Bool.false_eq_true, if_false]
    exact fin
  · rw [if_neg (by omega)]
    have e : (((run k 0 (bs s)).1 : Int) != (s.size : Int)) = false := by rw [bne_eq_false_iff_eq]; omega
    rw [e, ite_self]
    exact fin

end Go.Proofs.Ytbkcjgjcnnggbaa.Pure
