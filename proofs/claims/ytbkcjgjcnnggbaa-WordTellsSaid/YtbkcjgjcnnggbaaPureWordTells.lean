/- WordTells: the pure statement of the law: the printed law answers true, with rounds enough. No conditions but the row's own. -/
import Derived.Test.YtbkcjgjcnnggbaaTot2
import Derived.Test.YtbkcjgjcnnggbaaQ4
namespace Go.Proofs.Ytbkcjgjcnnggbaa.Pure
open Go.RowKit Go.Proofs.Ytbkcjgjcnnggbaa.Q Go.Proofs.YtbkcjgjcnnggbaaW.PrintWords Go.Proofs.YtbkcjgjcnnggbaaW.PrintLast Gw
set_option linter.unusedVariables false
theorem WordTells : graftwoodlaw06_WordTells.Pure := by
  intro a0 a1 h0 h1
  obtain ⟨t, ht, hl⟩ := Few_tot a1
  have hs : Small t := by unfold Small; omega
  refine ⟨1001, ?_⟩
  unfold graftwoodlaw06_WordTells.f
  rw [ht]
  simp only [Option.bind_some]
  have bad : ∀ k : Int, k < 0 ∨ 2 < k → graftwoodlaw06_WordTells.j0 1001 k t true = some true := by
    intro k hk
    simp only [graftwoodlaw06_WordTells.j0, word_Live.f, word_Whole.f, read_none k hk, Option.bind_some, awake_tot 1000 (by omega), if_true]
    rw [if_neg (by omega)]
    rfl
  by_cases hn : a0 < 0
  · rw [if_pos hn]; exact bad a0 (.inl hn)
  · rw [if_neg hn]
    by_cases h2 : a0 > 2
    · rw [decide_eq_true h2]; exact bad a0 (.inr h2)
    · rw [decide_eq_false h2]
      obtain ⟨k, rfl⟩ := Int.eq_ofNat_of_zero_le (by omega : 0 ≤ a0)
      have hk : k < 3 := by omega
      simp only [graftwoodlaw06_WordTells.j0, Bool.false_eq_true, if_false]
      rw [Live_tot k hk t hs 1000 (by omega), Live6_tot k hk t (by omega) 1000 (by omega), Whole_tot k hk t hs 1000 (by omega), Whole6_tot k hk t hs 1000 (by omega), whole_kind hk (bs_oct t), awake_tot 1000 (by omega)]
      simp

end Go.Proofs.Ytbkcjgjcnnggbaa.Pure
