/- WordNone: the pure statement of the law: the printed law answers true, with rounds enough. No conditions but the row's own. -/
import Derived.Test.YtbkcjgjcnnggbaaTot2
import Derived.Test.YtbkcjgjcnnggbaaQ6
namespace Go.Proofs.Ytbkcjgjcnnggbaa.Pure
open Go.RowKit Go.Proofs.Ytbkcjgjcnnggbaa.Q Go.Proofs.YtbkcjgjcnnggbaaW.PrintWords Go.Proofs.YtbkcjgjcnnggbaaW.PrintLast Gw
set_option linter.unusedVariables false
theorem WordNone : graftwoodlaw06_WordNone.Pure := by
  intro a0 a1 a2 h0 h1 h2
  have aw : ∀ x, graftwoodlaw06_WordNone.j0 1001 a0 a1 x true = some true := by
    intro x
    simp only [graftwoodlaw06_WordNone.j0, if_true, awake_tot 1000 (by omega), Option.bind_some]
  have no : (a0 < 0 ∨ 2 < a0 ∨ a1 < 0 ∨ 100 ≤ a1) → graftwoodlaw06_WordNone.j0 1001 a0 a1 a2 false = some true := by
    intro hh
    have hf : findT a0 a1 = z38 := by
      unfold findT
      by_cases hn : a1 < 0
      · rw [if_pos hn]
      · rw [if_neg hn]
        by_cases hk : 0 ≤ a0 ∧ a0 ≤ 2
        · obtain ⟨k, rfl⟩ := Int.eq_ofNat_of_zero_le hk.1
          have ht := tab_le k (by omega)
          have hl : (statesT (k : Nat)).length = (tab k).length := by rw [statesT_tab k (by omega), List.length_map]
          rw [List.getD_eq_getElem?_getD, List.getElem?_eq_none (by omega)]; rfl
        · have : statesT a0 = [] := by unfold statesT; rw [if_neg (by omega), if_neg (by omega), if_neg (by omega)]
          rw [this]; rfl
    simp only [graftwoodlaw06_WordNone.j0, Bool.false_eq_true, if_false, word_Step.f, word_find.f, word_Ends.f, word_Rest.f, hf, Option.bind_some, word_step.f, z38, awake_tot 1000 (by omega)]
    simp [word_step.l0]
  refine ⟨1001, ?_⟩
  unfold graftwoodlaw06_WordNone.f
  by_cases c0 : a0 ≥ 0
  · rw [if_pos c0]
    by_cases c1 : a0 ≤ 2
    · rw [if_pos c1]
      by_cases c2 : a1 ≥ 0
      · rw [if_pos c2]
        by_cases c3 : a1 < 100
        · rw [decide_eq_true c3]; exact aw a2
        · rw [decide_eq_false c3]; exact no (by omega)
      · rw [if_neg c2]; exact no (by omega)
    · rw [if_neg c1]; exact no (by omega)
  · rw [if_neg c0]; exact no (by omega)

end Go.Proofs.Ytbkcjgjcnnggbaa.Pure
