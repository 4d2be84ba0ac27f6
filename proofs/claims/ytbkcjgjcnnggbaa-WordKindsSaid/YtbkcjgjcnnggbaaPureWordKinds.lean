/- WordKinds: the pure statement of the law: the printed law answers true, with rounds enough. No conditions but the row's own. -/
import Derived.Test.YtbkcjgjcnnggbaaTot2
import Derived.Test.YtbkcjgjcnnggbaaQ5
namespace Go.Proofs.Ytbkcjgjcnnggbaa.Pure
open Go.RowKit Go.Proofs.Ytbkcjgjcnnggbaa.Q Go.Proofs.YtbkcjgjcnnggbaaW.PrintWords Go.Proofs.YtbkcjgjcnnggbaaW.PrintLast Gw
set_option linter.unusedVariables false
theorem WordKinds : graftwoodlaw06_WordKinds.Pure := by
  intro a0 h1
  obtain ⟨t, ht, hl⟩ := Few_tot a0
  have hs : Small t := by unfold Small; omega
  have ho := bs_oct t
  refine ⟨1000, ?_⟩
  unfold graftwoodlaw06_WordKinds.f
  rw [ht]
  simp only [Option.bind_some]
  rw [show (0 : Int) = ((0 : Nat) : Int) from rfl, show (1 : Int) = ((1 : Nat) : Int) from rfl, show (2 : Int) = ((2 : Nat) : Int) from rfl]
  rw [Whole_tot 0 (by omega) t hs 1000 (by omega), Whole_tot 1 (by omega) t hs 1000 (by omega), Whole_tot 2 (by omega) t hs 1000 (by omega), awake_tot 1000 (by omega)]
  simp only [Option.bind_some, whole_acc]
  have hnb := not_both ho
  have hvp := version_path ho
  have hgp := go_path ho
  have he : t.toList = [] → ∀ k < 3, acc k 0 (bs t) = false := by
    intro e k hk
    have : bs t = [] := by
      have h3 : t.size = 0 := by
        have := congrArg List.length e
        rw [show t.toList.length = t.size from by rw [ByteArray.toList_eq]; rfl] at this
        simpa using this
      rw [← bs_length] at h3
      exact List.eq_nil_of_length_eq_zero h3
    rw [this]; exact acc_nil k hk
  cases hv : acc 1 0 (bs t) <;> cases hg : acc 2 0 (bs t)
  · simp only [Bool.false_eq_true, if_false]
    by_cases e : t.toList = []
    · rw [if_pos e, he e 0 (by omega)]; rfl
    · rw [if_neg e]
  · rw [hgp hg]
    simp only [Bool.false_eq_true, if_false, if_true]
    rw [if_neg (fun e => by have := he e 2 (by omega); rw [hg] at this; cases this)]
  · rw [hvp hv]
    simp only [Bool.false_eq_true, if_false, if_true]
    rw [if_neg (fun e => by have := he e 1 (by omega); rw [hv] at this; cases this)]
  · exact absurd ⟨hv, hg⟩ hnb

end Go.Proofs.Ytbkcjgjcnnggbaa.Pure
