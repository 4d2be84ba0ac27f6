/- Part 13 of this claim: several texts one behind the other: Fgraftwoodref13Both, Fgraftwoodref13Diff, RLess5, RMay5, R13May, RWith5, RSet5. What each shows stands in its theorems; conditions: sizes of texts and lists, as the functions' definitions say. -/
import Derived.Test.YtohdmmafjpjmfaaGreatDoorMRoomBack2
import Derived.Test.YtohdmmafjpjmfaaGreatDoorMRoomBack12
import Derived.Test.YtohdmmafjpjmfaaGreatDoorMRoomBack5
import Derived.Test.YtohdmmafjpjmfaaGreatDoorMRoomBack3
import Derived.Test.YtohdmmafjpjmfaaGreatDoorMRoomBack4
import Derived.Test.YtohdmmafjpjmfaaGreatDoorMRoomBack9
import Derived.Test.YtohdmmafjpjmfaaGreatDoorMRoomBack11
import Derived.Test.YtohdmmafjpjmfaaGreatDoorMRoomBack6
section
namespace Go.Proofs.YtohdmmafjpjmfaaGreatDoor.Q
open Go.RowKit Go.Proofs.YtohdmmafjpjmfaaGreatDoorW.PrintWords Go.Proofs.YtohdmmafjpjmfaaGreatDoorW.PrintLast Go.Proofs.YtohdmmafjpjmfaaGreatDoorW.PrintMore
attribute [local go_sem] max2_int min2_int max_two min_two max_three min_three max_four min_four   -- for this text's walks alone
set_option linter.unusedVariables false
set_option linter.unusedSimpArgs false
attribute [local go_sem high] eqA34
mutual
def graftwoodref13_Both.l0 : Nat → List (S48) → List (S48) → List (S34) → Int → Option ((List (S48)))
 | 0, _, _, _, _ => none
 | k + 1, x0, x1, x5, x6 => if x6 < (x0.length : Int) then (if 0 ≤ x6 then (if x5.length < 4398046511104 then (graftwoodref13_Both.l0 k x0 x1 (x5 ++ [(⟨(rd_T48 x0 x6).f0.f0, (rd_T48 x0 x6).f0.f1⟩ : S34)]) (wrap64 (x6 + 1))) else (none)) else (none)) else (graftwoodref13_Both.l1 k x0 x1 x5 0)
def graftwoodref13_Both.l1 : Nat → List (S48) → List (S48) → List (S34) → Int → Option ((List (S48)))
 | 0, _, _, _, _ => none
 | k + 1, x0, x1, x5, x7 => if x7 < (x1.length : Int) then (if 0 ≤ x7 then (if x5.length < 4398046511104 then (graftwoodref13_Both.l1 k x0 x1 (x5 ++ [(⟨(rd_T48 x1 x7).f0.f0, (rd_T48 x1 x7).f0.f1⟩ : S34)]) (wrap64 (x7 + 1))) else (none)) else (none)) else ((graftwoodref05_Set.f k x5).bind fun t266 => (graftwoodref13_Both.l2 k x0 x1 t266 ([] : List (S48)) 0))
def graftwoodref13_Both.l2 : Nat → List (S48) → List (S48) → List (S34) → List (S48) → Int → Option ((List (S48)))
 | 0, _, _, _, _, _ => none
 | k + 1, x0, x1, x5, x8, x9 => if x9 < (x5.length : Int) then (if 0 ≤ x9 then ((graftwoodref13_By.f k x0 ((rd_T34 x5 x9).f0) ((rd_T34 x5 x9).f1)).bind fun t270 => ((graftwoodref13_By.f k x1 ((rd_T34 x5 x9).f0) ((rd_T34 x5 x9).f1)).bind fun t272 => (if (wrap64 (t270 + t272)) = 0 then (graftwoodref13_Both.l2 k x0 x1 x5 x8 (wrap64 (x9 + 1))) else (if x8.length < 3518437208883 then (graftwoodref13_Both.l2 k x0 x1 x5 (x8 ++ [(⟨(⟨(rd_T34 x5 x9).f0, (rd_T34 x5 x9).f1⟩ : S34), wrap64 (t270 + t272)⟩ : S48)]) (wrap64 (x9 + 1))) else (none))))) else (none)) else (some x8)
end
end Go.Proofs.YtohdmmafjpjmfaaGreatDoor.Q
end
section
namespace Go.Proofs.YtohdmmafjpjmfaaGreatDoor.Q
open Go.Proofs.YtohdmmafjpjmfaaGreatDoor.QB.D
open Go Go.RowKit Go.Lib Go.Proofs.YtohdmmafjpjmfaaGreatDoorW.PrintWords Go.Proofs.YtohdmmafjpjmfaaGreatDoorW.PrintLast Go.Proofs.YtohdmmafjpjmfaaGreatDoorW.PrintMore Gw
set_option linter.unusedVariables false
set_option linter.unusedSimpArgs false
def okAt (l : List S48) (i : Nat) (h : i < l.length) : Prop := edE l[i] = true ∧ (∀ m, i = m + 1 → (hm : m < l.length) → ordN l[m].f0 l[i].f0 < 0)
theorem chkE_iff : ∀ (l : List S48) (p : Option S48), chkE p l = true ↔ (∀ i (h : i < l.length), okAt l i h) ∧ (∀ q, p = some q → ∀ h : 0 < l.length, ordN q.f0 l[0].f0 < 0)
  | [], p => by
    constructor
    · intro _; exact ⟨fun i h => by simp at h, fun q _ h => by simp at h⟩
    · intro _; cases p <;> rfl
  | x :: r, p => by
    have ih := chkE_iff r (some x)
    have key : ((∀ i (h : i < r.length), okAt r i h) ∧ (∀ q, some x = some q → ∀ h : 0 < r.length, ordN q.f0 r[0].f0 < 0) ∧ edE x = true) ↔ (∀ i (h : i < (x :: r).length), okAt (x :: r) i h) := by
      constructor
      · rintro ⟨h1, h2, h3⟩ i h
        cases i with
        | zero => exact ⟨h3, fun m e _ => by omega⟩
        | succ i =>
          have hi : i < r.length := by simpa using h
          refine ⟨(h1 i hi).1, fun m e hm => ?_⟩
          obtain rfl : m = i := by omega
          cases m with
          | zero => exact h2 x rfl hi
          | succ m => exact (h1 (m + 1) hi).2 m rfl (by omega)
      · intro h
        refine ⟨fun i hi => ⟨(h (i + 1) (by simpa using hi)).1, fun m e hm => ?_⟩, fun q e hr => ?_, (h 0 (by simp)).1⟩
        · have := (h (i + 1) (by simpa using hi)).2 (m + 1) (by omega) (by simpa using hm)
          simpa using this
        · injection e with e
          subst e
          have := (h 1 (by simpa using hr)).2 0 rfl (by simp)
          simpa using this
    rw [← key]
    cases p with
    | none =>
      simp only [chkE, Bool.and_eq_true, ih]
      constructor
      · rintro ⟨h1, h2, h3⟩; exact ⟨⟨h2, h3, h1⟩, fun q e => by cases e⟩
      · rintro ⟨⟨h1, h2, h3⟩, _⟩; exact ⟨h3, h1, h2⟩
    | some q =>
      simp only [chkE, Bool.and_eq_true, ih, decide_eq_true_eq]
      constructor
      · rintro ⟨h1, h0, h2, h3⟩; exact ⟨⟨h2, h3, h1⟩, fun q' e _ => by injection e with e; rw [← e]; exact h0⟩
      · rintro ⟨⟨h1, h2, h3⟩, h4⟩; exact ⟨h3, h4 q rfl (by simp), h1, h2⟩
theorem checkE_iff (l : List S48) : checkE l = true ↔ ∀ i (h : i < l.length), okAt l i h := by
  unfold checkE
  rw [chkE_iff]
  exact ⟨fun h => h.1, fun h => ⟨h, fun q e => by cases e⟩⟩
end Go.Proofs.YtohdmmafjpjmfaaGreatDoor.Q
end
