/- Part 11 of this claim: several texts one behind the other: Split, Fgraftwoodref03May, Fgraftwoodref05May, SplitP, RVal, RCmp, Fgraftwoodref05Less. What each shows stands in its theorems; conditions: sizes of texts and lists, as the functions' definitions say. -/
import Derived.Test.YtohdmmafjpjmfaaGreatDoorMRoomFits2
import Derived.Test.YtohdmmafjpjmfaaGreatDoorMRoomFits4
import Derived.Test.YtohdmmafjpjmfaaGreatDoorMRoomFits5
import Derived.RegionTactic
import Derived.BigRegion
import Derived.ChangeAlike
import Derived.Test.YtohdmmafjpjmfaaGreatDoorMRoomFits3
import Derived.Test.YtohdmmafjpjmfaaGreatDoorMRoomFits7
import Derived.Deep.QuietTactic
import Derived.BigQuiet
import Derived.Deep.RegionHeld3
section
namespace Go.Proofs.YtohdmmafjpjmfaaGreatDoor.Q
open Go.RowKit Go.Proofs.YtohdmmafjpjmfaaGreatDoorW.PrintWords Go.Proofs.YtohdmmafjpjmfaaGreatDoorW.PrintLast Go.Proofs.YtohdmmafjpjmfaaGreatDoorW.PrintMore
attribute [local go_sem] max2_int min2_int max_two min_two max_three min_three max_four min_four   -- for this text's walks alone
set_option linter.unusedVariables false
set_option linter.unusedSimpArgs false
end Go.Proofs.YtohdmmafjpjmfaaGreatDoor.Q
end
section
namespace Go.Proofs.YtohdmmafjpjmfaaGreatDoor.Q
open Go.Proofs.YtohdmmafjpjmfaaGreatDoor.QB.D
open Go Go.RowKit Go.Lib Go.Proofs.YtohdmmafjpjmfaaGreatDoorW.PrintWords Go.Proofs.YtohdmmafjpjmfaaGreatDoorW.PrintLast Go.Proofs.YtohdmmafjpjmfaaGreatDoorW.PrintMore Gw Go.Proofs.YtohdmmafjpjmfaaGreatDoor.QB.D
set_option linter.unusedVariables false
set_option linter.unusedSimpArgs false
def FSr (A : Option Addr) (xs : List ByteArray) (w : World) : Prop := ∀ i (hi : i < xs.length), ∃ g, A = some ⟨g, 0, none⟩ ∧ g < w.heap.size ∧ w.cell? ⟨g, i, none⟩ = some (.string (xs[i]))
theorem FSr.below {A : Option Addr} {xs : List ByteArray} {w w' : World} {b : Nat} (h : FSr A xs w) (hb : Below b w w') (hw : w.heap.size ≤ b) : FSr A xs w' := fun i hi => by
  obtain ⟨g, rfl, h1, h2⟩ := h i hi
  exact ⟨g, rfl, Nat.lt_of_lt_of_le h1 hb.size, (hb.cell (p := ⟨g, i, none⟩) (by simp; omega)).trans h2⟩
def graftwoodref03_Cmp.f (a0 a1 : ByteArray) : Option Int := if (Tiny a0 ∧ Tiny a1) ∧ isVersion (bs a0) = true ∧ isVersion (bs a1) = true then some (verC (vOf (bs a0)) (vOf (bs a1))) else none
end Go.Proofs.YtohdmmafjpjmfaaGreatDoor.Q
end
section
namespace Go.Proofs.YtohdmmafjpjmfaaGreatDoor.Q
open Go.RowKit Go.Proofs.YtohdmmafjpjmfaaGreatDoorW.PrintWords Go.Proofs.YtohdmmafjpjmfaaGreatDoorW.PrintLast Go.Proofs.YtohdmmafjpjmfaaGreatDoorW.PrintMore
attribute [local go_sem] max2_int min2_int max_two min_two max_three min_three max_four min_four   -- for this text's walks alone
set_option linter.unusedVariables false
set_option linter.unusedSimpArgs false
def graftwoodref05_Less.f (k : Nat) (a0_0 : ByteArray) (a0_1 : ByteArray) (a1_0 : ByteArray) (a1_1 : ByteArray) : Option (Bool) := (graftwoodref01_Cmp.f k a0_0 a1_0).bind fun t233 => (if t233 < 0 then (some true) else (if t233 = 0 then ((graftwoodref03_Cmp.f a0_1 a1_1).bind fun t234 => (some (decide (t234 < 0)))) else (some false)))
end Go.Proofs.YtohdmmafjpjmfaaGreatDoor.Q
end
