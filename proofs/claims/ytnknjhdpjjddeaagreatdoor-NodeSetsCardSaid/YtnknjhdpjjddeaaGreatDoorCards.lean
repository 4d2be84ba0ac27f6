/-
  DERIVED. GIVEN WITH THE SEED: THE CARDS: each row of YtnknjhdpjjddeaaGreatDoorRows.lean that lists a variable, with what it lists TIED to the program's text (the seventh form; the later family's looks); each row that meets fmt, with fmt's text TOLD by the authors' own Lean function (tested against real Go, not proved from fmt's source: count such statements apart). THE CARD IS WHAT COUNTS. Prove the row's statement (the work); the ties are given (YtnknjhdpjjddeaaGreatDoorTie.lean); close each card by the builder's one call (the guide's Derived/Test/ToyasCard.lean, 'card_holds'). Laid BY PROGRAM, IN A SANDBOX (cutbox-door.mjs). By AI agents, Wed Nov 11 2026. No macro, syntax, notation, axiom, sorry.
-/
import Derived.Test.YtnknjhdpjjddeaaGreatDoorRows
import GoSem.ClaimSeven
namespace Go.Proofs.YtnknjhdpjjddeaaGreatDoor
namespace Rows

/-- THE TIED CARD OF 'graftwoodlaw05.NodeMinus'. -/
def nodeMinusCard : Claim7 := { stood := { row := nodeMinusRow, standIns := [], harness := (true, "16e936de8c44c4aaf1f2191d1d7ed3371ed8d1162c6bf3e2af5aebac94397939"), looks := false }, kinds := [], alts := [], laidByText := true, laidKinds := [.data, .pinned], laidTests := true, laidLooks := .later }
def NodeMinusCardSaid : Prop := Claim7.holds Tryz.pinned (.plain (OpenSpec.ofChange nodeMinusSpec)) nodeMinusCard

/-- THE TIED CARD OF 'graftwoodlaw05.NodeSets'. -/
def nodeSetsCard : Claim7 := { stood := { row := nodeSetsRow, standIns := [], harness := (true, "16e936de8c44c4aaf1f2191d1d7ed3371ed8d1162c6bf3e2af5aebac94397939"), looks := false }, kinds := [], alts := [], laidByText := true, laidKinds := [.data, .pinned], laidTests := true, laidLooks := .later }
def NodeSetsCardSaid : Prop := Claim7.holds Tryz.pinned (.plain (OpenSpec.ofChange nodeSetsSpec)) nodeSetsCard

/-- THE SECOND FORM's CARD OF 'graftwoodlaw05.NodeMinus'. -/
def nodeMinusUptoCard : Claim7 := { stood := { row := nodeMinusUptoRow, standIns := [], harness := (true, "16e936de8c44c4aaf1f2191d1d7ed3371ed8d1162c6bf3e2af5aebac94397939"), looks := false }, kinds := [], alts := [], laidByText := true, laidKinds := [.data, .pinned], laidTests := true, laidLooks := .later }
def NodeMinusUptoCardSaid : Prop := Claim7.holds Tryz.pinned (.plain (OpenSpec.upto nodeMinusSpec)) nodeMinusUptoCard

/-- THE SECOND FORM's CARD OF 'graftwoodlaw05.NodeSets'. -/
def nodeSetsUptoCard : Claim7 := { stood := { row := nodeSetsUptoRow, standIns := [], harness := (true, "16e936de8c44c4aaf1f2191d1d7ed3371ed8d1162c6bf3e2af5aebac94397939"), looks := false }, kinds := [], alts := [], laidByText := true, laidKinds := [.data, .pinned], laidTests := true, laidLooks := .later }
def NodeSetsUptoCardSaid : Prop := Claim7.holds Tryz.pinned (.plain (OpenSpec.upto nodeSetsSpec)) nodeSetsUptoCard
end Rows
end Go.Proofs.YtnknjhdpjjddeaaGreatDoor
