/-
  DERIVED. GIVEN WITH THE SEED: THE CARDS: each row of YtcfphieogalnbaaGreatDoorRows.lean that lists a variable, with what it lists TIED to the program's text (the seventh form; the later family's looks); each row that meets fmt, with fmt's text TOLD by the authors' own Lean function (tested against real Go, not proved from fmt's source: count such statements apart). THE CARD IS WHAT COUNTS. Prove the row's statement (the work); the ties are given (YtcfphieogalnbaaGreatDoorTie.lean); close each card by the builder's one call (the guide's Derived/Test/ToyasCard.lean, 'card_holds'). Laid BY PROGRAM, IN A SANDBOX (cutbox-door.mjs). By AI agents, Wed Nov 11 2026. No macro, syntax, notation, axiom, sorry.
-/
import Derived.Test.YtcfphieogalnbaaGreatDoorRows
import GoSem.ClaimSeven
namespace Go.Proofs.YtcfphieogalnbaaGreatDoor
namespace Rows

/-- THE TIED CARD OF 'graftwoodlaw13.DiffOrder'. -/
def diffOrderCard : Claim7 := { stood := { row := diffOrderRow, standIns := [], harness := (true, "56eb401db6f724e3fb539a4cd7ad6379172b95ed4a3cb6adf7662d62786a8d76"), looks := false }, kinds := [], alts := [], laidByText := true, laidKinds := [.data, .pinned], laidTests := true, laidLooks := .later }
def DiffOrderCardSaid : Prop := Claim7.holds Tryz.pinned (.plain (OpenSpec.ofChange diffOrderSpec)) diffOrderCard

/-- THE TIED CARD OF 'graftwoodlaw13.DiffTells'. -/
def diffTellsCard : Claim7 := { stood := { row := diffTellsRow, standIns := [], harness := (true, "56eb401db6f724e3fb539a4cd7ad6379172b95ed4a3cb6adf7662d62786a8d76"), looks := false }, kinds := [], alts := [], laidByText := true, laidKinds := [.data, .pinned], laidTests := true, laidLooks := .later }
def DiffTellsCardSaid : Prop := Claim7.holds Tryz.pinned (.plain (OpenSpec.ofChange diffTellsSpec)) diffTellsCard

/-- THE TIED CARD OF 'graftwoodlaw13.DiffEdits'. -/
def diffEditsCard : Claim7 := { stood := { row := diffEditsRow, standIns := [], harness := (true, "56eb401db6f724e3fb539a4cd7ad6379172b95ed4a3cb6adf7662d62786a8d76"), looks := false }, kinds := [], alts := [], laidByText := true, laidKinds := [.data, .pinned], laidTests := true, laidLooks := .later }
def DiffEditsCardSaid : Prop := Claim7.holds Tryz.pinned (.plain (OpenSpec.ofChange diffEditsSpec)) diffEditsCard

/-- THE TIED CARD OF 'graftwoodlaw13.DiffGoes'. -/
def diffGoesCard : Claim7 := { stood := { row := diffGoesRow, standIns := [], harness := (true, "56eb401db6f724e3fb539a4cd7ad6379172b95ed4a3cb6adf7662d62786a8d76"), looks := false }, kinds := [], alts := [], laidByText := true, laidKinds := [.data, .pinned], laidTests := true, laidLooks := .later }
def DiffGoesCardSaid : Prop := Claim7.holds Tryz.pinned (.plain (OpenSpec.ofChange diffGoesSpec)) diffGoesCard

/-- THE SECOND FORM's CARD OF 'graftwoodlaw13.DiffOrder'. -/
def diffOrderUptoCard : Claim7 := { stood := { row := diffOrderUptoRow, standIns := [], harness := (true, "56eb401db6f724e3fb539a4cd7ad6379172b95ed4a3cb6adf7662d62786a8d76"), looks := false }, kinds := [], alts := [], laidByText := true, laidKinds := [.data, .pinned], laidTests := true, laidLooks := .later }
def DiffOrderUptoCardSaid : Prop := Claim7.holds Tryz.pinned (.plain (OpenSpec.upto diffOrderSpec)) diffOrderUptoCard

/-- THE SECOND FORM's CARD OF 'graftwoodlaw13.DiffTells'. -/
def diffTellsUptoCard : Claim7 := { stood := { row := diffTellsUptoRow, standIns := [], harness := (true, "56eb401db6f724e3fb539a4cd7ad6379172b95ed4a3cb6adf7662d62786a8d76"), looks := false }, kinds := [], alts := [], laidByText := true, laidKinds := [.data, .pinned], laidTests := true, laidLooks := .later }
def DiffTellsUptoCardSaid : Prop := Claim7.holds Tryz.pinned (.plain (OpenSpec.upto diffTellsSpec)) diffTellsUptoCard

/-- THE SECOND FORM's CARD OF 'graftwoodlaw13.DiffEdits'. -/
def diffEditsUptoCard : Claim7 := { stood := { row := diffEditsUptoRow, standIns := [], harness := (true, "56eb401db6f724e3fb539a4cd7ad6379172b95ed4a3cb6adf7662d62786a8d76"), looks := false }, kinds := [], alts := [], laidByText := true, laidKinds := [.data, .pinned], laidTests := true, laidLooks := .later }
def DiffEditsUptoCardSaid : Prop := Claim7.holds Tryz.pinned (.plain (OpenSpec.upto diffEditsSpec)) diffEditsUptoCard

/-- THE SECOND FORM's CARD OF 'graftwoodlaw13.DiffGoes'. -/
def diffGoesUptoCard : Claim7 := { stood := { row := diffGoesUptoRow, standIns := [], harness := (true, "56eb401db6f724e3fb539a4cd7ad6379172b95ed4a3cb6adf7662d62786a8d76"), looks := false }, kinds := [], alts := [], laidByText := true, laidKinds := [.data, .pinned], laidTests := true, laidLooks := .later }
def DiffGoesUptoCardSaid : Prop := Claim7.holds Tryz.pinned (.plain (OpenSpec.upto diffGoesSpec)) diffGoesUptoCard
end Rows
end Go.Proofs.YtcfphieogalnbaaGreatDoor
