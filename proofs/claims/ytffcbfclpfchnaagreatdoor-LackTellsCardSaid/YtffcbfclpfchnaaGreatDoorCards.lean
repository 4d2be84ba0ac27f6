/-
  DERIVED. GIVEN WITH THE SEED: THE CARDS: each row of YtffcbfclpfchnaaGreatDoorRows.lean that lists a variable, with what it lists TIED to the program's text (the seventh form; the later family's looks); each row that meets fmt, with fmt's text TOLD by the authors' own Lean function (tested against real Go, not proved from fmt's source: count such statements apart). THE CARD IS WHAT COUNTS. Prove the row's statement (the work); the ties are given (YtffcbfclpfchnaaGreatDoorTie.lean); close each card by the builder's one call (the guide's Derived/Test/ToyasCard.lean, 'card_holds'). Laid BY PROGRAM, IN A SANDBOX (cutbox-door.mjs). By AI agents, Wed Nov 11 2026. No macro, syntax, notation, axiom, sorry.
-/
import Derived.Test.YtffcbfclpfchnaaGreatDoorRows
import GoSem.ClaimSeven
namespace Go.Proofs.YtffcbfclpfchnaaGreatDoor
namespace Rows

/-- THE TIED CARD OF 'graftwoodlaw18.LackTells'. -/
def lackTellsCard : Claim7 := { stood := { row := lackTellsRow, standIns := [], harness := (true, "95f665821d08536322438f78d095a495caced59516321bb8ce35d7892da57b8c"), looks := false }, kinds := [], alts := [], laidByText := true, laidKinds := [.data, .pinned], laidTests := true, laidLooks := .later }
def LackTellsCardSaid : Prop := Claim7.holds Tryz.pinned (.plain (OpenSpec.ofChange lackTellsSpec)) lackTellsCard

/-- THE TIED CARD OF 'graftwoodlaw18.LackBy'. -/
def lackByCard : Claim7 := { stood := { row := lackByRow, standIns := [], harness := (true, "95f665821d08536322438f78d095a495caced59516321bb8ce35d7892da57b8c"), looks := false }, kinds := [], alts := [], laidByText := true, laidKinds := [.data, .pinned], laidTests := true, laidLooks := .later }
def LackByCardSaid : Prop := Claim7.holds Tryz.pinned (.plain (OpenSpec.ofChange lackBySpec)) lackByCard

/-- THE SECOND FORM's CARD OF 'graftwoodlaw18.LackTells'. -/
def lackTellsUptoCard : Claim7 := { stood := { row := lackTellsUptoRow, standIns := [], harness := (true, "95f665821d08536322438f78d095a495caced59516321bb8ce35d7892da57b8c"), looks := false }, kinds := [], alts := [], laidByText := true, laidKinds := [.data, .pinned], laidTests := true, laidLooks := .later }
def LackTellsUptoCardSaid : Prop := Claim7.holds Tryz.pinned (.plain (OpenSpec.upto lackTellsSpec)) lackTellsUptoCard

/-- THE SECOND FORM's CARD OF 'graftwoodlaw18.LackBy'. -/
def lackByUptoCard : Claim7 := { stood := { row := lackByUptoRow, standIns := [], harness := (true, "95f665821d08536322438f78d095a495caced59516321bb8ce35d7892da57b8c"), looks := false }, kinds := [], alts := [], laidByText := true, laidKinds := [.data, .pinned], laidTests := true, laidLooks := .later }
def LackByUptoCardSaid : Prop := Claim7.holds Tryz.pinned (.plain (OpenSpec.upto lackBySpec)) lackByUptoCard
end Rows
end Go.Proofs.YtffcbfclpfchnaaGreatDoor
