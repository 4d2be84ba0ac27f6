/-
  DERIVED. GIVEN WITH THE SEED: THE CARDS: each row of YtodkjmbmlobihaaGreatDoorRows.lean that lists a variable, with what it lists TIED to the program's text (the seventh form; the later family's looks); each row that meets fmt, with fmt's text TOLD by the authors' own Lean function (tested against real Go, not proved from fmt's source: count such statements apart). THE CARD IS WHAT COUNTS. Prove the row's statement (the work); the ties are given (YtodkjmbmlobihaaGreatDoorTie.lean); close each card by the builder's one call (the guide's Derived/Test/ToyasCard.lean, 'card_holds'). Laid BY PROGRAM, IN A SANDBOX (cutbox-door.mjs). By AI agents, Wed Nov 11 2026. No macro, syntax, notation, axiom, sorry.
-/
import Derived.Test.YtodkjmbmlobihaaGreatDoorRows
import GoSem.ClaimSeven
namespace Go.Proofs.YtodkjmbmlobihaaGreatDoor
namespace Rows

/-- THE TIED CARD OF 'graftwoodlaw19.WhyTells'. -/
def whyTellsCard : Claim7 := { stood := { row := whyTellsRow, standIns := [], harness := (true, "23b637404a3a127eb1e4b74cd949ae04ab3d05e6bb8aeb1ba76334a4297c4307"), looks := false }, kinds := [], alts := [], laidByText := true, laidKinds := [.data, .pinned], laidTests := true, laidLooks := .later }
def WhyTellsCardSaid : Prop := Claim7.holds Tryz.pinned (.plain (OpenSpec.ofChange whyTellsSpec)) whyTellsCard

/-- THE TIED CARD OF 'graftwoodlaw19.WhyDepths'. -/
def whyDepthsCard : Claim7 := { stood := { row := whyDepthsRow, standIns := [], harness := (true, "23b637404a3a127eb1e4b74cd949ae04ab3d05e6bb8aeb1ba76334a4297c4307"), looks := false }, kinds := [], alts := [], laidByText := true, laidKinds := [.data, .pinned], laidTests := true, laidLooks := .later }
def WhyDepthsCardSaid : Prop := Claim7.holds Tryz.pinned (.plain (OpenSpec.ofChange whyDepthsSpec)) whyDepthsCard

/-- THE SECOND FORM's CARD OF 'graftwoodlaw19.WhyTells'. -/
def whyTellsUptoCard : Claim7 := { stood := { row := whyTellsUptoRow, standIns := [], harness := (true, "23b637404a3a127eb1e4b74cd949ae04ab3d05e6bb8aeb1ba76334a4297c4307"), looks := false }, kinds := [], alts := [], laidByText := true, laidKinds := [.data, .pinned], laidTests := true, laidLooks := .later }
def WhyTellsUptoCardSaid : Prop := Claim7.holds Tryz.pinned (.plain (OpenSpec.upto whyTellsSpec)) whyTellsUptoCard

/-- THE SECOND FORM's CARD OF 'graftwoodlaw19.WhyDepths'. -/
def whyDepthsUptoCard : Claim7 := { stood := { row := whyDepthsUptoRow, standIns := [], harness := (true, "23b637404a3a127eb1e4b74cd949ae04ab3d05e6bb8aeb1ba76334a4297c4307"), looks := false }, kinds := [], alts := [], laidByText := true, laidKinds := [.data, .pinned], laidTests := true, laidLooks := .later }
def WhyDepthsUptoCardSaid : Prop := Claim7.holds Tryz.pinned (.plain (OpenSpec.upto whyDepthsSpec)) whyDepthsUptoCard
end Rows
end Go.Proofs.YtodkjmbmlobihaaGreatDoor
