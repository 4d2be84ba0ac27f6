/-
  DERIVED. GIVEN WITH THE SEED: THE CARDS: each row of YtffcbfclpfchnaaDoorRows.lean that lists a variable, with what it lists TIED to the program's text (the seventh form; the later family's looks); each row that meets fmt, with fmt's text TOLD by the authors' own Lean function (tested against real Go, not proved from fmt's source: count such statements apart). THE CARD IS WHAT COUNTS. Prove the row's statement (the work); the ties are given (YtffcbfclpfchnaaDoorTie.lean); close each card by the builder's one call (the guide's Derived/Test/ToyasCard.lean, 'card_holds'). Laid BY PROGRAM, IN A SANDBOX (cutbox-door.mjs). By AI agents, Wed Nov 11 2026. No macro, syntax, notation, axiom, sorry.
-/
import Derived.Test.YtffcbfclpfchnaaDoorRows
import GoSem.ClaimSeven
namespace Go.Proofs.YtffcbfclpfchnaaDoor
namespace Rows

/-- THE TIED CARD OF 'graftwoodlaw18.LackOrder'. -/
def lackOrderCard : Claim7 := { stood := { row := lackOrderRow, standIns := [], harness := (true, "5ef1ade54283c0eb95c6ac4e0f6d4a4edd58232b47b52343f6ea4adc1b0a1c15"), looks := false }, kinds := [], alts := [], laidByText := true, laidKinds := [.data, .pinned], laidTests := true, laidLooks := .later }
def LackOrderCardSaid : Prop := Claim7.holds Tryd.pinned (.plain (OpenSpec.ofChange lackOrderSpec)) lackOrderCard

/-- THE TIED CARD OF 'graftwoodlaw18.LackRoots'. -/
def lackRootsCard : Claim7 := { stood := { row := lackRootsRow, standIns := [], harness := (true, "5ef1ade54283c0eb95c6ac4e0f6d4a4edd58232b47b52343f6ea4adc1b0a1c15"), looks := false }, kinds := [], alts := [], laidByText := true, laidKinds := [.data, .pinned], laidTests := true, laidLooks := .later }
def LackRootsCardSaid : Prop := Claim7.holds Tryd.pinned (.plain (OpenSpec.ofChange lackRootsSpec)) lackRootsCard

/-- THE TIED CARD OF 'graftwoodlaw18.LackLess'. -/
def lackLessCard : Claim7 := { stood := { row := lackLessRow, standIns := [], harness := (true, "5ef1ade54283c0eb95c6ac4e0f6d4a4edd58232b47b52343f6ea4adc1b0a1c15"), looks := false }, kinds := [], alts := [], laidByText := true, laidKinds := [.data, .pinned], laidTests := true, laidLooks := .later }
def LackLessCardSaid : Prop := Claim7.holds Tryd.pinned (.plain (OpenSpec.ofChange lackLessSpec)) lackLessCard

/-- THE SECOND FORM's CARD OF 'graftwoodlaw18.LackOrder'. -/
def lackOrderUptoCard : Claim7 := { stood := { row := lackOrderUptoRow, standIns := [], harness := (true, "5ef1ade54283c0eb95c6ac4e0f6d4a4edd58232b47b52343f6ea4adc1b0a1c15"), looks := false }, kinds := [], alts := [], laidByText := true, laidKinds := [.data, .pinned], laidTests := true, laidLooks := .later }
def LackOrderUptoCardSaid : Prop := Claim7.holds Tryd.pinned (.plain (OpenSpec.upto lackOrderSpec)) lackOrderUptoCard

/-- THE SECOND FORM's CARD OF 'graftwoodlaw18.LackRoots'. -/
def lackRootsUptoCard : Claim7 := { stood := { row := lackRootsUptoRow, standIns := [], harness := (true, "5ef1ade54283c0eb95c6ac4e0f6d4a4edd58232b47b52343f6ea4adc1b0a1c15"), looks := false }, kinds := [], alts := [], laidByText := true, laidKinds := [.data, .pinned], laidTests := true, laidLooks := .later }
def LackRootsUptoCardSaid : Prop := Claim7.holds Tryd.pinned (.plain (OpenSpec.upto lackRootsSpec)) lackRootsUptoCard

/-- THE SECOND FORM's CARD OF 'graftwoodlaw18.LackLess'. -/
def lackLessUptoCard : Claim7 := { stood := { row := lackLessUptoRow, standIns := [], harness := (true, "5ef1ade54283c0eb95c6ac4e0f6d4a4edd58232b47b52343f6ea4adc1b0a1c15"), looks := false }, kinds := [], alts := [], laidByText := true, laidKinds := [.data, .pinned], laidTests := true, laidLooks := .later }
def LackLessUptoCardSaid : Prop := Claim7.holds Tryd.pinned (.plain (OpenSpec.upto lackLessSpec)) lackLessUptoCard
end Rows
end Go.Proofs.YtffcbfclpfchnaaDoor
