/-
  DERIVED. GIVEN WITH THE SEED: THE CARDS: each row of YtffjkbbmnfnbaaaGreatDoorRows.lean that lists a variable, with what it lists TIED to the program's text (the seventh form; the later family's looks); each row that meets fmt, with fmt's text TOLD by the authors' own Lean function (tested against real Go, not proved from fmt's source: count such statements apart). THE CARD IS WHAT COUNTS. Prove the row's statement (the work); the ties are given (YtffjkbbmnfnbaaaGreatDoorTie.lean); close each card by the builder's one call (the guide's Derived/Test/ToyasCard.lean, 'card_holds'). Laid BY PROGRAM, IN A SANDBOX (cutbox-door.mjs). By AI agents, Wed Nov 11 2026. No macro, syntax, notation, axiom, sorry.
-/
import Derived.Test.YtffjkbbmnfnbaaaGreatDoorRows
import GoSem.ClaimSeven
namespace Go.Proofs.YtffjkbbmnfnbaaaGreatDoor
namespace Rows

/-- THE TIED CARD OF 'graftwoodlaw16.TallyTells'. -/
def tallyTellsCard : Claim7 := { stood := { row := tallyTellsRow, standIns := [], harness := (true, "c20eacdb5d4b6c6447f684e226a845d80649233ef8f552204f43ac25df22fee1"), looks := false }, kinds := [], alts := [], laidByText := true, laidKinds := [.data, .pinned], laidTests := true, laidLooks := .later }
def TallyTellsCardSaid : Prop := Claim7.holds Tryz.pinned (.plain (OpenSpec.ofChange tallyTellsSpec)) tallyTellsCard

/-- THE TIED CARD OF 'graftwoodlaw16.TallyChange'. -/
def tallyChangeCard : Claim7 := { stood := { row := tallyChangeRow, standIns := [], harness := (true, "c20eacdb5d4b6c6447f684e226a845d80649233ef8f552204f43ac25df22fee1"), looks := false }, kinds := [], alts := [], laidByText := true, laidKinds := [.data, .pinned], laidTests := true, laidLooks := .later }
def TallyChangeCardSaid : Prop := Claim7.holds Tryz.pinned (.plain (OpenSpec.ofChange tallyChangeSpec)) tallyChangeCard

/-- THE TIED CARD OF 'graftwoodlaw16.TallyOrder'. -/
def tallyOrderCard : Claim7 := { stood := { row := tallyOrderRow, standIns := [], harness := (true, "c20eacdb5d4b6c6447f684e226a845d80649233ef8f552204f43ac25df22fee1"), looks := false }, kinds := [], alts := [], laidByText := true, laidKinds := [.data, .pinned], laidTests := true, laidLooks := .later }
def TallyOrderCardSaid : Prop := Claim7.holds Tryz.pinned (.plain (OpenSpec.ofChange tallyOrderSpec)) tallyOrderCard

/-- THE TIED CARD OF 'graftwoodlaw16.TallyBest'. -/
def tallyBestCard : Claim7 := { stood := { row := tallyBestRow, standIns := [], harness := (true, "c20eacdb5d4b6c6447f684e226a845d80649233ef8f552204f43ac25df22fee1"), looks := false }, kinds := [], alts := [], laidByText := true, laidKinds := [.data, .pinned], laidTests := true, laidLooks := .later }
def TallyBestCardSaid : Prop := Claim7.holds Tryz.pinned (.plain (OpenSpec.ofChange tallyBestSpec)) tallyBestCard

/-- THE TIED CARD OF 'graftwoodlaw16.TallyCounts'. -/
def tallyCountsCard : Claim7 := { stood := { row := tallyCountsRow, standIns := [], harness := (true, "c20eacdb5d4b6c6447f684e226a845d80649233ef8f552204f43ac25df22fee1"), looks := false }, kinds := [], alts := [], laidByText := true, laidKinds := [.data, .pinned], laidTests := true, laidLooks := .later }
def TallyCountsCardSaid : Prop := Claim7.holds Tryz.pinned (.plain (OpenSpec.ofChange tallyCountsSpec)) tallyCountsCard

/-- THE SECOND FORM's CARD OF 'graftwoodlaw16.TallyTells'. -/
def tallyTellsUptoCard : Claim7 := { stood := { row := tallyTellsUptoRow, standIns := [], harness := (true, "c20eacdb5d4b6c6447f684e226a845d80649233ef8f552204f43ac25df22fee1"), looks := false }, kinds := [], alts := [], laidByText := true, laidKinds := [.data, .pinned], laidTests := true, laidLooks := .later }
def TallyTellsUptoCardSaid : Prop := Claim7.holds Tryz.pinned (.plain (OpenSpec.upto tallyTellsSpec)) tallyTellsUptoCard

/-- THE SECOND FORM's CARD OF 'graftwoodlaw16.TallyChange'. -/
def tallyChangeUptoCard : Claim7 := { stood := { row := tallyChangeUptoRow, standIns := [], harness := (true, "c20eacdb5d4b6c6447f684e226a845d80649233ef8f552204f43ac25df22fee1"), looks := false }, kinds := [], alts := [], laidByText := true, laidKinds := [.data, .pinned], laidTests := true, laidLooks := .later }
def TallyChangeUptoCardSaid : Prop := Claim7.holds Tryz.pinned (.plain (OpenSpec.upto tallyChangeSpec)) tallyChangeUptoCard

/-- THE SECOND FORM's CARD OF 'graftwoodlaw16.TallyOrder'. -/
def tallyOrderUptoCard : Claim7 := { stood := { row := tallyOrderUptoRow, standIns := [], harness := (true, "c20eacdb5d4b6c6447f684e226a845d80649233ef8f552204f43ac25df22fee1"), looks := false }, kinds := [], alts := [], laidByText := true, laidKinds := [.data, .pinned], laidTests := true, laidLooks := .later }
def TallyOrderUptoCardSaid : Prop := Claim7.holds Tryz.pinned (.plain (OpenSpec.upto tallyOrderSpec)) tallyOrderUptoCard

/-- THE SECOND FORM's CARD OF 'graftwoodlaw16.TallyBest'. -/
def tallyBestUptoCard : Claim7 := { stood := { row := tallyBestUptoRow, standIns := [], harness := (true, "c20eacdb5d4b6c6447f684e226a845d80649233ef8f552204f43ac25df22fee1"), looks := false }, kinds := [], alts := [], laidByText := true, laidKinds := [.data, .pinned], laidTests := true, laidLooks := .later }
def TallyBestUptoCardSaid : Prop := Claim7.holds Tryz.pinned (.plain (OpenSpec.upto tallyBestSpec)) tallyBestUptoCard

/-- THE SECOND FORM's CARD OF 'graftwoodlaw16.TallyCounts'. -/
def tallyCountsUptoCard : Claim7 := { stood := { row := tallyCountsUptoRow, standIns := [], harness := (true, "c20eacdb5d4b6c6447f684e226a845d80649233ef8f552204f43ac25df22fee1"), looks := false }, kinds := [], alts := [], laidByText := true, laidKinds := [.data, .pinned], laidTests := true, laidLooks := .later }
def TallyCountsUptoCardSaid : Prop := Claim7.holds Tryz.pinned (.plain (OpenSpec.upto tallyCountsSpec)) tallyCountsUptoCard
end Rows
end Go.Proofs.YtffjkbbmnfnbaaaGreatDoor
