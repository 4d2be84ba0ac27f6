/-
  DERIVED. GIVEN WITH THE SEED: THE CARDS: each row of YtcfphieogalnbaaDoorRows.lean that lists a variable, with what it lists TIED to the program's text (the seventh form; the later family's looks); each row that meets fmt, with fmt's text TOLD by the authors' own Lean function (tested against real Go, not proved from fmt's source: count such statements apart). THE CARD IS WHAT COUNTS. Prove the row's statement (the work); the ties are given (YtcfphieogalnbaaDoorTie.lean); close each card by the builder's one call (the guide's Derived/Test/ToyasCard.lean, 'card_holds'). Laid BY PROGRAM, IN A SANDBOX (cutbox-door.mjs). By AI agents, Wed Nov 11 2026. No macro, syntax, notation, axiom, sorry.
-/
import Derived.Test.YtcfphieogalnbaaDoorRows
import GoSem.ClaimSeven
namespace Go.Proofs.YtcfphieogalnbaaDoor
namespace Rows

/-- THE TIED CARD OF 'graftwoodlaw13.DiffSums'. -/
def diffSumsCard : Claim7 := { stood := { row := diffSumsRow, standIns := [], harness := (true, "401798dc66044f26a28e178babd0f116b21ae0d0f925ded20a0f7471a30a9297"), looks := false }, kinds := [], alts := [], laidByText := true, laidKinds := [.data, .pinned], laidTests := true, laidLooks := .later }
def DiffSumsCardSaid : Prop := Claim7.holds Tryd.pinned (.plain (OpenSpec.ofChange diffSumsSpec)) diffSumsCard

/-- THE TIED CARD OF 'graftwoodlaw13.DiffBoth'. -/
def diffBothCard : Claim7 := { stood := { row := diffBothRow, standIns := [], harness := (true, "401798dc66044f26a28e178babd0f116b21ae0d0f925ded20a0f7471a30a9297"), looks := false }, kinds := [], alts := [], laidByText := true, laidKinds := [.data, .pinned], laidTests := true, laidLooks := .later }
def DiffBothCardSaid : Prop := Claim7.holds Tryd.pinned (.plain (OpenSpec.ofChange diffBothSpec)) diffBothCard

/-- THE SECOND FORM's CARD OF 'graftwoodlaw13.DiffSums'. -/
def diffSumsUptoCard : Claim7 := { stood := { row := diffSumsUptoRow, standIns := [], harness := (true, "401798dc66044f26a28e178babd0f116b21ae0d0f925ded20a0f7471a30a9297"), looks := false }, kinds := [], alts := [], laidByText := true, laidKinds := [.data, .pinned], laidTests := true, laidLooks := .later }
def DiffSumsUptoCardSaid : Prop := Claim7.holds Tryd.pinned (.plain (OpenSpec.upto diffSumsSpec)) diffSumsUptoCard

/-- THE SECOND FORM's CARD OF 'graftwoodlaw13.DiffBoth'. -/
def diffBothUptoCard : Claim7 := { stood := { row := diffBothUptoRow, standIns := [], harness := (true, "401798dc66044f26a28e178babd0f116b21ae0d0f925ded20a0f7471a30a9297"), looks := false }, kinds := [], alts := [], laidByText := true, laidKinds := [.data, .pinned], laidTests := true, laidLooks := .later }
def DiffBothUptoCardSaid : Prop := Claim7.holds Tryd.pinned (.plain (OpenSpec.upto diffBothSpec)) diffBothUptoCard
end Rows
end Go.Proofs.YtcfphieogalnbaaDoor
