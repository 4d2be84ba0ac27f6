/-
  DERIVED. GIVEN WITH THE SEED: THE CARDS: each row of YtohdmmafjpjmfaaGreatDoorRows.lean that lists a variable, with what it lists TIED to the program's text (the seventh form; the later family's looks); each row that meets fmt, with fmt's text TOLD by the authors' own Lean function (tested against real Go, not proved from fmt's source: count such statements apart). THE CARD IS WHAT COUNTS. Prove the row's statement (the work); the ties are given (YtohdmmafjpjmfaaGreatDoorTie.lean); close each card by the builder's one call (the guide's Derived/Test/ToyasCard.lean, 'card_holds'). Laid BY PROGRAM, IN A SANDBOX (cutbox-door.mjs). By AI agents, Wed Nov 11 2026. No macro, syntax, notation, axiom, sorry.
-/
import Derived.Test.YtohdmmafjpjmfaaGreatDoorRows
import GoSem.ClaimSeven
namespace Go.Proofs.YtohdmmafjpjmfaaGreatDoor
namespace Rows

/-- THE TIED CARD OF 'graftwoodlaw14.RoomFits'. -/
def roomFitsCard : Claim7 := { stood := { row := roomFitsRow, standIns := [], harness := (true, "9b7e40c6ac0b11a8bfe98e3a2f58738d4c31b3908f3165b92b5ec7044eaae0cd"), looks := false }, kinds := [], alts := [], laidByText := true, laidKinds := [.data, .pinned], laidTests := true, laidLooks := .later }
def RoomFitsCardSaid : Prop := Claim7.holds Tryz.pinned (.plain (OpenSpec.ofChange roomFitsSpec)) roomFitsCard

/-- THE TIED CARD OF 'graftwoodlaw14.RoomRoots'. -/
def roomRootsCard : Claim7 := { stood := { row := roomRootsRow, standIns := [], harness := (true, "9b7e40c6ac0b11a8bfe98e3a2f58738d4c31b3908f3165b92b5ec7044eaae0cd"), looks := false }, kinds := [], alts := [], laidByText := true, laidKinds := [.data, .pinned], laidTests := true, laidLooks := .later }
def RoomRootsCardSaid : Prop := Claim7.holds Tryz.pinned (.plain (OpenSpec.ofChange roomRootsSpec)) roomRootsCard

/-- THE TIED CARD OF 'graftwoodlaw14.RoomMore'. -/
def roomMoreCard : Claim7 := { stood := { row := roomMoreRow, standIns := [], harness := (true, "9b7e40c6ac0b11a8bfe98e3a2f58738d4c31b3908f3165b92b5ec7044eaae0cd"), looks := false }, kinds := [], alts := [], laidByText := true, laidKinds := [.data, .pinned], laidTests := true, laidLooks := .later }
def RoomMoreCardSaid : Prop := Claim7.holds Tryz.pinned (.plain (OpenSpec.ofChange roomMoreSpec)) roomMoreCard

/-- THE TIED CARD OF 'graftwoodlaw14.RoomOf'. -/
def roomOfCard : Claim7 := { stood := { row := roomOfRow, standIns := [], harness := (true, "9b7e40c6ac0b11a8bfe98e3a2f58738d4c31b3908f3165b92b5ec7044eaae0cd"), looks := false }, kinds := [], alts := [], laidByText := true, laidKinds := [.data, .pinned], laidTests := true, laidLooks := .later }
def RoomOfCardSaid : Prop := Claim7.holds Tryz.pinned (.plain (OpenSpec.ofChange roomOfSpec)) roomOfCard

/-- THE TIED CARD OF 'graftwoodlaw14.RoomBounds'. -/
def roomBoundsCard : Claim7 := { stood := { row := roomBoundsRow, standIns := [], harness := (true, "9b7e40c6ac0b11a8bfe98e3a2f58738d4c31b3908f3165b92b5ec7044eaae0cd"), looks := false }, kinds := [], alts := [], laidByText := true, laidKinds := [.data, .pinned], laidTests := true, laidLooks := .later }
def RoomBoundsCardSaid : Prop := Claim7.holds Tryz.pinned (.plain (OpenSpec.ofChange roomBoundsSpec)) roomBoundsCard

/-- THE TIED CARD OF 'graftwoodlaw14.RoomTakes'. -/
def roomTakesCard : Claim7 := { stood := { row := roomTakesRow, standIns := [], harness := (true, "9b7e40c6ac0b11a8bfe98e3a2f58738d4c31b3908f3165b92b5ec7044eaae0cd"), looks := false }, kinds := [], alts := [], laidByText := true, laidKinds := [.data, .pinned], laidTests := true, laidLooks := .later }
def RoomTakesCardSaid : Prop := Claim7.holds Tryz.pinned (.plain (OpenSpec.ofChange roomTakesSpec)) roomTakesCard

/-- THE TIED CARD OF 'graftwoodlaw14.RoomBack'. -/
def roomBackCard : Claim7 := { stood := { row := roomBackRow, standIns := [], harness := (true, "9b7e40c6ac0b11a8bfe98e3a2f58738d4c31b3908f3165b92b5ec7044eaae0cd"), looks := false }, kinds := [], alts := [], laidByText := true, laidKinds := [.data, .pinned], laidTests := true, laidLooks := .later }
def RoomBackCardSaid : Prop := Claim7.holds Tryz.pinned (.plain (OpenSpec.ofChange roomBackSpec)) roomBackCard

/-- THE SECOND FORM's CARD OF 'graftwoodlaw14.RoomFits'. -/
def roomFitsUptoCard : Claim7 := { stood := { row := roomFitsUptoRow, standIns := [], harness := (true, "9b7e40c6ac0b11a8bfe98e3a2f58738d4c31b3908f3165b92b5ec7044eaae0cd"), looks := false }, kinds := [], alts := [], laidByText := true, laidKinds := [.data, .pinned], laidTests := true, laidLooks := .later }
def RoomFitsUptoCardSaid : Prop := Claim7.holds Tryz.pinned (.plain (OpenSpec.upto roomFitsSpec)) roomFitsUptoCard

/-- THE SECOND FORM's CARD OF 'graftwoodlaw14.RoomRoots'. -/
def roomRootsUptoCard : Claim7 := { stood := { row := roomRootsUptoRow, standIns := [], harness := (true, "9b7e40c6ac0b11a8bfe98e3a2f58738d4c31b3908f3165b92b5ec7044eaae0cd"), looks := false }, kinds := [], alts := [], laidByText := true, laidKinds := [.data, .pinned], laidTests := true, laidLooks := .later }
def RoomRootsUptoCardSaid : Prop := Claim7.holds Tryz.pinned (.plain (OpenSpec.upto roomRootsSpec)) roomRootsUptoCard

/-- THE SECOND FORM's CARD OF 'graftwoodlaw14.RoomMore'. -/
def roomMoreUptoCard : Claim7 := { stood := { row := roomMoreUptoRow, standIns := [], harness := (true, "9b7e40c6ac0b11a8bfe98e3a2f58738d4c31b3908f3165b92b5ec7044eaae0cd"), looks := false }, kinds := [], alts := [], laidByText := true, laidKinds := [.data, .pinned], laidTests := true, laidLooks := .later }
def RoomMoreUptoCardSaid : Prop := Claim7.holds Tryz.pinned (.plain (OpenSpec.upto roomMoreSpec)) roomMoreUptoCard

/-- THE SECOND FORM's CARD OF 'graftwoodlaw14.RoomOf'. -/
def roomOfUptoCard : Claim7 := { stood := { row := roomOfUptoRow, standIns := [], harness := (true, "9b7e40c6ac0b11a8bfe98e3a2f58738d4c31b3908f3165b92b5ec7044eaae0cd"), looks := false }, kinds := [], alts := [], laidByText := true, laidKinds := [.data, .pinned], laidTests := true, laidLooks := .later }
def RoomOfUptoCardSaid : Prop := Claim7.holds Tryz.pinned (.plain (OpenSpec.upto roomOfSpec)) roomOfUptoCard

/-- THE SECOND FORM's CARD OF 'graftwoodlaw14.RoomBounds'. -/
def roomBoundsUptoCard : Claim7 := { stood := { row := roomBoundsUptoRow, standIns := [], harness := (true, "9b7e40c6ac0b11a8bfe98e3a2f58738d4c31b3908f3165b92b5ec7044eaae0cd"), looks := false }, kinds := [], alts := [], laidByText := true, laidKinds := [.data, .pinned], laidTests := true, laidLooks := .later }
def RoomBoundsUptoCardSaid : Prop := Claim7.holds Tryz.pinned (.plain (OpenSpec.upto roomBoundsSpec)) roomBoundsUptoCard

/-- THE SECOND FORM's CARD OF 'graftwoodlaw14.RoomTakes'. -/
def roomTakesUptoCard : Claim7 := { stood := { row := roomTakesUptoRow, standIns := [], harness := (true, "9b7e40c6ac0b11a8bfe98e3a2f58738d4c31b3908f3165b92b5ec7044eaae0cd"), looks := false }, kinds := [], alts := [], laidByText := true, laidKinds := [.data, .pinned], laidTests := true, laidLooks := .later }
def RoomTakesUptoCardSaid : Prop := Claim7.holds Tryz.pinned (.plain (OpenSpec.upto roomTakesSpec)) roomTakesUptoCard

/-- THE SECOND FORM's CARD OF 'graftwoodlaw14.RoomBack'. -/
def roomBackUptoCard : Claim7 := { stood := { row := roomBackUptoRow, standIns := [], harness := (true, "9b7e40c6ac0b11a8bfe98e3a2f58738d4c31b3908f3165b92b5ec7044eaae0cd"), looks := false }, kinds := [], alts := [], laidByText := true, laidKinds := [.data, .pinned], laidTests := true, laidLooks := .later }
def RoomBackUptoCardSaid : Prop := Claim7.holds Tryz.pinned (.plain (OpenSpec.upto roomBackSpec)) roomBackUptoCard
end Rows
end Go.Proofs.YtohdmmafjpjmfaaGreatDoor
