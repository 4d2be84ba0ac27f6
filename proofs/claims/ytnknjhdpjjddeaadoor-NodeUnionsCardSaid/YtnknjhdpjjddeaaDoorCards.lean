/-
  DERIVED. GIVEN WITH THE SEED: THE CARDS: each row of YtnknjhdpjjddeaaDoorRows.lean that lists a variable, with what it lists TIED to the program's text (the seventh form; the later family's looks); each row that meets fmt, with fmt's text TOLD by the authors' own Lean function (tested against real Go, not proved from fmt's source: count such statements apart). THE CARD IS WHAT COUNTS. Prove the row's statement (the work); the ties are given (YtnknjhdpjjddeaaDoorTie.lean); close each card by the builder's one call (the guide's Derived/Test/ToyasCard.lean, 'card_holds'). Laid BY PROGRAM, IN A SANDBOX (cutbox-door.mjs). By AI agents, Wed Nov 11 2026. No macro, syntax, notation, axiom, sorry.
-/
import Derived.Test.YtnknjhdpjjddeaaDoorRows
import GoSem.ClaimSeven
namespace Go.Proofs.YtnknjhdpjjddeaaDoor
namespace Rows

/-- THE TIED CARD OF 'graftwoodlaw05.NodeOrder'. -/
def nodeOrderCard : Claim7 := { stood := { row := nodeOrderRow, standIns := [], harness := (true, "da8e24e12662068eb56eb79aa387516c5f42d57e2123e16fd74b47576c8a9ef6"), looks := false }, kinds := [], alts := [], laidByText := true, laidKinds := [.data, .pinned], laidTests := true, laidLooks := .later }
def NodeOrderCardSaid : Prop := Claim7.holds Tryd.pinned (.plain (OpenSpec.ofChange nodeOrderSpec)) nodeOrderCard

/-- THE TIED CARD OF 'graftwoodlaw05.NodePaths'. -/
def nodePathsCard : Claim7 := { stood := { row := nodePathsRow, standIns := [], harness := (true, "da8e24e12662068eb56eb79aa387516c5f42d57e2123e16fd74b47576c8a9ef6"), looks := false }, kinds := [], alts := [], laidByText := true, laidKinds := [.data, .pinned], laidTests := true, laidLooks := .later }
def NodePathsCardSaid : Prop := Claim7.holds Tryd.pinned (.plain (OpenSpec.ofChange nodePathsSpec)) nodePathsCard

/-- THE TIED CARD OF 'graftwoodlaw05.NodeTells'. -/
def nodeTellsCard : Claim7 := { stood := { row := nodeTellsRow, standIns := [], harness := (true, "da8e24e12662068eb56eb79aa387516c5f42d57e2123e16fd74b47576c8a9ef6"), looks := false }, kinds := [], alts := [], laidByText := true, laidKinds := [.data, .pinned], laidTests := true, laidLooks := .later }
def NodeTellsCardSaid : Prop := Claim7.holds Tryd.pinned (.plain (OpenSpec.ofChange nodeTellsSpec)) nodeTellsCard

/-- THE TIED CARD OF 'graftwoodlaw05.NodeUnions'. -/
def nodeUnionsCard : Claim7 := { stood := { row := nodeUnionsRow, standIns := [], harness := (true, "da8e24e12662068eb56eb79aa387516c5f42d57e2123e16fd74b47576c8a9ef6"), looks := false }, kinds := [], alts := [], laidByText := true, laidKinds := [.data, .pinned], laidTests := true, laidLooks := .later }
def NodeUnionsCardSaid : Prop := Claim7.holds Tryd.pinned (.plain (OpenSpec.ofChange nodeUnionsSpec)) nodeUnionsCard

/-- THE TIED CARD OF 'graftwoodlaw05.NodeStays'. -/
def nodeStaysCard : Claim7 := { stood := { row := nodeStaysRow, standIns := [], harness := (true, "da8e24e12662068eb56eb79aa387516c5f42d57e2123e16fd74b47576c8a9ef6"), looks := false }, kinds := [], alts := [], laidByText := true, laidKinds := [.data, .pinned], laidTests := true, laidLooks := .later }
def NodeStaysCardSaid : Prop := Claim7.holds Tryd.pinned (.plain (OpenSpec.ofChange nodeStaysSpec)) nodeStaysCard

/-- THE SECOND FORM's CARD OF 'graftwoodlaw05.NodeOrder'. -/
def nodeOrderUptoCard : Claim7 := { stood := { row := nodeOrderUptoRow, standIns := [], harness := (true, "da8e24e12662068eb56eb79aa387516c5f42d57e2123e16fd74b47576c8a9ef6"), looks := false }, kinds := [], alts := [], laidByText := true, laidKinds := [.data, .pinned], laidTests := true, laidLooks := .later }
def NodeOrderUptoCardSaid : Prop := Claim7.holds Tryd.pinned (.plain (OpenSpec.upto nodeOrderSpec)) nodeOrderUptoCard

/-- THE SECOND FORM's CARD OF 'graftwoodlaw05.NodePaths'. -/
def nodePathsUptoCard : Claim7 := { stood := { row := nodePathsUptoRow, standIns := [], harness := (true, "da8e24e12662068eb56eb79aa387516c5f42d57e2123e16fd74b47576c8a9ef6"), looks := false }, kinds := [], alts := [], laidByText := true, laidKinds := [.data, .pinned], laidTests := true, laidLooks := .later }
def NodePathsUptoCardSaid : Prop := Claim7.holds Tryd.pinned (.plain (OpenSpec.upto nodePathsSpec)) nodePathsUptoCard

/-- THE SECOND FORM's CARD OF 'graftwoodlaw05.NodeTells'. -/
def nodeTellsUptoCard : Claim7 := { stood := { row := nodeTellsUptoRow, standIns := [], harness := (true, "da8e24e12662068eb56eb79aa387516c5f42d57e2123e16fd74b47576c8a9ef6"), looks := false }, kinds := [], alts := [], laidByText := true, laidKinds := [.data, .pinned], laidTests := true, laidLooks := .later }
def NodeTellsUptoCardSaid : Prop := Claim7.holds Tryd.pinned (.plain (OpenSpec.upto nodeTellsSpec)) nodeTellsUptoCard

/-- THE SECOND FORM's CARD OF 'graftwoodlaw05.NodeUnions'. -/
def nodeUnionsUptoCard : Claim7 := { stood := { row := nodeUnionsUptoRow, standIns := [], harness := (true, "da8e24e12662068eb56eb79aa387516c5f42d57e2123e16fd74b47576c8a9ef6"), looks := false }, kinds := [], alts := [], laidByText := true, laidKinds := [.data, .pinned], laidTests := true, laidLooks := .later }
def NodeUnionsUptoCardSaid : Prop := Claim7.holds Tryd.pinned (.plain (OpenSpec.upto nodeUnionsSpec)) nodeUnionsUptoCard

/-- THE SECOND FORM's CARD OF 'graftwoodlaw05.NodeStays'. -/
def nodeStaysUptoCard : Claim7 := { stood := { row := nodeStaysUptoRow, standIns := [], harness := (true, "da8e24e12662068eb56eb79aa387516c5f42d57e2123e16fd74b47576c8a9ef6"), looks := false }, kinds := [], alts := [], laidByText := true, laidKinds := [.data, .pinned], laidTests := true, laidLooks := .later }
def NodeStaysUptoCardSaid : Prop := Claim7.holds Tryd.pinned (.plain (OpenSpec.upto nodeStaysSpec)) nodeStaysUptoCard
end Rows
end Go.Proofs.YtnknjhdpjjddeaaDoor
