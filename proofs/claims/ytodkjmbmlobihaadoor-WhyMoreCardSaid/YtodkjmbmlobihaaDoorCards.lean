/-
  DERIVED. GIVEN WITH THE SEED: THE CARDS: each row of YtodkjmbmlobihaaDoorRows.lean that lists a variable, with what it lists TIED to the program's text (the seventh form; the later family's looks); each row that meets fmt, with fmt's text TOLD by the authors' own Lean function (tested against real Go, not proved from fmt's source: count such statements apart). THE CARD IS WHAT COUNTS. Prove the row's statement (the work); the ties are given (YtodkjmbmlobihaaDoorTie.lean); close each card by the builder's one call (the guide's Derived/Test/ToyasCard.lean, 'card_holds'). Laid BY PROGRAM, IN A SANDBOX (cutbox-door.mjs). By AI agents, Wed Nov 11 2026. No macro, syntax, notation, axiom, sorry.
-/
import Derived.Test.YtodkjmbmlobihaaDoorRows
import GoSem.ClaimSeven
namespace Go.Proofs.YtodkjmbmlobihaaDoor
namespace Rows

/-- THE TIED CARD OF 'graftwoodlaw19.WhyLeast'. -/
def whyLeastCard : Claim7 := { stood := { row := whyLeastRow, standIns := [], harness := (true, "f2cd7fac73deb61ac40ed1ba4603778106f7eee3e0c10fa2b1f1ccce5b6e7015"), looks := false }, kinds := [], alts := [], laidByText := true, laidKinds := [.data, .pinned], laidTests := true, laidLooks := .later }
def WhyLeastCardSaid : Prop := Claim7.holds Tryd.pinned (.plain (OpenSpec.ofChange whyLeastSpec)) whyLeastCard

/-- THE TIED CARD OF 'graftwoodlaw19.WhyMore'. -/
def whyMoreCard : Claim7 := { stood := { row := whyMoreRow, standIns := [], harness := (true, "f2cd7fac73deb61ac40ed1ba4603778106f7eee3e0c10fa2b1f1ccce5b6e7015"), looks := false }, kinds := [], alts := [], laidByText := true, laidKinds := [.data, .pinned], laidTests := true, laidLooks := .later }
def WhyMoreCardSaid : Prop := Claim7.holds Tryd.pinned (.plain (OpenSpec.ofChange whyMoreSpec)) whyMoreCard

/-- THE TIED CARD OF 'graftwoodlaw19.WhyChain'. -/
def whyChainCard : Claim7 := { stood := { row := whyChainRow, standIns := [], harness := (true, "f2cd7fac73deb61ac40ed1ba4603778106f7eee3e0c10fa2b1f1ccce5b6e7015"), looks := false }, kinds := [], alts := [], laidByText := true, laidKinds := [.data, .pinned], laidTests := true, laidLooks := .later }
def WhyChainCardSaid : Prop := Claim7.holds Tryd.pinned (.plain (OpenSpec.ofChange whyChainSpec)) whyChainCard

/-- THE SECOND FORM's CARD OF 'graftwoodlaw19.WhyLeast'. -/
def whyLeastUptoCard : Claim7 := { stood := { row := whyLeastUptoRow, standIns := [], harness := (true, "f2cd7fac73deb61ac40ed1ba4603778106f7eee3e0c10fa2b1f1ccce5b6e7015"), looks := false }, kinds := [], alts := [], laidByText := true, laidKinds := [.data, .pinned], laidTests := true, laidLooks := .later }
def WhyLeastUptoCardSaid : Prop := Claim7.holds Tryd.pinned (.plain (OpenSpec.upto whyLeastSpec)) whyLeastUptoCard

/-- THE SECOND FORM's CARD OF 'graftwoodlaw19.WhyMore'. -/
def whyMoreUptoCard : Claim7 := { stood := { row := whyMoreUptoRow, standIns := [], harness := (true, "f2cd7fac73deb61ac40ed1ba4603778106f7eee3e0c10fa2b1f1ccce5b6e7015"), looks := false }, kinds := [], alts := [], laidByText := true, laidKinds := [.data, .pinned], laidTests := true, laidLooks := .later }
def WhyMoreUptoCardSaid : Prop := Claim7.holds Tryd.pinned (.plain (OpenSpec.upto whyMoreSpec)) whyMoreUptoCard

/-- THE SECOND FORM's CARD OF 'graftwoodlaw19.WhyChain'. -/
def whyChainUptoCard : Claim7 := { stood := { row := whyChainUptoRow, standIns := [], harness := (true, "f2cd7fac73deb61ac40ed1ba4603778106f7eee3e0c10fa2b1f1ccce5b6e7015"), looks := false }, kinds := [], alts := [], laidByText := true, laidKinds := [.data, .pinned], laidTests := true, laidLooks := .later }
def WhyChainUptoCardSaid : Prop := Claim7.holds Tryd.pinned (.plain (OpenSpec.upto whyChainSpec)) whyChainUptoCard
end Rows
end Go.Proofs.YtodkjmbmlobihaaDoor
