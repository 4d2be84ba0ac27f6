/-
  NARROWER THAN 'FOR EVERY INPUT', by the rows' own cells (each row's printed sentence says how): RoomFits: laid · RoomRoots: laid · RoomMore: laid · RoomOf: laid · RoomBounds: laid · RoomTakes: laid · RoomBack: laid.
  DERIVED. THE GIVEN ROWS OF THIS SEAT. 7 by the template 'for every input the law returns true; each argument reads behind the call as it read before'; 0 by the template 'total and deterministic' (their statements: YtohdmmafjpjmfaaGreatDoorTotals.lean).
  GIVEN WITH THE SEED: the statements are not yours to turn. If you find one false, say at which input.
  Laid BY PROGRAM, IN A SANDBOX (cutbox-rows.mjs): the forced cells as the released guide's own fill.sh prints them over the translation 4999951d6de0f16e… (all of the seat's roots in one cut). By AI agents, Wed Nov 11 2026. No macro, syntax, notation, axiom, sorry.
-/
import Derived.Test.YtohdmmafjpjmfaaGreatDoorChecked
import GoSem.PinnedTables
import GoSem.Claim
import GoSem.ClaimJoined
import GoSem.ClaimMapViews
import Derived.JoinedTies
import Derived.KernelRfl
namespace Go.Proofs.YtohdmmafjpjmfaaGreatDoor
/- THE CELL 'sum', in the pinned program and in every row, IS THE sha256 OF THE DUMP (.gsa) THAT YtohdmmafjpjmfaaGreatDoorProg.lean LOADS. Nothing in Lean hashes anything: it is a label: what it is worth is what the hold of that sum in a sandbox is worth. -/
noncomputable def Tryz.pinned : Pinned := { name := "ytohdmmafjpjmfaagreatdoor", sum := "4999951d6de0f16e44ae991b62ec06c41d5e59d032aeab119555f8ccbea114fd", checked := Tryz.checked }
namespace Rows
def none {H : Type} : Left H := { results := [], args := [] }

/- WHAT THE LISTED PACKAGE-LEVEL VARIABLES READ AS WHEN THE CALL BEGINS. Each datum BY PROGRAM (the guide's laid-datum.mjs) off the statement by which the dump's own 'gosem.cut.vars' lays the variable. In a bare row this is a premise. The card (YtohdmmafjpjmfaaGreatDoorCards.lean) ties it to the program's text. -/
def laid_unicode_utf8_acceptRanges {H : Type} : DataW H := .agg [.agg [.lit (.int .u8 128), .lit (.int .u8 191)], .agg [.lit (.int .u8 160), .lit (.int .u8 191)], .agg [.lit (.int .u8 128), .lit (.int .u8 159)], .agg [.lit (.int .u8 144), .lit (.int .u8 191)], .agg [.lit (.int .u8 128), .lit (.int .u8 143)], .agg [.lit (.int .u8 0), .lit (.int .u8 0)], .agg [.lit (.int .u8 0), .lit (.int .u8 0)], .agg [.lit (.int .u8 0), .lit (.int .u8 0)], .agg [.lit (.int .u8 0), .lit (.int .u8 0)], .agg [.lit (.int .u8 0), .lit (.int .u8 0)], .agg [.lit (.int .u8 0), .lit (.int .u8 0)], .agg [.lit (.int .u8 0), .lit (.int .u8 0)], .agg [.lit (.int .u8 0), .lit (.int .u8 0)], .agg [.lit (.int .u8 0), .lit (.int .u8 0)], .agg [.lit (.int .u8 0), .lit (.int .u8 0)], .agg [.lit (.int .u8 0), .lit (.int .u8 0)]]
/-- One of Go's own tables, pinned by name: the form's constant. -/
def laid_unicode_utf8_first : DataW Unit := Go.Pinned.utf8First

/-- 'graftwoodlaw14.RoomFits': WHATEVER THE INPUT: true; the input reads as it did. -/
def roomFitsSpec : ChangeSpec := { name := "roomFits", fn := fun _ => fun
  | [d1, d2, d3] => { results := [.lit (.bool true)], args := [d1, d2, d3] }
  | _ => none }
def roomFitsRow : OpenClaim := { program := "ytohdmmafjpjmfaagreatdoor", sum := "4999951d6de0f16e44ae991b62ec06c41d5e59d032aeab119555f8ccbea114fd", func := "graftwood/graftwoodlaw14.RoomFits", spec := "roomFits", inPlace := ["internal/bytealg.CountString", "internal/bytealg.IndexByteString", "internal/bytealg.IndexString"], unfollowed := true, recurses := true, named := ["unicode/utf8.first", "unicode/utf8.acceptRanges", "internal/bytealg.MaxLen"], plainKeys := false, apart := false, laid := [("unicode/utf8.acceptRanges", laid_unicode_utf8_acceptRanges), ("unicode/utf8.first", laid_unicode_utf8_first)] }
def RoomFitsSaid : Prop := roomFitsRow.holds Tryz.pinned (OpenSpec.ofChange roomFitsSpec)

/-- ITS FALSE NEIGHBOUR: 'it returns false'. Refute it at one input. -/
def roomFitsWrong : ChangeSpec := { name := "roomFits", fn := fun _ => fun
  | [d1, d2, d3] => { results := [.lit (.bool false)], args := [d1, d2, d3] }
  | _ => none }
def RoomFitsWrongFalsely : Prop := roomFitsRow.holds Tryz.pinned (OpenSpec.ofChange roomFitsWrong)

/-- 'graftwoodlaw14.RoomRoots': WHATEVER THE INPUT: true; the input reads as it did. -/
def roomRootsSpec : ChangeSpec := { name := "roomRoots", fn := fun _ => fun
  | [d1, d2, d3] => { results := [.lit (.bool true)], args := [d1, d2, d3] }
  | _ => none }
def roomRootsRow : OpenClaim := { program := "ytohdmmafjpjmfaagreatdoor", sum := "4999951d6de0f16e44ae991b62ec06c41d5e59d032aeab119555f8ccbea114fd", func := "graftwood/graftwoodlaw14.RoomRoots", spec := "roomRoots", inPlace := ["internal/bytealg.CountString", "internal/bytealg.IndexByteString", "internal/bytealg.IndexString"], unfollowed := true, recurses := true, named := ["unicode/utf8.first", "unicode/utf8.acceptRanges", "internal/bytealg.MaxLen"], plainKeys := false, apart := false, laid := [("unicode/utf8.acceptRanges", laid_unicode_utf8_acceptRanges), ("unicode/utf8.first", laid_unicode_utf8_first)] }
def RoomRootsSaid : Prop := roomRootsRow.holds Tryz.pinned (OpenSpec.ofChange roomRootsSpec)

/-- ITS FALSE NEIGHBOUR: 'it returns false'. Refute it at one input. -/
def roomRootsWrong : ChangeSpec := { name := "roomRoots", fn := fun _ => fun
  | [d1, d2, d3] => { results := [.lit (.bool false)], args := [d1, d2, d3] }
  | _ => none }
def RoomRootsWrongFalsely : Prop := roomRootsRow.holds Tryz.pinned (OpenSpec.ofChange roomRootsWrong)

/-- 'graftwoodlaw14.RoomMore': WHATEVER THE INPUT: true; the input reads as it did. -/
def roomMoreSpec : ChangeSpec := { name := "roomMore", fn := fun _ => fun
  | [d1, d2, d3] => { results := [.lit (.bool true)], args := [d1, d2, d3] }
  | _ => none }
def roomMoreRow : OpenClaim := { program := "ytohdmmafjpjmfaagreatdoor", sum := "4999951d6de0f16e44ae991b62ec06c41d5e59d032aeab119555f8ccbea114fd", func := "graftwood/graftwoodlaw14.RoomMore", spec := "roomMore", inPlace := ["internal/bytealg.CountString", "internal/bytealg.IndexByteString", "internal/bytealg.IndexString"], unfollowed := true, recurses := true, named := ["unicode/utf8.first", "unicode/utf8.acceptRanges", "internal/bytealg.MaxLen"], plainKeys := false, apart := false, laid := [("unicode/utf8.acceptRanges", laid_unicode_utf8_acceptRanges), ("unicode/utf8.first", laid_unicode_utf8_first)] }
def RoomMoreSaid : Prop := roomMoreRow.holds Tryz.pinned (OpenSpec.ofChange roomMoreSpec)

/-- ITS FALSE NEIGHBOUR: 'it returns false'. Refute it at one input. -/
def roomMoreWrong : ChangeSpec := { name := "roomMore", fn := fun _ => fun
  | [d1, d2, d3] => { results := [.lit (.bool false)], args := [d1, d2, d3] }
  | _ => none }
def RoomMoreWrongFalsely : Prop := roomMoreRow.holds Tryz.pinned (OpenSpec.ofChange roomMoreWrong)

/-- 'graftwoodlaw14.RoomOf': WHATEVER THE INPUT: true; the input reads as it did. -/
def roomOfSpec : ChangeSpec := { name := "roomOf", fn := fun _ => fun
  | [d1, d2, d3] => { results := [.lit (.bool true)], args := [d1, d2, d3] }
  | _ => none }
def roomOfRow : OpenClaim := { program := "ytohdmmafjpjmfaagreatdoor", sum := "4999951d6de0f16e44ae991b62ec06c41d5e59d032aeab119555f8ccbea114fd", func := "graftwood/graftwoodlaw14.RoomOf", spec := "roomOf", inPlace := ["internal/bytealg.CountString", "internal/bytealg.IndexByteString", "internal/bytealg.IndexString"], unfollowed := true, recurses := true, named := ["unicode/utf8.first", "unicode/utf8.acceptRanges", "internal/bytealg.MaxLen"], plainKeys := false, apart := false, laid := [("unicode/utf8.acceptRanges", laid_unicode_utf8_acceptRanges), ("unicode/utf8.first", laid_unicode_utf8_first)] }
def RoomOfSaid : Prop := roomOfRow.holds Tryz.pinned (OpenSpec.ofChange roomOfSpec)

/-- ITS FALSE NEIGHBOUR: 'it returns false'. Refute it at one input. -/
def roomOfWrong : ChangeSpec := { name := "roomOf", fn := fun _ => fun
  | [d1, d2, d3] => { results := [.lit (.bool false)], args := [d1, d2, d3] }
  | _ => none }
def RoomOfWrongFalsely : Prop := roomOfRow.holds Tryz.pinned (OpenSpec.ofChange roomOfWrong)

/-- 'graftwoodlaw14.RoomBounds': WHATEVER THE INPUT: true; the input reads as it did. -/
def roomBoundsSpec : ChangeSpec := { name := "roomBounds", fn := fun _ => fun
  | [d1, d2, d3] => { results := [.lit (.bool true)], args := [d1, d2, d3] }
  | _ => none }
def roomBoundsRow : OpenClaim := { program := "ytohdmmafjpjmfaagreatdoor", sum := "4999951d6de0f16e44ae991b62ec06c41d5e59d032aeab119555f8ccbea114fd", func := "graftwood/graftwoodlaw14.RoomBounds", spec := "roomBounds", inPlace := ["internal/bytealg.CountString", "internal/bytealg.IndexByteString", "internal/bytealg.IndexString"], unfollowed := true, recurses := true, named := ["unicode/utf8.first", "unicode/utf8.acceptRanges", "internal/bytealg.MaxLen"], plainKeys := false, apart := false, laid := [("unicode/utf8.acceptRanges", laid_unicode_utf8_acceptRanges), ("unicode/utf8.first", laid_unicode_utf8_first)] }
def RoomBoundsSaid : Prop := roomBoundsRow.holds Tryz.pinned (OpenSpec.ofChange roomBoundsSpec)

/-- ITS FALSE NEIGHBOUR: 'it returns false'. Refute it at one input. -/
def roomBoundsWrong : ChangeSpec := { name := "roomBounds", fn := fun _ => fun
  | [d1, d2, d3] => { results := [.lit (.bool false)], args := [d1, d2, d3] }
  | _ => none }
def RoomBoundsWrongFalsely : Prop := roomBoundsRow.holds Tryz.pinned (OpenSpec.ofChange roomBoundsWrong)

/-- 'graftwoodlaw14.RoomTakes': WHATEVER THE INPUT: true; the input reads as it did. -/
def roomTakesSpec : ChangeSpec := { name := "roomTakes", fn := fun _ => fun
  | [d1, d2, d3] => { results := [.lit (.bool true)], args := [d1, d2, d3] }
  | _ => none }
def roomTakesRow : OpenClaim := { program := "ytohdmmafjpjmfaagreatdoor", sum := "4999951d6de0f16e44ae991b62ec06c41d5e59d032aeab119555f8ccbea114fd", func := "graftwood/graftwoodlaw14.RoomTakes", spec := "roomTakes", inPlace := ["internal/bytealg.CountString", "internal/bytealg.IndexByteString", "internal/bytealg.IndexString"], unfollowed := true, recurses := true, named := ["unicode/utf8.first", "unicode/utf8.acceptRanges", "internal/bytealg.MaxLen"], plainKeys := false, apart := false, laid := [("unicode/utf8.acceptRanges", laid_unicode_utf8_acceptRanges), ("unicode/utf8.first", laid_unicode_utf8_first)] }
def RoomTakesSaid : Prop := roomTakesRow.holds Tryz.pinned (OpenSpec.ofChange roomTakesSpec)

/-- ITS FALSE NEIGHBOUR: 'it returns false'. Refute it at one input. -/
def roomTakesWrong : ChangeSpec := { name := "roomTakes", fn := fun _ => fun
  | [d1, d2, d3] => { results := [.lit (.bool false)], args := [d1, d2, d3] }
  | _ => none }
def RoomTakesWrongFalsely : Prop := roomTakesRow.holds Tryz.pinned (OpenSpec.ofChange roomTakesWrong)

/-- 'graftwoodlaw14.RoomBack': WHATEVER THE INPUT: true; the input reads as it did. -/
def roomBackSpec : ChangeSpec := { name := "roomBack", fn := fun _ => fun
  | [d1, d2, d3] => { results := [.lit (.bool true)], args := [d1, d2, d3] }
  | _ => none }
def roomBackRow : OpenClaim := { program := "ytohdmmafjpjmfaagreatdoor", sum := "4999951d6de0f16e44ae991b62ec06c41d5e59d032aeab119555f8ccbea114fd", func := "graftwood/graftwoodlaw14.RoomBack", spec := "roomBack", inPlace := ["internal/bytealg.CountString", "internal/bytealg.IndexByteString", "internal/bytealg.IndexString"], unfollowed := true, recurses := true, named := ["unicode/utf8.first", "unicode/utf8.acceptRanges", "internal/bytealg.MaxLen"], plainKeys := false, apart := false, laid := [("unicode/utf8.acceptRanges", laid_unicode_utf8_acceptRanges), ("unicode/utf8.first", laid_unicode_utf8_first)] }
def RoomBackSaid : Prop := roomBackRow.holds Tryz.pinned (OpenSpec.ofChange roomBackSpec)

/-- ITS FALSE NEIGHBOUR: 'it returns false'. Refute it at one input. -/
def roomBackWrong : ChangeSpec := { name := "roomBack", fn := fun _ => fun
  | [d1, d2, d3] => { results := [.lit (.bool false)], args := [d1, d2, d3] }
  | _ => none }
def RoomBackWrongFalsely : Prop := roomBackRow.holds Tryz.pinned (OpenSpec.ofChange roomBackWrong)

/- THE SECOND FORM. 'bulk': how many values and letters a reading holds, each counted each time it is reached (what is shared counts as often as it is met; a slice's spare places count too). A statement '..UptoSaid' is the law's where the arguments, and the package variables that the reading takes, are together of bulk at most 1048576: NARROWER than '..Said'. Prove '..Said' where nothing that the law and all that it calls make is longer than what came in: it says more and counts as full. Else prove '..UptoSaid'. A law counts once. -/
mutual
def uptoBulk {H : Type} : DataW H → Nat
  | .lit (.string bytes) => bytes.length + 1
  | .lit _ => 1
  | .nil => 1
  | .ptr d => uptoBulk d + 1
  | .slice elems spare => uptoBulkAll elems + uptoBulkAll spare + 1
  | .agg parts => uptoBulkAll parts + 1
  | .iface _ d => uptoBulk d + 1
  | .map entries => uptoBulkEntries entries + 1
  | .held _ => 1
def uptoBulkAll {H : Type} : List (DataW H) → Nat
  | [] => 0
  | d :: r => uptoBulk d + uptoBulkAll r
def uptoBulkEntries {H : Type} : List (Lit × DataW H) → Nat
  | [] => 0
  | x :: r => uptoBulkEntry x + uptoBulkEntries r
def uptoBulkEntry {H : Type} : Lit × DataW H → Nat
  | (.string bytes, d) => bytes.length + uptoBulk d + 1
  | (_, d) => uptoBulk d + 1
 end
def uptoSmall : (H : Type) → List (DataW H) → Bool := fun _ ds => decide (uptoBulkAll ds ≤ 1048576)
def OpenSpec.upto (s : _root_.Go.ChangeSpec) : _root_.Go.OpenSpec := { _root_.Go.OpenSpec.ofChange s with cond := some uptoSmall }

/-- 'graftwoodlaw14.RoomFits', WHERE WHAT IT READS IS OF BULK AT MOST 1048576: true; the input reads as it did. -/
def roomFitsUptoRow : OpenClaim := { program := "ytohdmmafjpjmfaagreatdoor", sum := "4999951d6de0f16e44ae991b62ec06c41d5e59d032aeab119555f8ccbea114fd", func := "graftwood/graftwoodlaw14.RoomFits", spec := "roomFits", inPlace := ["internal/bytealg.CountString", "internal/bytealg.IndexByteString", "internal/bytealg.IndexString"], unfollowed := true, recurses := true, named := ["unicode/utf8.first", "unicode/utf8.acceptRanges", "internal/bytealg.MaxLen"], plainKeys := false, apart := false, laid := [("unicode/utf8.acceptRanges", laid_unicode_utf8_acceptRanges), ("unicode/utf8.first", laid_unicode_utf8_first)], narrowed := true }
def RoomFitsUptoSaid : Prop := roomFitsUptoRow.holds Tryz.pinned (OpenSpec.upto roomFitsSpec)

/-- 'graftwoodlaw14.RoomRoots', WHERE WHAT IT READS IS OF BULK AT MOST 1048576: true; the input reads as it did. -/
def roomRootsUptoRow : OpenClaim := { program := "ytohdmmafjpjmfaagreatdoor", sum := "4999951d6de0f16e44ae991b62ec06c41d5e59d032aeab119555f8ccbea114fd", func := "graftwood/graftwoodlaw14.RoomRoots", spec := "roomRoots", inPlace := ["internal/bytealg.CountString", "internal/bytealg.IndexByteString", "internal/bytealg.IndexString"], unfollowed := true, recurses := true, named := ["unicode/utf8.first", "unicode/utf8.acceptRanges", "internal/bytealg.MaxLen"], plainKeys := false, apart := false, laid := [("unicode/utf8.acceptRanges", laid_unicode_utf8_acceptRanges), ("unicode/utf8.first", laid_unicode_utf8_first)], narrowed := true }
def RoomRootsUptoSaid : Prop := roomRootsUptoRow.holds Tryz.pinned (OpenSpec.upto roomRootsSpec)

/-- 'graftwoodlaw14.RoomMore', WHERE WHAT IT READS IS OF BULK AT MOST 1048576: true; the input reads as it did. -/
def roomMoreUptoRow : OpenClaim := { program := "ytohdmmafjpjmfaagreatdoor", sum := "4999951d6de0f16e44ae991b62ec06c41d5e59d032aeab119555f8ccbea114fd", func := "graftwood/graftwoodlaw14.RoomMore", spec := "roomMore", inPlace := ["internal/bytealg.CountString", "internal/bytealg.IndexByteString", "internal/bytealg.IndexString"], unfollowed := true, recurses := true, named := ["unicode/utf8.first", "unicode/utf8.acceptRanges", "internal/bytealg.MaxLen"], plainKeys := false, apart := false, laid := [("unicode/utf8.acceptRanges", laid_unicode_utf8_acceptRanges), ("unicode/utf8.first", laid_unicode_utf8_first)], narrowed := true }
def RoomMoreUptoSaid : Prop := roomMoreUptoRow.holds Tryz.pinned (OpenSpec.upto roomMoreSpec)

/-- 'graftwoodlaw14.RoomOf', WHERE WHAT IT READS IS OF BULK AT MOST 1048576: true; the input reads as it did. -/
def roomOfUptoRow : OpenClaim := { program := "ytohdmmafjpjmfaagreatdoor", sum := "4999951d6de0f16e44ae991b62ec06c41d5e59d032aeab119555f8ccbea114fd", func := "graftwood/graftwoodlaw14.RoomOf", spec := "roomOf", inPlace := ["internal/bytealg.CountString", "internal/bytealg.IndexByteString", "internal/bytealg.IndexString"], unfollowed := true, recurses := true, named := ["unicode/utf8.first", "unicode/utf8.acceptRanges", "internal/bytealg.MaxLen"], plainKeys := false, apart := false, laid := [("unicode/utf8.acceptRanges", laid_unicode_utf8_acceptRanges), ("unicode/utf8.first", laid_unicode_utf8_first)], narrowed := true }
def RoomOfUptoSaid : Prop := roomOfUptoRow.holds Tryz.pinned (OpenSpec.upto roomOfSpec)

/-- 'graftwoodlaw14.RoomBounds', WHERE WHAT IT READS IS OF BULK AT MOST 1048576: true; the input reads as it did. -/
def roomBoundsUptoRow : OpenClaim := { program := "ytohdmmafjpjmfaagreatdoor", sum := "4999951d6de0f16e44ae991b62ec06c41d5e59d032aeab119555f8ccbea114fd", func := "graftwood/graftwoodlaw14.RoomBounds", spec := "roomBounds", inPlace := ["internal/bytealg.CountString", "internal/bytealg.IndexByteString", "internal/bytealg.IndexString"], unfollowed := true, recurses := true, named := ["unicode/utf8.first", "unicode/utf8.acceptRanges", "internal/bytealg.MaxLen"], plainKeys := false, apart := false, laid := [("unicode/utf8.acceptRanges", laid_unicode_utf8_acceptRanges), ("unicode/utf8.first", laid_unicode_utf8_first)], narrowed := true }
def RoomBoundsUptoSaid : Prop := roomBoundsUptoRow.holds Tryz.pinned (OpenSpec.upto roomBoundsSpec)

/-- 'graftwoodlaw14.RoomTakes', WHERE WHAT IT READS IS OF BULK AT MOST 1048576: true; the input reads as it did. -/
def roomTakesUptoRow : OpenClaim := { program := "ytohdmmafjpjmfaagreatdoor", sum := "4999951d6de0f16e44ae991b62ec06c41d5e59d032aeab119555f8ccbea114fd", func := "graftwood/graftwoodlaw14.RoomTakes", spec := "roomTakes", inPlace := ["internal/bytealg.CountString", "internal/bytealg.IndexByteString", "internal/bytealg.IndexString"], unfollowed := true, recurses := true, named := ["unicode/utf8.first", "unicode/utf8.acceptRanges", "internal/bytealg.MaxLen"], plainKeys := false, apart := false, laid := [("unicode/utf8.acceptRanges", laid_unicode_utf8_acceptRanges), ("unicode/utf8.first", laid_unicode_utf8_first)], narrowed := true }
def RoomTakesUptoSaid : Prop := roomTakesUptoRow.holds Tryz.pinned (OpenSpec.upto roomTakesSpec)

/-- 'graftwoodlaw14.RoomBack', WHERE WHAT IT READS IS OF BULK AT MOST 1048576: true; the input reads as it did. -/
def roomBackUptoRow : OpenClaim := { program := "ytohdmmafjpjmfaagreatdoor", sum := "4999951d6de0f16e44ae991b62ec06c41d5e59d032aeab119555f8ccbea114fd", func := "graftwood/graftwoodlaw14.RoomBack", spec := "roomBack", inPlace := ["internal/bytealg.CountString", "internal/bytealg.IndexByteString", "internal/bytealg.IndexString"], unfollowed := true, recurses := true, named := ["unicode/utf8.first", "unicode/utf8.acceptRanges", "internal/bytealg.MaxLen"], plainKeys := false, apart := false, laid := [("unicode/utf8.acceptRanges", laid_unicode_utf8_acceptRanges), ("unicode/utf8.first", laid_unicode_utf8_first)], narrowed := true }
def RoomBackUptoSaid : Prop := roomBackUptoRow.holds Tryz.pinned (OpenSpec.upto roomBackSpec)

end Rows
end Go.Proofs.YtohdmmafjpjmfaaGreatDoor
