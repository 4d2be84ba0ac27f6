/-
  NARROWER THAN 'FOR EVERY INPUT', by the rows' own cells (each row's printed sentence says how): NodeOrder: laid · NodePaths: laid · NodeTells: laid · NodeUnions: laid · NodeStays: laid.
  DERIVED. THE GIVEN ROWS OF THIS SEAT. 5 by the template 'for every input the law returns true; each argument reads behind the call as it read before'; 0 by the template 'total and deterministic' (their statements: YtnknjhdpjjddeaaDoorTotals.lean).
  GIVEN WITH THE SEED: the statements are not yours to turn. If you find one false, say at which input.
  Laid BY PROGRAM, IN A SANDBOX (cutbox-rows.mjs): the forced cells as the released guide's own fill.sh prints them over the translation 816575ee3122f1e7… (all of the seat's roots in one cut). By AI agents, Wed Nov 11 2026. No macro, syntax, notation, axiom, sorry.
-/
import Derived.Test.YtnknjhdpjjddeaaDoorChecked
import GoSem.PinnedTables
import GoSem.Claim
import GoSem.ClaimJoined
import GoSem.ClaimMapViews
import Derived.JoinedTies
import Derived.KernelRfl
namespace Go.Proofs.YtnknjhdpjjddeaaDoor
/- THE CELL 'sum', in the pinned program and in every row, IS THE sha256 OF THE DUMP (.gsa) THAT YtnknjhdpjjddeaaDoorProg.lean LOADS. Nothing in Lean hashes anything: it is a label: what it is worth is what the hold of that sum in a sandbox is worth. -/
noncomputable def Tryd.pinned : Pinned := { name := "ytnknjhdpjjddeaadoor", sum := "816575ee3122f1e723627696bbeceaf86bf99baab54b13c8893297cdb5550fef", checked := Tryd.checked }
namespace Rows
def none {H : Type} : Left H := { results := [], args := [] }

/- WHAT THE LISTED PACKAGE-LEVEL VARIABLES READ AS WHEN THE CALL BEGINS. Each datum BY PROGRAM (the guide's laid-datum.mjs) off the statement by which the dump's own 'gosem.cut.vars' lays the variable. In a bare row this is a premise. The card (YtnknjhdpjjddeaaDoorCards.lean) ties it to the program's text. -/
def laid_unicode_utf8_acceptRanges {H : Type} : DataW H := .agg [.agg [.lit (.int .u8 128), .lit (.int .u8 191)], .agg [.lit (.int .u8 160), .lit (.int .u8 191)], .agg [.lit (.int .u8 128), .lit (.int .u8 159)], .agg [.lit (.int .u8 144), .lit (.int .u8 191)], .agg [.lit (.int .u8 128), .lit (.int .u8 143)], .agg [.lit (.int .u8 0), .lit (.int .u8 0)], .agg [.lit (.int .u8 0), .lit (.int .u8 0)], .agg [.lit (.int .u8 0), .lit (.int .u8 0)], .agg [.lit (.int .u8 0), .lit (.int .u8 0)], .agg [.lit (.int .u8 0), .lit (.int .u8 0)], .agg [.lit (.int .u8 0), .lit (.int .u8 0)], .agg [.lit (.int .u8 0), .lit (.int .u8 0)], .agg [.lit (.int .u8 0), .lit (.int .u8 0)], .agg [.lit (.int .u8 0), .lit (.int .u8 0)], .agg [.lit (.int .u8 0), .lit (.int .u8 0)], .agg [.lit (.int .u8 0), .lit (.int .u8 0)]]
/-- One of Go's own tables, pinned by name: the form's constant. -/
def laid_unicode_utf8_first : DataW Unit := Go.Pinned.utf8First

/-- 'graftwoodlaw05.NodeOrder': WHATEVER THE INPUT: true; the input reads as it did. -/
def nodeOrderSpec : ChangeSpec := { name := "nodeOrder", fn := fun _ => fun
  | [d1, d2, d3] => { results := [.lit (.bool true)], args := [d1, d2, d3] }
  | _ => none }
def nodeOrderRow : OpenClaim := { program := "ytnknjhdpjjddeaadoor", sum := "816575ee3122f1e723627696bbeceaf86bf99baab54b13c8893297cdb5550fef", func := "graftwood/graftwoodlaw05.NodeOrder", spec := "nodeOrder", inPlace := ["internal/bytealg.CountString", "internal/bytealg.IndexByteString", "internal/bytealg.IndexString"], unfollowed := true, recurses := true, named := ["unicode/utf8.first", "unicode/utf8.acceptRanges", "internal/bytealg.MaxLen"], plainKeys := false, apart := false, laid := [("unicode/utf8.acceptRanges", laid_unicode_utf8_acceptRanges), ("unicode/utf8.first", laid_unicode_utf8_first)] }
def NodeOrderSaid : Prop := nodeOrderRow.holds Tryd.pinned (OpenSpec.ofChange nodeOrderSpec)

/-- ITS FALSE NEIGHBOUR: 'it returns false'. Refute it at one input. -/
def nodeOrderWrong : ChangeSpec := { name := "nodeOrder", fn := fun _ => fun
  | [d1, d2, d3] => { results := [.lit (.bool false)], args := [d1, d2, d3] }
  | _ => none }
def NodeOrderWrongFalsely : Prop := nodeOrderRow.holds Tryd.pinned (OpenSpec.ofChange nodeOrderWrong)

/-- 'graftwoodlaw05.NodePaths': WHATEVER THE INPUT: true; the input reads as it did. -/
def nodePathsSpec : ChangeSpec := { name := "nodePaths", fn := fun _ => fun
  | [d1, d2] => { results := [.lit (.bool true)], args := [d1, d2] }
  | _ => none }
def nodePathsRow : OpenClaim := { program := "ytnknjhdpjjddeaadoor", sum := "816575ee3122f1e723627696bbeceaf86bf99baab54b13c8893297cdb5550fef", func := "graftwood/graftwoodlaw05.NodePaths", spec := "nodePaths", inPlace := ["internal/bytealg.CountString", "internal/bytealg.IndexByteString", "internal/bytealg.IndexString"], unfollowed := true, recurses := true, named := ["unicode/utf8.first", "unicode/utf8.acceptRanges", "internal/bytealg.MaxLen"], plainKeys := false, apart := false, laid := [("unicode/utf8.acceptRanges", laid_unicode_utf8_acceptRanges), ("unicode/utf8.first", laid_unicode_utf8_first)] }
def NodePathsSaid : Prop := nodePathsRow.holds Tryd.pinned (OpenSpec.ofChange nodePathsSpec)

/-- ITS FALSE NEIGHBOUR: 'it returns false'. Refute it at one input. -/
def nodePathsWrong : ChangeSpec := { name := "nodePaths", fn := fun _ => fun
  | [d1, d2] => { results := [.lit (.bool false)], args := [d1, d2] }
  | _ => none }
def NodePathsWrongFalsely : Prop := nodePathsRow.holds Tryd.pinned (OpenSpec.ofChange nodePathsWrong)

/-- 'graftwoodlaw05.NodeTells': WHATEVER THE INPUT: true; the input reads as it did. -/
def nodeTellsSpec : ChangeSpec := { name := "nodeTells", fn := fun _ => fun
  | [d1, d2, d3] => { results := [.lit (.bool true)], args := [d1, d2, d3] }
  | _ => none }
def nodeTellsRow : OpenClaim := { program := "ytnknjhdpjjddeaadoor", sum := "816575ee3122f1e723627696bbeceaf86bf99baab54b13c8893297cdb5550fef", func := "graftwood/graftwoodlaw05.NodeTells", spec := "nodeTells", inPlace := ["internal/bytealg.CountString", "internal/bytealg.IndexByteString", "internal/bytealg.IndexString"], unfollowed := true, recurses := true, named := ["unicode/utf8.first", "unicode/utf8.acceptRanges", "internal/bytealg.MaxLen"], plainKeys := false, apart := false, laid := [("unicode/utf8.acceptRanges", laid_unicode_utf8_acceptRanges), ("unicode/utf8.first", laid_unicode_utf8_first)] }
def NodeTellsSaid : Prop := nodeTellsRow.holds Tryd.pinned (OpenSpec.ofChange nodeTellsSpec)

/-- ITS FALSE NEIGHBOUR: 'it returns false'. Refute it at one input. -/
def nodeTellsWrong : ChangeSpec := { name := "nodeTells", fn := fun _ => fun
  | [d1, d2, d3] => { results := [.lit (.bool false)], args := [d1, d2, d3] }
  | _ => none }
def NodeTellsWrongFalsely : Prop := nodeTellsRow.holds Tryd.pinned (OpenSpec.ofChange nodeTellsWrong)

/-- 'graftwoodlaw05.NodeUnions': WHATEVER THE INPUT: true; the input reads as it did. -/
def nodeUnionsSpec : ChangeSpec := { name := "nodeUnions", fn := fun _ => fun
  | [d1, d2, d3] => { results := [.lit (.bool true)], args := [d1, d2, d3] }
  | _ => none }
def nodeUnionsRow : OpenClaim := { program := "ytnknjhdpjjddeaadoor", sum := "816575ee3122f1e723627696bbeceaf86bf99baab54b13c8893297cdb5550fef", func := "graftwood/graftwoodlaw05.NodeUnions", spec := "nodeUnions", inPlace := ["internal/bytealg.CountString", "internal/bytealg.IndexByteString", "internal/bytealg.IndexString"], unfollowed := true, recurses := true, named := ["unicode/utf8.first", "unicode/utf8.acceptRanges", "internal/bytealg.MaxLen"], plainKeys := false, apart := false, laid := [("unicode/utf8.acceptRanges", laid_unicode_utf8_acceptRanges), ("unicode/utf8.first", laid_unicode_utf8_first)] }
def NodeUnionsSaid : Prop := nodeUnionsRow.holds Tryd.pinned (OpenSpec.ofChange nodeUnionsSpec)

/-- ITS FALSE NEIGHBOUR: 'it returns false'. Refute it at one input. -/
def nodeUnionsWrong : ChangeSpec := { name := "nodeUnions", fn := fun _ => fun
  | [d1, d2, d3] => { results := [.lit (.bool false)], args := [d1, d2, d3] }
  | _ => none }
def NodeUnionsWrongFalsely : Prop := nodeUnionsRow.holds Tryd.pinned (OpenSpec.ofChange nodeUnionsWrong)

/-- 'graftwoodlaw05.NodeStays': WHATEVER THE INPUT: true; the input reads as it did. -/
def nodeStaysSpec : ChangeSpec := { name := "nodeStays", fn := fun _ => fun
  | [d1, d2] => { results := [.lit (.bool true)], args := [d1, d2] }
  | _ => none }
def nodeStaysRow : OpenClaim := { program := "ytnknjhdpjjddeaadoor", sum := "816575ee3122f1e723627696bbeceaf86bf99baab54b13c8893297cdb5550fef", func := "graftwood/graftwoodlaw05.NodeStays", spec := "nodeStays", inPlace := ["internal/bytealg.CountString", "internal/bytealg.IndexByteString", "internal/bytealg.IndexString"], unfollowed := true, recurses := true, named := ["unicode/utf8.first", "unicode/utf8.acceptRanges", "internal/bytealg.MaxLen"], plainKeys := false, apart := false, laid := [("unicode/utf8.acceptRanges", laid_unicode_utf8_acceptRanges), ("unicode/utf8.first", laid_unicode_utf8_first)] }
def NodeStaysSaid : Prop := nodeStaysRow.holds Tryd.pinned (OpenSpec.ofChange nodeStaysSpec)

/-- ITS FALSE NEIGHBOUR: 'it returns false'. Refute it at one input. -/
def nodeStaysWrong : ChangeSpec := { name := "nodeStays", fn := fun _ => fun
  | [d1, d2] => { results := [.lit (.bool false)], args := [d1, d2] }
  | _ => none }
def NodeStaysWrongFalsely : Prop := nodeStaysRow.holds Tryd.pinned (OpenSpec.ofChange nodeStaysWrong)

/- THE SECOND FORM. 'bulk': how many values and letters a reading holds, each counted each time it is reached (what is shared counts as often as it is met; a slice's spare places count too). A statement '..UptoSaid' is the law's where the arguments, and the package variables that the reading takes, are together of bulk at most 1048576: NARROWER than '..Said'. Prove '..Said' where nothing that the law and all that it calls make is longer than what came in: it says more and counts as full. Else prove '..UptoSaid'. A law counts once. -/
mutual
def uptoBulk {H : Type} : DataW H → Nat
  | .lit (.string bytes) => bytes.length + 1
  | .lit _ => 1
  | .nil => 1
  | .ptr d => uptoBulk d + 1
  | .slice elems spare => uptoBulkAll elems + uptoBulkAll spare + 1
  | .agg parts => uptoBulkAll parts + 1
  | .iface _ d => uptoBulk d + 1
  | .map entries => uptoBulkEntries entries + 1
  | .held _ => 1
def uptoBulkAll {H : Type} : List (DataW H) → Nat
  | [] => 0
  | d :: r => uptoBulk d + uptoBulkAll r
def uptoBulkEntries {H : Type} : List (Lit × DataW H) → Nat
  | [] => 0
  | x :: r => uptoBulkEntry x + uptoBulkEntries r
def uptoBulkEntry {H : Type} : Lit × DataW H → Nat
  | (.string bytes, d) => bytes.length + uptoBulk d + 1
  | (_, d) => uptoBulk d + 1
 end
def uptoSmall : (H : Type) → List (DataW H) → Bool := fun _ ds => decide (uptoBulkAll ds ≤ 1048576)
def OpenSpec.upto (s : _root_.Go.ChangeSpec) : _root_.Go.OpenSpec := { _root_.Go.OpenSpec.ofChange s with cond := some uptoSmall }

/-- 'graftwoodlaw05.NodeOrder', WHERE WHAT IT READS IS OF BULK AT MOST 1048576: true; the input reads as it did. -/
def nodeOrderUptoRow : OpenClaim := { program := "ytnknjhdpjjddeaadoor", sum := "816575ee3122f1e723627696bbeceaf86bf99baab54b13c8893297cdb5550fef", func := "graftwood/graftwoodlaw05.NodeOrder", spec := "nodeOrder", inPlace := ["internal/bytealg.CountString", "internal/bytealg.IndexByteString", "internal/bytealg.IndexString"], unfollowed := true, recurses := true, named := ["unicode/utf8.first", "unicode/utf8.acceptRanges", "internal/bytealg.MaxLen"], plainKeys := false, apart := false, laid := [("unicode/utf8.acceptRanges", laid_unicode_utf8_acceptRanges), ("unicode/utf8.first", laid_unicode_utf8_first)], narrowed := true }
def NodeOrderUptoSaid : Prop := nodeOrderUptoRow.holds Tryd.pinned (OpenSpec.upto nodeOrderSpec)

/-- 'graftwoodlaw05.NodePaths', WHERE WHAT IT READS IS OF BULK AT MOST 1048576: true; the input reads as it did. -/
def nodePathsUptoRow : OpenClaim := { program := "ytnknjhdpjjddeaadoor", sum := "816575ee3122f1e723627696bbeceaf86bf99baab54b13c8893297cdb5550fef", func := "graftwood/graftwoodlaw05.NodePaths", spec := "nodePaths", inPlace := ["internal/bytealg.CountString", "internal/bytealg.IndexByteString", "internal/bytealg.IndexString"], unfollowed := true, recurses := true, named := ["unicode/utf8.first", "unicode/utf8.acceptRanges", "internal/bytealg.MaxLen"], plainKeys := false, apart := false, laid := [("unicode/utf8.acceptRanges", laid_unicode_utf8_acceptRanges), ("unicode/utf8.first", laid_unicode_utf8_first)], narrowed := true }
def NodePathsUptoSaid : Prop := nodePathsUptoRow.holds Tryd.pinned (OpenSpec.upto nodePathsSpec)

/-- 'graftwoodlaw05.NodeTells', WHERE WHAT IT READS IS OF BULK AT MOST 1048576: true; the input reads as it did. -/
def nodeTellsUptoRow : OpenClaim := { program := "ytnknjhdpjjddeaadoor", sum := "816575ee3122f1e723627696bbeceaf86bf99baab54b13c8893297cdb5550fef", func := "graftwood/graftwoodlaw05.NodeTells", spec := "nodeTells", inPlace := ["internal/bytealg.CountString", "internal/bytealg.IndexByteString", "internal/bytealg.IndexString"], unfollowed := true, recurses := true, named := ["unicode/utf8.first", "unicode/utf8.acceptRanges", "internal/bytealg.MaxLen"], plainKeys := false, apart := false, laid := [("unicode/utf8.acceptRanges", laid_unicode_utf8_acceptRanges), ("unicode/utf8.first", laid_unicode_utf8_first)], narrowed := true }
def NodeTellsUptoSaid : Prop := nodeTellsUptoRow.holds Tryd.pinned (OpenSpec.upto nodeTellsSpec)

/-- 'graftwoodlaw05.NodeUnions', WHERE WHAT IT READS IS OF BULK AT MOST 1048576: true; the input reads as it did. -/
def nodeUnionsUptoRow : OpenClaim := { program := "ytnknjhdpjjddeaadoor", sum := "816575ee3122f1e723627696bbeceaf86bf99baab54b13c8893297cdb5550fef", func := "graftwood/graftwoodlaw05.NodeUnions", spec := "nodeUnions", inPlace := ["internal/bytealg.CountString", "internal/bytealg.IndexByteString", "internal/bytealg.IndexString"], unfollowed := true, recurses := true, named := ["unicode/utf8.first", "unicode/utf8.acceptRanges", "internal/bytealg.MaxLen"], plainKeys := false, apart := false, laid := [("unicode/utf8.acceptRanges", laid_unicode_utf8_acceptRanges), ("unicode/utf8.first", laid_unicode_utf8_first)], narrowed := true }
def NodeUnionsUptoSaid : Prop := nodeUnionsUptoRow.holds Tryd.pinned (OpenSpec.upto nodeUnionsSpec)

/-- 'graftwoodlaw05.NodeStays', WHERE WHAT IT READS IS OF BULK AT MOST 1048576: true; the input reads as it did. -/
def nodeStaysUptoRow : OpenClaim := { program := "ytnknjhdpjjddeaadoor", sum := "816575ee3122f1e723627696bbeceaf86bf99baab54b13c8893297cdb5550fef", func := "graftwood/graftwoodlaw05.NodeStays", spec := "nodeStays", inPlace := ["internal/bytealg.CountString", "internal/bytealg.IndexByteString", "internal/bytealg.IndexString"], unfollowed := true, recurses := true, named := ["unicode/utf8.first", "unicode/utf8.acceptRanges", "internal/bytealg.MaxLen"], plainKeys := false, apart := false, laid := [("unicode/utf8.acceptRanges", laid_unicode_utf8_acceptRanges), ("unicode/utf8.first", laid_unicode_utf8_first)], narrowed := true }
def NodeStaysUptoSaid : Prop := nodeStaysUptoRow.holds Tryd.pinned (OpenSpec.upto nodeStaysSpec)

end Rows
end Go.Proofs.YtnknjhdpjjddeaaDoor
