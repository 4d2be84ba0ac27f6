/-
  No cell of these rows narrows 'for every input' (looked for: loops, veiled, ifaces, maps, wideKeys, modest, calm, conditions, laid).
  DERIVED. THE GIVEN ROWS OF THIS SEAT. 6 by the template 'for every input the law returns true; each argument reads behind the call as it read before'; 0 by the template 'total and deterministic' (their statements: YtbkcjgjcnnggbaaTotals.lean).
  GIVEN WITH THE SEED: the statements are not yours to turn. If you find one false, say at which input.
  Laid BY PROGRAM, IN A SANDBOX (cutbox-rows.mjs): the forced cells as the released guide's own fill.sh prints them over the translation db0a8a1774b62209… (all of the seat's roots in one cut). By AI agents, Wed Nov 11 2026. No macro, syntax, notation, axiom, sorry.
-/
import Derived.Test.YtbkcjgjcnnggbaaChecked
import GoSem.Claim
import GoSem.ClaimJoined
import GoSem.ClaimMapViews
import Derived.JoinedTies
import Derived.KernelRfl
namespace Go.Proofs.Ytbkcjgjcnnggbaa
/- THE CELL 'sum', in the pinned program and in every row, IS THE sha256 OF THE DUMP (.gsa) THAT YtbkcjgjcnnggbaaProg.lean LOADS. Nothing in Lean hashes anything: it is a label: what it is worth is what the hold of that sum in a sandbox is worth. -/
noncomputable def Try.pinned : Pinned := { name := "ytbkcjgjcnnggbaa", sum := "db0a8a1774b62209c1a4256ccff04c39248e6f8a5f5b88a33f14084b9976a2a2", checked := Try.checked }
namespace Rows
def none {H : Type} : Left H := { results := [], args := [] }

/-- 'graftwoodlaw06.WordTells': WHATEVER THE INPUT: true; the input reads as it did. -/
def wordTellsSpec : ChangeSpec := { name := "wordTells", fn := fun _ => fun
  | [d1, d2] => { results := [.lit (.bool true)], args := [d1, d2] }
  | _ => none }
def wordTellsRow : OpenClaim := { program := "ytbkcjgjcnnggbaa", sum := "db0a8a1774b62209c1a4256ccff04c39248e6f8a5f5b88a33f14084b9976a2a2", func := "graftwood/graftwoodlaw06.WordTells", spec := "wordTells", inPlace := ["internal/bytealg.IndexByteString"], unfollowed := true, recurses := true, apart := false }
def WordTellsSaid : Prop := wordTellsRow.holds Try.pinned (OpenSpec.ofChange wordTellsSpec)

/-- ITS FALSE NEIGHBOUR: 'it returns false'. Refute it at one input. -/
def wordTellsWrong : ChangeSpec := { name := "wordTells", fn := fun _ => fun
  | [d1, d2] => { results := [.lit (.bool false)], args := [d1, d2] }
  | _ => none }
def WordTellsWrongFalsely : Prop := wordTellsRow.holds Try.pinned (OpenSpec.ofChange wordTellsWrong)

/-- 'graftwoodlaw06.WordLives': WHATEVER THE INPUT: true; the input reads as it did. -/
def wordLivesSpec : ChangeSpec := { name := "wordLives", fn := fun _ => fun
  | [d1, d2, d3] => { results := [.lit (.bool true)], args := [d1, d2, d3] }
  | _ => none }
def wordLivesRow : OpenClaim := { program := "ytbkcjgjcnnggbaa", sum := "db0a8a1774b62209c1a4256ccff04c39248e6f8a5f5b88a33f14084b9976a2a2", func := "graftwood/graftwoodlaw06.WordLives", spec := "wordLives", inPlace := ["internal/bytealg.IndexByteString"], unfollowed := true, recurses := true, apart := false }
def WordLivesSaid : Prop := wordLivesRow.holds Try.pinned (OpenSpec.ofChange wordLivesSpec)

/-- ITS FALSE NEIGHBOUR: 'it returns false'. Refute it at one input. -/
def wordLivesWrong : ChangeSpec := { name := "wordLives", fn := fun _ => fun
  | [d1, d2, d3] => { results := [.lit (.bool false)], args := [d1, d2, d3] }
  | _ => none }
def WordLivesWrongFalsely : Prop := wordLivesRow.holds Try.pinned (OpenSpec.ofChange wordLivesWrong)

/-- 'graftwoodlaw06.WordKinds': WHATEVER THE INPUT: true; the input reads as it did. -/
def wordKindsSpec : ChangeSpec := { name := "wordKinds", fn := fun _ => fun
  | [d] => { results := [.lit (.bool true)], args := [d] }
  | _ => none }
def wordKindsRow : OpenClaim := { program := "ytbkcjgjcnnggbaa", sum := "db0a8a1774b62209c1a4256ccff04c39248e6f8a5f5b88a33f14084b9976a2a2", func := "graftwood/graftwoodlaw06.WordKinds", spec := "wordKinds", inPlace := ["internal/bytealg.IndexByteString"], unfollowed := true, recurses := true, apart := false }
def WordKindsSaid : Prop := wordKindsRow.holds Try.pinned (OpenSpec.ofChange wordKindsSpec)

/-- ITS FALSE NEIGHBOUR: 'it returns false'. Refute it at one input. -/
def wordKindsWrong : ChangeSpec := { name := "wordKinds", fn := fun _ => fun
  | [d] => { results := [.lit (.bool false)], args := [d] }
  | _ => none }
def WordKindsWrongFalsely : Prop := wordKindsRow.holds Try.pinned (OpenSpec.ofChange wordKindsWrong)

/-- 'graftwoodlaw06.WordSteps': WHATEVER THE INPUT: true; the input reads as it did. -/
def wordStepsSpec : ChangeSpec := { name := "wordSteps", fn := fun _ => fun
  | [d1, d2] => { results := [.lit (.bool true)], args := [d1, d2] }
  | _ => none }
def wordStepsRow : OpenClaim := { program := "ytbkcjgjcnnggbaa", sum := "db0a8a1774b62209c1a4256ccff04c39248e6f8a5f5b88a33f14084b9976a2a2", func := "graftwood/graftwoodlaw06.WordSteps", spec := "wordSteps", inPlace := ["internal/bytealg.IndexByteString"], unfollowed := true, recurses := true, apart := false }
def WordStepsSaid : Prop := wordStepsRow.holds Try.pinned (OpenSpec.ofChange wordStepsSpec)

/-- ITS FALSE NEIGHBOUR: 'it returns false'. Refute it at one input. -/
def wordStepsWrong : ChangeSpec := { name := "wordSteps", fn := fun _ => fun
  | [d1, d2] => { results := [.lit (.bool false)], args := [d1, d2] }
  | _ => none }
def WordStepsWrongFalsely : Prop := wordStepsRow.holds Try.pinned (OpenSpec.ofChange wordStepsWrong)

/-- 'graftwoodlaw06.WordNone': WHATEVER THE INPUT: true; the input reads as it did. -/
def wordNoneSpec : ChangeSpec := { name := "wordNone", fn := fun _ => fun
  | [d1, d2, d3] => { results := [.lit (.bool true)], args := [d1, d2, d3] }
  | _ => none }
def wordNoneRow : OpenClaim := { program := "ytbkcjgjcnnggbaa", sum := "db0a8a1774b62209c1a4256ccff04c39248e6f8a5f5b88a33f14084b9976a2a2", func := "graftwood/graftwoodlaw06.WordNone", spec := "wordNone", inPlace := ["internal/bytealg.IndexByteString"], unfollowed := true, recurses := true, apart := false }
def WordNoneSaid : Prop := wordNoneRow.holds Try.pinned (OpenSpec.ofChange wordNoneSpec)

/-- ITS FALSE NEIGHBOUR: 'it returns false'. Refute it at one input. -/
def wordNoneWrong : ChangeSpec := { name := "wordNone", fn := fun _ => fun
  | [d1, d2, d3] => { results := [.lit (.bool false)], args := [d1, d2, d3] }
  | _ => none }
def WordNoneWrongFalsely : Prop := wordNoneRow.holds Try.pinned (OpenSpec.ofChange wordNoneWrong)

/-- 'graftwoodlaw06.WordOnward': WHATEVER THE INPUT: true; the input reads as it did. -/
def wordOnwardSpec : ChangeSpec := { name := "wordOnward", fn := fun _ => fun
  | [d1, d2, d3] => { results := [.lit (.bool true)], args := [d1, d2, d3] }
  | _ => none }
def wordOnwardRow : OpenClaim := { program := "ytbkcjgjcnnggbaa", sum := "db0a8a1774b62209c1a4256ccff04c39248e6f8a5f5b88a33f14084b9976a2a2", func := "graftwood/graftwoodlaw06.WordOnward", spec := "wordOnward", inPlace := ["internal/bytealg.IndexByteString"], unfollowed := true, recurses := true, apart := false }
def WordOnwardSaid : Prop := wordOnwardRow.holds Try.pinned (OpenSpec.ofChange wordOnwardSpec)

/-- ITS FALSE NEIGHBOUR: 'it returns false'. Refute it at one input. -/
def wordOnwardWrong : ChangeSpec := { name := "wordOnward", fn := fun _ => fun
  | [d1, d2, d3] => { results := [.lit (.bool false)], args := [d1, d2, d3] }
  | _ => none }
def WordOnwardWrongFalsely : Prop := wordOnwardRow.holds Try.pinned (OpenSpec.ofChange wordOnwardWrong)

/- THE SECOND FORM. 'bulk': how many values and letters a reading holds, each counted each time it is reached (what is shared counts as often as it is met; a slice's spare places count too). A statement '..UptoSaid' is the law's where the arguments, and the package variables that the reading takes, are together of bulk at most 1048576: NARROWER than '..Said'. Prove '..Said' where nothing that the law and all that it calls make is longer than what came in: it says more and counts as full. Else prove '..UptoSaid'. A law counts once. -/
mutual
def uptoBulk {H : Type} : DataW H → Nat
  | .lit (.string bytes) => bytes.length + 1
  | .lit _ => 1
  | .nil => 1
  | .ptr d => uptoBulk d + 1
  | .slice elems spare => uptoBulkAll elems + uptoBulkAll spare + 1
  | .agg parts => uptoBulkAll parts + 1
  | .iface _ d => uptoBulk d + 1
  | .map entries => uptoBulkEntries entries + 1
  | .held _ => 1
def uptoBulkAll {H : Type} : List (DataW H) → Nat
  | [] => 0
  | d :: r => uptoBulk d + uptoBulkAll r
def uptoBulkEntries {H : Type} : List (Lit × DataW H) → Nat
  | [] => 0
  | x :: r => uptoBulkEntry x + uptoBulkEntries r
def uptoBulkEntry {H : Type} : Lit × DataW H → Nat
  | (.string bytes, d) => bytes.length + uptoBulk d + 1
  | (_, d) => uptoBulk d + 1
 end
def uptoSmall : (H : Type) → List (DataW H) → Bool := fun _ ds => decide (uptoBulkAll ds ≤ 1048576)
def OpenSpec.upto (s : _root_.Go.ChangeSpec) : _root_.Go.OpenSpec := { _root_.Go.OpenSpec.ofChange s with cond := some uptoSmall }

/-- 'graftwoodlaw06.WordTells', WHERE WHAT IT READS IS OF BULK AT MOST 1048576: true; the input reads as it did. -/
def wordTellsUptoRow : OpenClaim := { program := "ytbkcjgjcnnggbaa", sum := "db0a8a1774b62209c1a4256ccff04c39248e6f8a5f5b88a33f14084b9976a2a2", func := "graftwood/graftwoodlaw06.WordTells", spec := "wordTells", inPlace := ["internal/bytealg.IndexByteString"], unfollowed := true, recurses := true, apart := false, narrowed := true }
def WordTellsUptoSaid : Prop := wordTellsUptoRow.holds Try.pinned (OpenSpec.upto wordTellsSpec)

/-- 'graftwoodlaw06.WordLives', WHERE WHAT IT READS IS OF BULK AT MOST 1048576: true; the input reads as it did. -/
def wordLivesUptoRow : OpenClaim := { program := "ytbkcjgjcnnggbaa", sum := "db0a8a1774b62209c1a4256ccff04c39248e6f8a5f5b88a33f14084b9976a2a2", func := "graftwood/graftwoodlaw06.WordLives", spec := "wordLives", inPlace := ["internal/bytealg.IndexByteString"], unfollowed := true, recurses := true, apart := false, narrowed := true }
def WordLivesUptoSaid : Prop := wordLivesUptoRow.holds Try.pinned (OpenSpec.upto wordLivesSpec)

/-- 'graftwoodlaw06.WordKinds', WHERE WHAT IT READS IS OF BULK AT MOST 1048576: true; the input reads as it did. -/
def wordKindsUptoRow : OpenClaim := { program := "ytbkcjgjcnnggbaa", sum := "db0a8a1774b62209c1a4256ccff04c39248e6f8a5f5b88a33f14084b9976a2a2", func := "graftwood/graftwoodlaw06.WordKinds", spec := "wordKinds", inPlace := ["internal/bytealg.IndexByteString"], unfollowed := true, recurses := true, apart := false, narrowed := true }
def WordKindsUptoSaid : Prop := wordKindsUptoRow.holds Try.pinned (OpenSpec.upto wordKindsSpec)

/-- 'graftwoodlaw06.WordSteps', WHERE WHAT IT READS IS OF BULK AT MOST 1048576: true; the input reads as it did. -/
def wordStepsUptoRow : OpenClaim := { program := "ytbkcjgjcnnggbaa", sum := "db0a8a1774b62209c1a4256ccff04c39248e6f8a5f5b88a33f14084b9976a2a2", func := "graftwood/graftwoodlaw06.WordSteps", spec := "wordSteps", inPlace := ["internal/bytealg.IndexByteString"], unfollowed := true, recurses := true, apart := false, narrowed := true }
def WordStepsUptoSaid : Prop := wordStepsUptoRow.holds Try.pinned (OpenSpec.upto wordStepsSpec)

/-- 'graftwoodlaw06.WordNone', WHERE WHAT IT READS IS OF BULK AT MOST 1048576: true; the input reads as it did. -/
def wordNoneUptoRow : OpenClaim := { program := "ytbkcjgjcnnggbaa", sum := "db0a8a1774b62209c1a4256ccff04c39248e6f8a5f5b88a33f14084b9976a2a2", func := "graftwood/graftwoodlaw06.WordNone", spec := "wordNone", inPlace := ["internal/bytealg.IndexByteString"], unfollowed := true, recurses := true, apart := false, narrowed := true }
def WordNoneUptoSaid : Prop := wordNoneUptoRow.holds Try.pinned (OpenSpec.upto wordNoneSpec)

/-- 'graftwoodlaw06.WordOnward', WHERE WHAT IT READS IS OF BULK AT MOST 1048576: true; the input reads as it did. -/
def wordOnwardUptoRow : OpenClaim := { program := "ytbkcjgjcnnggbaa", sum := "db0a8a1774b62209c1a4256ccff04c39248e6f8a5f5b88a33f14084b9976a2a2", func := "graftwood/graftwoodlaw06.WordOnward", spec := "wordOnward", inPlace := ["internal/bytealg.IndexByteString"], unfollowed := true, recurses := true, apart := false, narrowed := true }
def WordOnwardUptoSaid : Prop := wordOnwardUptoRow.holds Try.pinned (OpenSpec.upto wordOnwardSpec)

end Rows
end Go.Proofs.Ytbkcjgjcnnggbaa
