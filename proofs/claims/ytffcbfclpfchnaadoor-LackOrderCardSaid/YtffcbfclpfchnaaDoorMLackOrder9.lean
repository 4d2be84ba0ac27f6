/- Part 9 of this claim: several texts one behind the other: Aw18. What each shows stands in its theorems; conditions: sizes of texts and lists, as the functions' definitions say. -/
import Derived.Test.YtffcbfclpfchnaaDoorMLackOrder8
import Derived.Test.YtffcbfclpfchnaaDoorMLackOrder7
import Derived.Test.YtffcbfclpfchnaaDoorMLackOrder6
import Derived.Test.YtffcbfclpfchnaaDoorMLackOrder5
section
namespace Go.Proofs.YtffcbfclpfchnaaDoor.Q
open Go.Proofs.YtffcbfclpfchnaaDoor.QB.D
open Go Go.RowKit Go.Lib Go.Proofs.YtffcbfclpfchnaaDoorW.PrintWords Go.Proofs.YtffcbfclpfchnaaDoorW.PrintLast Go.Proofs.YtffcbfclpfchnaaDoorW.PrintMore Gw
set_option linter.unusedVariables false
set_option linter.unusedSimpArgs false
def nW (c : UInt8) : S31 := ⟨⟨#[c]⟩, ⟨#[118, 49, 46, 48, 46, 48]⟩⟩
set_option maxRecDepth 100000 in
theorem awake18_val : graftwoodlaw18_awake.f = some true := by
  have b : ∀ c, Brief (nW c) := fun c => ⟨show (1 : Nat) ≤ 400 by decide, show (6 : Nat) ≤ 400 by decide⟩
  have bz : Brief z31 := by unfold Brief; decide +kernel
  have h1 := lackOf_val [nW 97, nW 98] [nW 98] [⟨nW 98, nW 97⟩, ⟨z31, nW 98⟩] (by decide) (by decide) (by decide) (fun x hx => by simp only [List.mem_cons, List.not_mem_nil, or_false] at hx; rcases hx with rfl | rfl <;> exact b _) (fun x hx => by simp only [List.mem_cons, List.not_mem_nil, or_false] at hx; subst hx; exact b _) (fun x hx => by
    simp only [List.mem_cons, List.not_mem_nil, or_false] at hx
    rcases hx with rfl | rfl
    · exact ⟨b _, b _⟩
    · exact ⟨bz, b _⟩)
  have h2 := missing_val [nW 97] [nW 97] (by decide) (by decide) (fun x hx => by simp only [List.mem_cons, List.not_mem_nil, or_false] at hx; subst hx; exact b _) (fun x hx => by simp only [List.mem_cons, List.not_mem_nil, or_false] at hx; subst hx; exact b _)
  have c1 : checkN [nW 97, nW 98] = true := by decide +kernel
  have c2 : checkN [nW 98] = true := by decide +kernel
  have c3 : okE [⟨nW 98, nW 97⟩, ⟨z31, nW 98⟩] = true := by decide +kernel
  have c4 : ofF [nW 97, nW 98] [nW 98] [⟨nW 98, nW 97⟩, ⟨z31, nW 98⟩] = [⟨nW 97, [nW 98], false⟩] := by
    have e1 : goneF [nW 97, nW 98] [nW 98] = [nW 97] := by decide +kernel
    have e2 : byF [⟨nW 98, nW 97⟩, ⟨z31, nW 98⟩] (nW 97) = [nW 98] := by decide +kernel
    have e3 : rootF [⟨nW 98, nW 97⟩, ⟨z31, nW 98⟩] (nW 97) = false := by decide +kernel
    unfold ofF lackOf
    rw [e1, List.map_cons, List.map_nil, e2, e3]
    rfl
  have c5 : checkN [nW 97] = true := by decide +kernel
  rw [if_pos ⟨c1, c2, c3⟩, c4] at h1
  rw [if_pos ⟨c5, c5⟩, goneF_self] at h2
  unfold graftwoodlaw18_awake.f
  unfold nW z31 at h1
  unfold nW at h2
  rw [h1, Option.bind_some, h2, Option.bind_some]
  simp [rd_T31, rd_T37, ByteArray.toList_eq]
end Go.Proofs.YtffcbfclpfchnaaDoor.Q
end
