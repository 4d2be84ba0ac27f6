/- DiffBoth: the given row and its tied card DiffBothCardSaid are proved: the law answers true at every argument that the row admits. No further condition. Written by my program. AUTOMERGED imports. -/
import Derived.Test.YtcfphieogalnbaaDoorMDiffBoth0
import Derived.Test.YtcfphieogalnbaaDoorMDiffBoth1
import Derived.Test.YtcfphieogalnbaaDoorMDiffBoth2
import Derived.Test.YtcfphieogalnbaaDoorMDiffBoth3
import Derived.Test.YtcfphieogalnbaaDoorMDiffBoth4
import Derived.Test.YtcfphieogalnbaaDoorMDiffBoth5
import Derived.Test.YtcfphieogalnbaaDoorMDiffBoth6
import Derived.Test.YtcfphieogalnbaaDoorRows
import Derived.Test.YtcfphieogalnbaaDoorCards
import Derived.Test.YtcfphieogalnbaaDoorTie
import Derived.WalkKit
import Derived.ProofKit
import Derived.OpenShut
import Derived.ShutString
import Derived.ChangeOld
import Derived.Below
import Derived.SizedLaws
import Derived.LaidMore
import Derived.Lay
import Derived.SevenTiedAt
import Derived.Stop.Joined
import Derived.Lib.SmallJoins
import Derived.Carry
namespace Go.Proofs.YtcfphieogalnbaaDoor.diffBoth
open Go.ChangeShapes Go.WideShapes Go.ChangeAt Go.RowKit
open Go.ChangeMaps (open_string shut_string)
set_option linter.unusedVariables false
set_option maxRecDepth 100000
theorem own : ownKnob Tryd.prog.godebug = none := by kernel_rfl
theorem laid : laidOutB Tryd.prog = true := by kernel_rfl
open Go.Proofs.YtcfphieogalnbaaDoor.Q Go.Proofs.YtcfphieogalnbaaDoorW.PrintWords
instance : Inhabited S32 := ⟨z32⟩
theorem opens_edits : Opens Tryd.prog 24 (Kd.slice 32 k32) (goodL (fun x : S32 => (fun y => (fun x : S30 => (fun y => (fun s : ByteArray => s.size ≤ maxLen) y.1 ∧ (fun s : ByteArray => s.size ≤ maxLen) y.2) (x.f0, x.f1)) y.1 ∧ (fun n : Int => (Lit.int .i64 n).wf = true) y.2) (x.f0, x.f1))) := (opens_slice Tryd.underlying24 (by kernel_rfl) (opens_struct (fun x : S32 => (x.f0, x.f1)) (fun y => ⟨y.1, y.2⟩) (fun _ => rfl) Tryd.underlying32 (by kernel_rfl) (opensF_cons rfl (by kernel_rfl) (opens_struct (fun x : S30 => (x.f0, x.f1)) (fun y => ⟨y.1, y.2⟩) (fun _ => rfl) Tryd.underlying30 (by kernel_rfl) (opensF_cons rfl (by kernel_rfl) (opens_string Tryd.underlying9) (opensF_one rfl (by kernel_rfl) (opens_string Tryd.underlying9)) (by intro g hg; simp at hg; first | (subst hg; decide) | (rcases hg with rfl | rfl <;> decide)))) (opensF_one rfl (by kernel_rfl) (opens_int Tryd.underlying3)) (by intro g hg; simp at hg; first | (subst hg; decide) | (rcases hg with rfl | rfl <;> decide)))))
set_option maxRecDepth 100000 in
theorem lifted (os : Os) (started : os.Started) (H : Type) (enc : TypeId × Value → H) :
    ReturnsInHanded {} Tryd.checked os 4 .any (fun w args => (Rows.diffBothSpec.pre enc Tryd.prog Tryd.f4 Rows.diffBothRow.domain false w args ∧ laidMetH Tryd.prog Rows.diffBothRow.laid w) ∧ sizedMet enc Tryd.prog Tryd.f4 (OpenSpec.ofChange Rows.diffBothSpec) false w args)
      (Rows.diffBothSpec.post enc Tryd.prog Tryd.f4 false true false false) := by
  refine returnsInHanded_of_change_and (C := Tryd.checked) (X := fun w _ => laidMetH Tryd.prog Rows.diffBothRow.laid w) (fun _ _ _ hh h => h.of_heap hh) own started (by kernel_rfl) Tryd.func4
    (ChangeSpec.witness_shaped (enc := enc) (C := Tryd.checked) (os := os) (X := fun w _ => laidMetH Tryd.prog Rows.diffBothRow.laid w) false (World.laidAll Tryd.prog os Rows.diffBothRow.laid) #[.slice none 0 0, .slice none 0 0] 8 (World.laidAll_os _ _ _)
      (World.shaped_of_ZipB (by kernel_rfl) (by kernel_rfl)) (by kernel_rfl) (by kernel_rfl) (by kernel_rfl)
      (by rw [MakeChecks.laidMetH_plain _ _ _ (by kernel_rfl)]; exact laidMet_laidAll _ (by kernel_rfl) (by kernel_rfl))) ?_
  intro W base args ds gs before hval0 hW hc _ hL _
  have hval : ∀ (j : Nat) t v, Tryd.f4.params[j]? = some t → args[j]? = some v → Value.okWide Tryd.prog W .any base t v := hval0
  have hW' := hW
  obtain ⟨p, q, hA0, hV, rfl, hfz, hnd⟩ := hW
  have hA : DataW.TrodAll enc Tryd.prog W 0 (fun _ => true) true Tryd.f4.params.toList args.toList ds p := hA0
  rw [Tryd.params4] at hA hval
  obtain ⟨v0, vs0, d0, ds0, p0, q0, hargs, rfl, rfl, h0, r0⟩ := trodAll_cons hA
  obtain ⟨v1, vs1, d1, ds1, p1, q1, rfl, rfl, rfl, h1, r1⟩ := trodAll_cons r0
  obtain ⟨rfl, rfl, rfl⟩ := trodAll_nil r1
  obtain rfl : args = #[v0, v1] := by cases args; simp_all
  obtain ⟨rfl, rfl⟩ := trodVars_none hV
  obtain ⟨A0, a0, c0, rfl, lc0, C0, g0⟩ := open_list Tryd.underlying24 opens_edits (hval 0 24 v0 rfl rfl) h0
  obtain ⟨A1, a1, c1, rfl, lc1, C1, g1⟩ := open_list Tryd.underlying24 opens_edits (hval 1 24 v1 rfl rfl) h1
  clear hA0 hval0
  refine (Go.Proofs.YtcfphieogalnbaaDoor.Q.dboth_calls A0 c0 a0 A1 c1 a1 W ⟨lc0, C0⟩ ⟨lc1, C1⟩).mono fun e W' ⟨he, bel⟩ => ?_
  subst he
  exact ⟨_, rfl, _, _, _, [], _, [], hW', trodAll_mk1 (shut_bool Tryd.underlying4 _), (trodAll_cons_mk (Below.trod laid (by kernel_rfl) (of_decide_eq_true (by kernel_rfl)) h0 bel (fun x hx => by simpa using hW'.lt x (by simp [hx]))) (trodAll_cons_mk (Below.trod laid (by kernel_rfl) (of_decide_eq_true (by kernel_rfl)) h1 bel (fun x hx => by simpa using hW'.lt x (by simp [hx]))) trodAll_mk0)), rfl, bel.frame _, fun h => by cases h⟩
theorem over : Rows.diffBothRow.holds Tryd.pinned (OpenSpec.ofChange Rows.diffBothSpec) :=
  OpenClaim.holds_of_wide 4 Tryd.f4 rfl rfl rfl rfl rfl rfl rfl ⟨rfl, rfl, rfl, rfl, rfl⟩ rfl rfl rfl rfl rfl (by kernel_rfl) Tryd.func4 (by kernel_rfl)
    (of_decide_eq_true (by kernel_rfl)) (by unfold Func.isWrapper; first | (rw [if_pos (by decide +kernel)]; kernel_rfl) | (rw [if_neg (by decide +kernel)]; exact ⟨rfl, rfl⟩))
    (fun os started H enc _ => lifted os started H enc)
theorem card_holds : Rows.DiffBothCardSaid :=
  Claim7.holds_tied_plain_at .later [] [.data, .pinned] true (true, "401798dc66044f26a28e178babd0f116b21ae0d0f925ded20a0f7471a30a9297") false
    over (fun _ h => by cases h) (by kernel_rfl) (fun _ h => by cases h) diffBoth_row_tie rfl ⟨rfl, rfl⟩ (by kernel_rfl) rfl
    (fun f fn hf hfn => by
      obtain rfl : f = 4 := Option.some.inj ((show Tryd.prog.funcNamed "graftwood/graftwoodlaw13.DiffBoth" = some 4 by kernel_rfl).symm.trans hf) |>.symm
      obtain rfl : fn = Tryd.f4 := (Option.some.inj (Tryd.func4.symm.trans hfn)).symm
      exact ⟨by kernel_rfl, fun j t ht => by
        rw [Tryd.params4] at ht
        have hm : t ∈ [24, 24] := by simpa using Array.mem_of_getElem? ht
        have hall : ([24, 24].all fun u => !Tryd.prog.wantsStandIn u) = true := by kernel_rfl
        exact (show Tryd.prog.wantsStandIn t = false by simpa using List.all_eq_true.1 hall t hm)⟩)
    (by kernel_rfl)
#print axioms card_holds
end Go.Proofs.YtcfphieogalnbaaDoor.diffBoth
namespace Go.Proofs.YtcfphieogalnbaaDoor
/-- The card, under a short name, for the claim. -/
theorem diffBoth_holds : Rows.DiffBothCardSaid := diffBoth.card_holds
end Go.Proofs.YtcfphieogalnbaaDoor
