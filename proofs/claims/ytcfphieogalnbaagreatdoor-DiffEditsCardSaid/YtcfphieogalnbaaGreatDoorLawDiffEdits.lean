/- DiffEdits: the given row and its tied card DiffEditsCardSaid are proved: the law answers true at every argument that the row admits. No further condition. Written by my program. AUTOMERGED imports. -/
import Derived.Test.YtcfphieogalnbaaGreatDoorMDiffEdits0
import Derived.Test.YtcfphieogalnbaaGreatDoorMDiffEdits1
import Derived.Test.YtcfphieogalnbaaGreatDoorMDiffEdits2
import Derived.Test.YtcfphieogalnbaaGreatDoorMDiffEdits3
import Derived.Test.YtcfphieogalnbaaGreatDoorMDiffEdits4
import Derived.Test.YtcfphieogalnbaaGreatDoorMDiffEdits5
import Derived.Test.YtcfphieogalnbaaGreatDoorMDiffEdits6
import Derived.Test.YtcfphieogalnbaaGreatDoorMDiffEdits7
import Derived.Test.YtcfphieogalnbaaGreatDoorMDiffEdits8
import Derived.Test.YtcfphieogalnbaaGreatDoorMDiffEdits9
import Derived.Test.YtcfphieogalnbaaGreatDoorMDiffEdits10
import Derived.Test.YtcfphieogalnbaaGreatDoorMDiffEdits11
import Derived.Test.YtcfphieogalnbaaGreatDoorRows
import Derived.Test.YtcfphieogalnbaaGreatDoorCards
import Derived.Test.YtcfphieogalnbaaGreatDoorTie
import Derived.WalkKit
import Derived.ProofKit
import Derived.OpenShut
import Derived.ShutString
import Derived.ChangeOld
import Derived.Below
import Derived.SizedLaws
import Derived.LaidMore
import Derived.Lay
import Derived.SevenTiedAt
import Derived.Stop.Joined
import Derived.Lib.SmallJoins
import Derived.Carry
namespace Go.Proofs.YtcfphieogalnbaaGreatDoor.diffEdits
open Go.ChangeShapes Go.WideShapes Go.ChangeAt Go.RowKit
open Go.ChangeMaps (open_string shut_string)
set_option linter.unusedVariables false
set_option maxRecDepth 100000
theorem own : ownKnob Tryz.prog.godebug = none := by kernel_rfl
theorem laid : laidOutB Tryz.prog = true := by kernel_rfl
open Go.Proofs.YtcfphieogalnbaaGreatDoor.Q Go.Proofs.YtcfphieogalnbaaGreatDoorW.PrintWords
instance : Inhabited S35 := ⟨z35⟩
theorem opens_edits : Opens Tryz.prog 27 (Kd.slice 35 k35) (goodL (fun x : S35 => (fun y => (fun x : S24 => (fun y => (fun s : ByteArray => s.size ≤ maxLen) y.1 ∧ (fun s : ByteArray => s.size ≤ maxLen) y.2) (x.f0, x.f1)) y.1 ∧ (fun n : Int => (Lit.int .i64 n).wf = true) y.2) (x.f0, x.f1))) := (opens_slice Tryz.underlying27 (by kernel_rfl) (opens_struct (fun x : S35 => (x.f0, x.f1)) (fun y => ⟨y.1, y.2⟩) (fun _ => rfl) Tryz.underlying35 (by kernel_rfl) (opensF_cons rfl (by kernel_rfl) (opens_struct (fun x : S24 => (x.f0, x.f1)) (fun y => ⟨y.1, y.2⟩) (fun _ => rfl) Tryz.underlying24 (by kernel_rfl) (opensF_cons rfl (by kernel_rfl) (opens_string Tryz.underlying9) (opensF_one rfl (by kernel_rfl) (opens_string Tryz.underlying9)) (by intro g hg; simp at hg; first | (subst hg; decide) | (rcases hg with rfl | rfl <;> decide)))) (opensF_one rfl (by kernel_rfl) (opens_int Tryz.underlying3)) (by intro g hg; simp at hg; first | (subst hg; decide) | (rcases hg with rfl | rfl <;> decide)))))
set_option maxRecDepth 100000 in
theorem lifted (os : Os) (started : os.Started) (H : Type) (enc : TypeId × Value → H) :
    ReturnsInHanded {} Tryz.checked os 5 .any (fun w args => (Rows.diffEditsSpec.pre enc Tryz.prog Tryz.f5 Rows.diffEditsRow.domain false w args ∧ laidMetH Tryz.prog Rows.diffEditsRow.laid w) ∧ sizedMet enc Tryz.prog Tryz.f5 (OpenSpec.ofChange Rows.diffEditsSpec) false w args)
      (Rows.diffEditsSpec.post enc Tryz.prog Tryz.f5 false true false false) := by
  refine returnsInHanded_of_change_and (C := Tryz.checked) (X := fun w _ => laidMetH Tryz.prog Rows.diffEditsRow.laid w) (fun _ _ _ hh h => h.of_heap hh) own started (by kernel_rfl) Tryz.func5
    (ChangeSpec.witness_shaped (enc := enc) (C := Tryz.checked) (os := os) (X := fun w _ => laidMetH Tryz.prog Rows.diffEditsRow.laid w) false (World.laidAll Tryz.prog os Rows.diffEditsRow.laid) #[.slice none 0 0, .slice none 0 0] 8 (World.laidAll_os _ _ _)
      (World.shaped_of_ZipB (by kernel_rfl) (by kernel_rfl)) (by kernel_rfl) (by kernel_rfl) (by kernel_rfl)
      (by rw [MakeChecks.laidMetH_plain _ _ _ (by kernel_rfl)]; exact laidMet_laidAll _ (by kernel_rfl) (by kernel_rfl))) ?_
  intro W base args ds gs before hval0 hW hc _ hL _
  have hval : ∀ (j : Nat) t v, Tryz.f5.params[j]? = some t → args[j]? = some v → Value.okWide Tryz.prog W .any base t v := hval0
  have hW' := hW
  obtain ⟨p, q, hA0, hV, rfl, hfz, hnd⟩ := hW
  have hA : DataW.TrodAll enc Tryz.prog W 0 (fun _ => true) true Tryz.f5.params.toList args.toList ds p := hA0
  rw [Tryz.params5] at hA hval
  obtain ⟨v0, vs0, d0, ds0, p0, q0, hargs, rfl, rfl, h0, r0⟩ := trodAll_cons hA
  obtain ⟨v1, vs1, d1, ds1, p1, q1, rfl, rfl, rfl, h1, r1⟩ := trodAll_cons r0
  obtain ⟨rfl, rfl, rfl⟩ := trodAll_nil r1
  obtain rfl : args = #[v0, v1] := by cases args; simp_all
  obtain ⟨rfl, rfl⟩ := trodVars_none hV
  obtain ⟨A0, a0, c0, rfl, lc0, C0, g0⟩ := open_list Tryz.underlying27 opens_edits (hval 0 27 v0 rfl rfl) h0
  obtain ⟨A1, a1, c1, rfl, lc1, C1, g1⟩ := open_list Tryz.underlying27 opens_edits (hval 1 27 v1 rfl rfl) h1
  clear hA0 hval0
  refine (Go.Proofs.YtcfphieogalnbaaGreatDoor.Q.dedits_calls A0 c0 a0 A1 c1 a1 W ⟨lc0, C0⟩ ⟨lc1, C1⟩).mono fun e W' ⟨he, bel⟩ => ?_
  subst he
  exact ⟨_, rfl, _, _, _, [], _, [], hW', trodAll_mk1 (shut_bool Tryz.underlying4 _), (trodAll_cons_mk (Below.trod laid (by kernel_rfl) (of_decide_eq_true (by kernel_rfl)) h0 bel (fun x hx => by simpa using hW'.lt x (by simp [hx]))) (trodAll_cons_mk (Below.trod laid (by kernel_rfl) (of_decide_eq_true (by kernel_rfl)) h1 bel (fun x hx => by simpa using hW'.lt x (by simp [hx]))) trodAll_mk0)), rfl, bel.frame _, fun h => by cases h⟩
theorem over : Rows.diffEditsRow.holds Tryz.pinned (OpenSpec.ofChange Rows.diffEditsSpec) :=
  OpenClaim.holds_of_wide 5 Tryz.f5 rfl rfl rfl rfl rfl rfl rfl ⟨rfl, rfl, rfl, rfl, rfl⟩ rfl rfl rfl rfl rfl (by kernel_rfl) Tryz.func5 (by kernel_rfl)
    (of_decide_eq_true (by kernel_rfl)) (by unfold Func.isWrapper; first | (rw [if_pos (by decide +kernel)]; kernel_rfl) | (rw [if_neg (by decide +kernel)]; exact ⟨rfl, rfl⟩))
    (fun os started H enc _ => lifted os started H enc)
theorem card_holds : Rows.DiffEditsCardSaid :=
  Claim7.holds_tied_plain_at .later [] [.data, .pinned] true (true, "56eb401db6f724e3fb539a4cd7ad6379172b95ed4a3cb6adf7662d62786a8d76") false
    over (fun _ h => by cases h) (by kernel_rfl) (fun _ h => by cases h) diffEdits_row_tie rfl ⟨rfl, rfl⟩ (by kernel_rfl) rfl
    (fun f fn hf hfn => by
      obtain rfl : f = 5 := Option.some.inj ((show Tryz.prog.funcNamed "graftwood/graftwoodlaw13.DiffEdits" = some 5 by kernel_rfl).symm.trans hf) |>.symm
      obtain rfl : fn = Tryz.f5 := (Option.some.inj (Tryz.func5.symm.trans hfn)).symm
      exact ⟨by kernel_rfl, fun j t ht => by
        rw [Tryz.params5] at ht
        have hm : t ∈ [27, 27] := by simpa using Array.mem_of_getElem? ht
        have hall : ([27, 27].all fun u => !Tryz.prog.wantsStandIn u) = true := by kernel_rfl
        exact (show Tryz.prog.wantsStandIn t = false by simpa using List.all_eq_true.1 hall t hm)⟩)
    (by kernel_rfl)
#print axioms card_holds
end Go.Proofs.YtcfphieogalnbaaGreatDoor.diffEdits
namespace Go.Proofs.YtcfphieogalnbaaGreatDoor
/-- The card, under a short name, for the claim. -/
theorem diffEdits_holds : Rows.DiffEditsCardSaid := diffEdits.card_holds
end Go.Proofs.YtcfphieogalnbaaGreatDoor
