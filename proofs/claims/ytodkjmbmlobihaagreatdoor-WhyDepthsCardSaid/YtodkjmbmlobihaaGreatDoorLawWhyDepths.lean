/- WhyDepths: the given row and its tied card WhyDepthsCardSaid are proved: the law answers true at every argument that the row admits. No further condition. Written by my program rowV.py. -/
import Derived.Test.YtodkjmbmlobihaaGreatDoorMWhyDepths0
import Derived.Test.YtodkjmbmlobihaaGreatDoorMWhyDepths1
import Derived.Test.YtodkjmbmlobihaaGreatDoorMWhyDepths2
import Derived.Test.YtodkjmbmlobihaaGreatDoorMWhyDepths3
import Derived.Test.YtodkjmbmlobihaaGreatDoorMWhyDepths4
import Derived.Test.YtodkjmbmlobihaaGreatDoorMWhyDepths5
import Derived.Test.YtodkjmbmlobihaaGreatDoorMWhyDepths6
import Derived.Test.YtodkjmbmlobihaaGreatDoorMWhyDepths7
import Derived.Test.YtodkjmbmlobihaaGreatDoorMWhyDepths8
import Derived.Test.YtodkjmbmlobihaaGreatDoorMWhyDepths9
import Derived.Test.YtodkjmbmlobihaaGreatDoorMWhyDepths10
import Derived.Test.YtodkjmbmlobihaaGreatDoorMWhyDepths11
import Derived.Test.YtodkjmbmlobihaaGreatDoorMWhyDepths12
import Derived.Test.YtodkjmbmlobihaaGreatDoorMWhyDepths13
import Derived.Test.YtodkjmbmlobihaaGreatDoorMWhyDepths14
import Derived.Test.YtodkjmbmlobihaaGreatDoorMWhyDepths15
import Derived.Test.YtodkjmbmlobihaaGreatDoorRows
import Derived.Test.YtodkjmbmlobihaaGreatDoorCards
import Derived.Test.YtodkjmbmlobihaaGreatDoorTie
import Derived.WalkKit
import Derived.ProofKit
import Derived.OpenShut
import Derived.ShutString
import Derived.ChangeOld
import Derived.Below
import Derived.SizedLaws
import Derived.LaidMore
import Derived.Lay
import Derived.SevenTiedAt
import Derived.Stop.Joined
import Derived.Lib.SmallJoins
import Derived.Carry
namespace Go.Proofs.YtodkjmbmlobihaaGreatDoor.whyDepths
open Go.ChangeShapes Go.WideShapes Go.ChangeAt Go.RowKit Go.Ev
set_option linter.unusedVariables false
set_option maxRecDepth 100000
theorem own : ownKnob Tryz.prog.godebug = none := by kernel_rfl
theorem laid : laidOutB Tryz.prog = true := by kernel_rfl
open Go.Proofs.YtodkjmbmlobihaaGreatDoor.Q Go.Proofs.YtodkjmbmlobihaaGreatDoorW.PrintWords
theorem op_string : OpE Tryz.prog 9 (fun s : ByteArray => PV.s (.string s)) (fun s : ByteArray => s.size ≤ maxLen) := by
  have h : OpE _ _ _ _ := opE_string Tryz.underlying9
  exact h
theorem op_api_Node : OpE Tryz.prog 24 evN (fun x : S24 => (fun y => (fun s : ByteArray => s.size ≤ maxLen) y.1 ∧ (fun s : ByteArray => s.size ≤ maxLen) y.2) (x.f0, x.f1)) := by
  have h : OpE _ _ _ _ := opE_struct (1 + (1)) (fun x : S24 => (x.f0, x.f1)) (fun y => ⟨y.1, y.2⟩) (fun _ => rfl) Tryz.underlying24 (by kernel_rfl) (opEF_cons rfl (by kernel_rfl) op_string (opEF_one rfl (by kernel_rfl) op_string) (by intro g hg; simp at hg; first | (subst hg; decide) | (rcases hg with rfl | rfl <;> decide) | (rcases hg with rfl | rfl | rfl <;> decide) | (rcases hg with rfl | rfl | rfl | rfl <;> decide)))
  exact h
theorem op_api_Need : OpE Tryz.prog 49 evQ (fun x : S49 => (fun y => (fun x : S24 => (fun y => (fun s : ByteArray => s.size ≤ maxLen) y.1 ∧ (fun s : ByteArray => s.size ≤ maxLen) y.2) (x.f0, x.f1)) y.1 ∧ (fun x : S24 => (fun y => (fun s : ByteArray => s.size ≤ maxLen) y.1 ∧ (fun s : ByteArray => s.size ≤ maxLen) y.2) (x.f0, x.f1)) y.2) (x.f0, x.f1)) := by
  have h : OpE _ _ _ _ := opE_struct (2 + (2)) (fun x : S49 => (x.f0, x.f1)) (fun y => ⟨y.1, y.2⟩) (fun _ => rfl) Tryz.underlying49 (by kernel_rfl) (opEF_cons rfl (by kernel_rfl) op_api_Node (opEF_one rfl (by kernel_rfl) op_api_Node) (by intro g hg; simp at hg; first | (subst hg; decide) | (rcases hg with rfl | rfl <;> decide) | (rcases hg with rfl | rfl | rfl <;> decide) | (rcases hg with rfl | rfl | rfl | rfl <;> decide)))
  exact h
instance : Inhabited S49 := ⟨⟨⟨ByteArray.empty, ByteArray.empty⟩, ⟨ByteArray.empty, ByteArray.empty⟩⟩⟩
theorem op_Lapi_Need : OpE Tryz.prog 22 (fun l : (List S49) => PV.sl 0 4 (l.map evQ)) (goodE (fun x : S49 => (fun y => (fun x : S24 => (fun y => (fun s : ByteArray => s.size ≤ maxLen) y.1 ∧ (fun s : ByteArray => s.size ≤ maxLen) y.2) (x.f0, x.f1)) y.1 ∧ (fun x : S24 => (fun y => (fun s : ByteArray => s.size ≤ maxLen) y.1 ∧ (fun s : ByteArray => s.size ≤ maxLen) y.2) (x.f0, x.f1)) y.2) (x.f0, x.f1))) := by
  have h : OpE _ _ _ _ := opE_slice 4 (by decide) Tryz.underlying22 (by kernel_rfl) (fun _ => rfl) op_api_Need
  exact h
theorem lifted (os : Os) (started : os.Started) (H : Type) (enc : TypeId × Value → H) :
    ReturnsInHanded {} Tryz.checked os 4 .any (fun w args => (Rows.whyDepthsSpec.pre enc Tryz.prog Tryz.f4 Rows.whyDepthsRow.domain false w args ∧ laidMetH Tryz.prog Rows.whyDepthsRow.laid w) ∧ sizedMet enc Tryz.prog Tryz.f4 (OpenSpec.ofChange Rows.whyDepthsSpec) false w args)
      (Rows.whyDepthsSpec.post enc Tryz.prog Tryz.f4 false true false false) := by
  refine returnsInHanded_of_change_and (C := Tryz.checked) (X := fun w _ => laidMetH Tryz.prog Rows.whyDepthsRow.laid w) (fun _ _ _ hh h => h.of_heap hh) own started (by kernel_rfl) Tryz.func4
    (ChangeSpec.witness_shaped (enc := enc) (C := Tryz.checked) (os := os) (X := fun w _ => laidMetH Tryz.prog Rows.whyDepthsRow.laid w) false (World.laidAll Tryz.prog os Rows.whyDepthsRow.laid) #[.slice none 0 0] 8 (World.laidAll_os _ _ _)
      (World.shaped_of_ZipB (by kernel_rfl) (by kernel_rfl)) (by kernel_rfl) (by kernel_rfl) (by kernel_rfl)
      (by rw [MakeChecks.laidMetH_plain _ _ _ (by kernel_rfl)]; exact laidMet_laidAll _ (by kernel_rfl) (by kernel_rfl))) ?_
  intro W base args ds gs before hval0 hW hc _ hL _
  have hval : ∀ (j : Nat) t v, Tryz.f4.params[j]? = some t → args[j]? = some v → Value.okWide Tryz.prog W .any base t v := hval0
  have hW' := hW
  obtain ⟨p, q, hA0, hV, rfl, hfz, hnd⟩ := hW
  have hA : DataW.TrodAll enc Tryz.prog W 0 (fun _ => true) true Tryz.f4.params.toList args.toList ds p := hA0
  rw [Tryz.params4] at hA hval
  obtain ⟨v0, vs0, d0, ds0, p0, q0, hargs, rfl, rfl, h0, r0⟩ := trodAll_cons hA
  obtain ⟨rfl, rfl, rfl⟩ := trodAll_nil r0
  obtain rfl : args = #[v0] := by cases args; simp_all
  obtain ⟨rfl, rfl⟩ := trodVars_none hV
  obtain ⟨a0, e0, g0⟩ := par_one (fun hv => one_slice Tryz.underlying22 hv) (fun _ => rfl) op_Lapi_Need (hval 0 22 v0 rfl rfl) h0
  clear hA0 hval0
  have walk : PC 4 [(fun l : (List S49) => PV.sl 0 4 (l.map evQ)) a0] (.s (.bool true)) := whyDepths_pc a0
  refine (pc_calls walk (noXo_of rfl) (w := W) (vs := [v0]) ⟨e0, trivial⟩).mono fun e W' ⟨he, bel⟩ => ?_
  subst he
  exact ⟨_, rfl, _, _, _, [], _, [], hW', trodAll_mk1 (shut_bool Tryz.underlying4 _), (trodAll_cons_mk (Below.trod laid (by kernel_rfl) (of_decide_eq_true (by kernel_rfl)) h0 bel (fun x hx => by simpa using hW'.lt x (by simp [hx]))) trodAll_mk0), rfl, bel.frame _, fun h => by cases h⟩
theorem over : Rows.whyDepthsRow.holds Tryz.pinned (OpenSpec.ofChange Rows.whyDepthsSpec) :=
  OpenClaim.holds_of_wide 4 Tryz.f4 rfl rfl rfl rfl rfl rfl rfl ⟨rfl, rfl, rfl, rfl, rfl⟩ rfl rfl rfl rfl rfl (by kernel_rfl) Tryz.func4 (by kernel_rfl)
    (of_decide_eq_true (by kernel_rfl)) (by unfold Func.isWrapper; first | (rw [if_pos (by decide +kernel)]; kernel_rfl) | (rw [if_neg (by decide +kernel)]; exact ⟨rfl, rfl⟩))
    (fun os started H enc _ => lifted os started H enc)
theorem card_holds : Rows.WhyDepthsCardSaid :=
  Claim7.holds_tied_plain_at .later [] [.data, .pinned] true (true, "23b637404a3a127eb1e4b74cd949ae04ab3d05e6bb8aeb1ba76334a4297c4307") false
    over (fun _ h => by cases h) (by kernel_rfl) (fun _ h => by cases h) whyDepths_row_tie rfl ⟨rfl, rfl⟩ (by kernel_rfl) rfl
    (fun f fn hf hfn => by
      obtain rfl : f = 4 := Option.some.inj ((show Tryz.prog.funcNamed "graftwood/graftwoodlaw19.WhyDepths" = some 4 by kernel_rfl).symm.trans hf) |>.symm
      obtain rfl : fn = Tryz.f4 := (Option.some.inj (Tryz.func4.symm.trans hfn)).symm
      exact ⟨by kernel_rfl, fun j t ht => by
        rw [Tryz.params4] at ht
        have hm : t ∈ [22] := by simpa using Array.mem_of_getElem? ht
        have hall : ([22].all fun u => !Tryz.prog.wantsStandIn u) = true := by kernel_rfl
        exact (show Tryz.prog.wantsStandIn t = false by simpa using List.all_eq_true.1 hall t hm)⟩)
    (by kernel_rfl)
#print axioms card_holds
end Go.Proofs.YtodkjmbmlobihaaGreatDoor.whyDepths
namespace Go.Proofs.YtodkjmbmlobihaaGreatDoor
/-- The card, under a short name, for the claim. -/
theorem whyDepths_holds : Rows.WhyDepthsCardSaid := whyDepths.card_holds
end Go.Proofs.YtodkjmbmlobihaaGreatDoor
