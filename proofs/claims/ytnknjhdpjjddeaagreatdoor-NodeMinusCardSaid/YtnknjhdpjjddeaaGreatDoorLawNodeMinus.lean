/- NodeMinus: the given row and its tied card NodeMinusCardSaid are proved: the law answers true at every argument that the row admits. No further condition. Written by my program. AUTOMERGED imports. -/
import Derived.Test.YtnknjhdpjjddeaaGreatDoorMNodeMinus0
import Derived.Test.YtnknjhdpjjddeaaGreatDoorMNodeMinus1
import Derived.Test.YtnknjhdpjjddeaaGreatDoorMNodeMinus2
import Derived.Test.YtnknjhdpjjddeaaGreatDoorMNodeMinus3
import Derived.Test.YtnknjhdpjjddeaaGreatDoorMNodeMinus4
import Derived.Test.YtnknjhdpjjddeaaGreatDoorMNodeMinus5
import Derived.Test.YtnknjhdpjjddeaaGreatDoorMNodeMinus6
import Derived.Test.YtnknjhdpjjddeaaGreatDoorMNodeMinus7
import Derived.Test.YtnknjhdpjjddeaaGreatDoorMNodeMinus8
import Derived.Test.YtnknjhdpjjddeaaGreatDoorMNodeMinus9
import Derived.Test.YtnknjhdpjjddeaaGreatDoorMNodeMinus10
import Derived.Test.YtnknjhdpjjddeaaGreatDoorRows
import Derived.Test.YtnknjhdpjjddeaaGreatDoorCards
import Derived.Test.YtnknjhdpjjddeaaGreatDoorTie
import Derived.WalkKit
import Derived.ProofKit
import Derived.OpenShut
import Derived.ShutString
import Derived.ChangeOld
import Derived.Below
import Derived.SizedLaws
import Derived.LaidMore
import Derived.Lay
import Derived.SevenTiedAt
import Derived.Stop.Joined
import Derived.Lib.SmallJoins
import Derived.Carry
namespace Go.Proofs.YtnknjhdpjjddeaaGreatDoor.nodeMinus
open Go.ChangeShapes Go.WideShapes Go.ChangeAt Go.RowKit
open Go.ChangeMaps (open_string shut_string)
set_option linter.unusedVariables false
set_option maxRecDepth 100000
theorem own : ownKnob Tryz.prog.godebug = none := by kernel_rfl
theorem laid : laidOutB Tryz.prog = true := by kernel_rfl
open Go.Proofs.YtnknjhdpjjddeaaGreatDoor.Q Go.Proofs.YtnknjhdpjjddeaaGreatDoorW.PrintWords
instance : Inhabited S32 := ⟨z32⟩
theorem opens_nodes : Opens Tryz.prog 22 (Kd.slice 32 k32) (goodL (fun x : S32 => (fun y => (fun s : ByteArray => s.size ≤ maxLen) y.1 ∧ (fun s : ByteArray => s.size ≤ maxLen) y.2) (x.f0, x.f1))) := (opens_slice Tryz.underlying22 (by kernel_rfl) (opens_struct (fun x : S32 => (x.f0, x.f1)) (fun y => ⟨y.1, y.2⟩) (fun _ => rfl) Tryz.underlying32 (by kernel_rfl) (opensF_cons rfl (by kernel_rfl) (opens_string Tryz.underlying9) (opensF_one rfl (by kernel_rfl) (opens_string Tryz.underlying9)) (by intro g hg; simp at hg; first | (subst hg; decide) | (rcases hg with rfl | rfl <;> decide)))))
set_option maxRecDepth 100000 in
theorem lifted (os : Os) (started : os.Started) (H : Type) (enc : TypeId × Value → H) :
    ReturnsInHanded {} Tryz.checked os 3 .any (fun w args => (Rows.nodeMinusSpec.pre enc Tryz.prog Tryz.f3 Rows.nodeMinusRow.domain false w args ∧ laidMetH Tryz.prog Rows.nodeMinusRow.laid w) ∧ sizedMet enc Tryz.prog Tryz.f3 (OpenSpec.ofChange Rows.nodeMinusSpec) false w args)
      (Rows.nodeMinusSpec.post enc Tryz.prog Tryz.f3 false true false false) := by
  refine returnsInHanded_of_change_and (C := Tryz.checked) (X := fun w _ => laidMetH Tryz.prog Rows.nodeMinusRow.laid w) (fun _ _ _ hh h => h.of_heap hh) own started (by kernel_rfl) Tryz.func3
    (ChangeSpec.witness_shaped (enc := enc) (C := Tryz.checked) (os := os) (X := fun w _ => laidMetH Tryz.prog Rows.nodeMinusRow.laid w) false (World.laidAll Tryz.prog os Rows.nodeMinusRow.laid) #[.slice none 0 0, .slice none 0 0] 8 (World.laidAll_os _ _ _)
      (World.shaped_of_ZipB (by kernel_rfl) (by kernel_rfl)) (by kernel_rfl) (by kernel_rfl) (by kernel_rfl)
      (by rw [MakeChecks.laidMetH_plain _ _ _ (by kernel_rfl)]; exact laidMet_laidAll _ (by kernel_rfl) (by kernel_rfl))) ?_
  intro W base args ds gs before hval0 hW hc _ hL _
  have hval : ∀ (j : Nat) t v, Tryz.f3.params[j]? = some t → args[j]? = some v → Value.okWide Tryz.prog W .any base t v := hval0
  have hW' := hW
  obtain ⟨p, q, hA0, hV, rfl, hfz, hnd⟩ := hW
  have hA : DataW.TrodAll enc Tryz.prog W 0 (fun _ => true) true Tryz.f3.params.toList args.toList ds p := hA0
  rw [Tryz.params3] at hA hval
  obtain ⟨v0, vs0, d0, ds0, p0, q0, hargs, rfl, rfl, h0, r0⟩ := trodAll_cons hA
  obtain ⟨v1, vs1, d1, ds1, p1, q1, rfl, rfl, rfl, h1, r1⟩ := trodAll_cons r0
  obtain ⟨rfl, rfl, rfl⟩ := trodAll_nil r1
  obtain rfl : args = #[v0, v1] := by cases args; simp_all
  obtain ⟨rfl, rfl⟩ := trodVars_none hV
  obtain ⟨A0, a0, c0, rfl, lc0, C0, g0⟩ := open_list Tryz.underlying22 opens_nodes (hval 0 22 v0 rfl rfl) h0
  obtain ⟨A1, a1, c1, rfl, lc1, C1, g1⟩ := open_list Tryz.underlying22 opens_nodes (hval 1 22 v1 rfl rfl) h1
  clear hA0 hval0
  refine (Go.Proofs.YtnknjhdpjjddeaaGreatDoor.Q.graftwoodlaw05_NodeMinus.calls 9000000001 A0 c0 a0 A1 c1 a1 true W C0 lc0 C1 lc1 (Go.Proofs.YtnknjhdpjjddeaaGreatDoor.Q.minus_true 9000000000 (by omega) a0 a1)).mono fun e W' ⟨he, bel⟩ => ?_
  subst he
  exact ⟨_, rfl, _, _, _, [], _, [], hW', trodAll_mk1 (shut_bool Tryz.underlying4 _), (trodAll_cons_mk (Below.trod laid (by kernel_rfl) (of_decide_eq_true (by kernel_rfl)) h0 bel (fun x hx => by simpa using hW'.lt x (by simp [hx]))) (trodAll_cons_mk (Below.trod laid (by kernel_rfl) (of_decide_eq_true (by kernel_rfl)) h1 bel (fun x hx => by simpa using hW'.lt x (by simp [hx]))) trodAll_mk0)), rfl, bel.frame _, fun h => by cases h⟩
theorem over : Rows.nodeMinusRow.holds Tryz.pinned (OpenSpec.ofChange Rows.nodeMinusSpec) :=
  OpenClaim.holds_of_wide 3 Tryz.f3 rfl rfl rfl rfl rfl rfl rfl ⟨rfl, rfl, rfl, rfl, rfl⟩ rfl rfl rfl rfl rfl (by kernel_rfl) Tryz.func3 (by kernel_rfl)
    (of_decide_eq_true (by kernel_rfl)) (by unfold Func.isWrapper; first | (rw [if_pos (by decide +kernel)]; kernel_rfl) | (rw [if_neg (by decide +kernel)]; exact ⟨rfl, rfl⟩))
    (fun os started H enc _ => lifted os started H enc)
theorem card_holds : Rows.NodeMinusCardSaid :=
  Claim7.holds_tied_plain_at .later [] [.data, .pinned] true (true, "16e936de8c44c4aaf1f2191d1d7ed3371ed8d1162c6bf3e2af5aebac94397939") false
    over (fun _ h => by cases h) (by kernel_rfl) (fun _ h => by cases h) nodeMinus_row_tie rfl ⟨rfl, rfl⟩ (by kernel_rfl) rfl
    (fun f fn hf hfn => by
      obtain rfl : f = 3 := Option.some.inj ((show Tryz.prog.funcNamed "graftwood/graftwoodlaw05.NodeMinus" = some 3 by kernel_rfl).symm.trans hf) |>.symm
      obtain rfl : fn = Tryz.f3 := (Option.some.inj (Tryz.func3.symm.trans hfn)).symm
      exact ⟨by kernel_rfl, fun j t ht => by
        rw [Tryz.params3] at ht
        have hm : t ∈ [22, 22] := by simpa using Array.mem_of_getElem? ht
        have hall : ([22, 22].all fun u => !Tryz.prog.wantsStandIn u) = true := by kernel_rfl
        exact (show Tryz.prog.wantsStandIn t = false by simpa using List.all_eq_true.1 hall t hm)⟩)
    (by kernel_rfl)
#print axioms card_holds
end Go.Proofs.YtnknjhdpjjddeaaGreatDoor.nodeMinus
namespace Go.Proofs.YtnknjhdpjjddeaaGreatDoor
/-- The card, under a short name, for the claim. -/
theorem nodeMinus_holds : Rows.NodeMinusCardSaid := nodeMinus.card_holds
end Go.Proofs.YtnknjhdpjjddeaaGreatDoor
