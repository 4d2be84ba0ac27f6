/- RoomBack: the given row and its tied card RoomBackCardSaid are proved: the law answers true at every argument that the row admits. No further condition. Written by my program rowV.py. -/
import Derived.Test.YtohdmmafjpjmfaaGreatDoorMRoomBack0
import Derived.Test.YtohdmmafjpjmfaaGreatDoorMRoomBack1
import Derived.Test.YtohdmmafjpjmfaaGreatDoorMRoomBack2
import Derived.Test.YtohdmmafjpjmfaaGreatDoorMRoomBack3
import Derived.Test.YtohdmmafjpjmfaaGreatDoorMRoomBack4
import Derived.Test.YtohdmmafjpjmfaaGreatDoorMRoomBack5
import Derived.Test.YtohdmmafjpjmfaaGreatDoorMRoomBack6
import Derived.Test.YtohdmmafjpjmfaaGreatDoorMRoomBack7
import Derived.Test.YtohdmmafjpjmfaaGreatDoorMRoomBack8
import Derived.Test.YtohdmmafjpjmfaaGreatDoorMRoomBack9
import Derived.Test.YtohdmmafjpjmfaaGreatDoorMRoomBack10
import Derived.Test.YtohdmmafjpjmfaaGreatDoorMRoomBack11
import Derived.Test.YtohdmmafjpjmfaaGreatDoorMRoomBack12
import Derived.Test.YtohdmmafjpjmfaaGreatDoorMRoomBack13
import Derived.Test.YtohdmmafjpjmfaaGreatDoorMRoomBack14
import Derived.Test.YtohdmmafjpjmfaaGreatDoorMRoomBack15
import Derived.Test.YtohdmmafjpjmfaaGreatDoorRows
import Derived.Test.YtohdmmafjpjmfaaGreatDoorCards
import Derived.Test.YtohdmmafjpjmfaaGreatDoorTie
import Derived.WalkKit
import Derived.ProofKit
import Derived.OpenShut
import Derived.ShutString
import Derived.ChangeOld
import Derived.Below
import Derived.SizedLaws
import Derived.LaidMore
import Derived.Lay
import Derived.SevenTiedAt
import Derived.Stop.Joined
import Derived.Lib.SmallJoins
import Derived.Carry
namespace Go.Proofs.YtohdmmafjpjmfaaGreatDoor.roomBack
open Go.ChangeShapes Go.WideShapes Go.ChangeAt Go.RowKit Go.Ev
set_option linter.unusedVariables false
set_option maxRecDepth 100000
theorem own : ownKnob Tryz.prog.godebug = none := by kernel_rfl
theorem laid : laidOutB Tryz.prog = true := by kernel_rfl
open Go.Proofs.YtohdmmafjpjmfaaGreatDoor.Q Go.Proofs.YtohdmmafjpjmfaaGreatDoorW.PrintWords
theorem op_string : OpE Tryz.prog 9 (fun s : ByteArray => PV.s (.string s)) (fun s : ByteArray => s.size ≤ maxLen) := by
  have h : OpE _ _ _ _ := opE_string Tryz.underlying9
  exact h
theorem op_api_Node : OpE Tryz.prog 34 evN (fun x : S34 => (fun y => (fun s : ByteArray => s.size ≤ maxLen) y.1 ∧ (fun s : ByteArray => s.size ≤ maxLen) y.2) (x.f0, x.f1)) := by
  have h : OpE _ _ _ _ := opE_struct (1 + (1)) (fun x : S34 => (x.f0, x.f1)) (fun y => ⟨y.1, y.2⟩) (fun _ => rfl) Tryz.underlying34 (by kernel_rfl) (opEF_cons rfl (by kernel_rfl) op_string (opEF_one rfl (by kernel_rfl) op_string) (by intro g hg; simp at hg; first | (subst hg; decide) | (rcases hg with rfl | rfl <;> decide) | (rcases hg with rfl | rfl | rfl <;> decide) | (rcases hg with rfl | rfl | rfl | rfl <;> decide)))
  exact h
instance : Inhabited S34 := ⟨⟨ByteArray.empty, ByteArray.empty⟩⟩
theorem op_Lapi_Node : OpE Tryz.prog 44 (fun l : (List S34) => PV.sl 0 2 (l.map evN)) (goodE (fun x : S34 => (fun y => (fun s : ByteArray => s.size ≤ maxLen) y.1 ∧ (fun s : ByteArray => s.size ≤ maxLen) y.2) (x.f0, x.f1))) := by
  have h : OpE _ _ _ _ := opE_slice 2 (by decide) Tryz.underlying44 (by kernel_rfl) (fun _ => rfl) op_api_Node
  exact h
theorem op_LLapi_Node : OpE Tryz.prog 49 (fun l : (List (List S34)) => PV.sl 0 1 (l.map (fun l : (List S34) => PV.sl 0 2 (l.map evN)))) (goodE (goodE (fun x : S34 => (fun y => (fun s : ByteArray => s.size ≤ maxLen) y.1 ∧ (fun s : ByteArray => s.size ≤ maxLen) y.2) (x.f0, x.f1)))) := by
  have h : OpE _ _ _ _ := opE_slice 1 (by decide) Tryz.underlying49 (by kernel_rfl) (fun _ => rfl) op_Lapi_Node
  exact h
theorem lifted (os : Os) (started : os.Started) (H : Type) (enc : TypeId × Value → H) :
    ReturnsInHanded {} Tryz.checked os 9 .any (fun w args => (Rows.roomBackSpec.pre enc Tryz.prog Tryz.f9 Rows.roomBackRow.domain false w args ∧ laidMetH Tryz.prog Rows.roomBackRow.laid w) ∧ sizedMet enc Tryz.prog Tryz.f9 (OpenSpec.ofChange Rows.roomBackSpec) false w args)
      (Rows.roomBackSpec.post enc Tryz.prog Tryz.f9 false true false false) := by
  refine returnsInHanded_of_change_and (C := Tryz.checked) (X := fun w _ => laidMetH Tryz.prog Rows.roomBackRow.laid w) (fun _ _ _ hh h => h.of_heap hh) own started (by kernel_rfl) Tryz.func9
    (ChangeSpec.witness_shaped (enc := enc) (C := Tryz.checked) (os := os) (X := fun w _ => laidMetH Tryz.prog Rows.roomBackRow.laid w) false (World.laidAll Tryz.prog os Rows.roomBackRow.laid) #[.slice none 0 0, .slice none 0 0, .slice none 0 0] 8 (World.laidAll_os _ _ _)
      (World.shaped_of_ZipB (by kernel_rfl) (by kernel_rfl)) (by kernel_rfl) (by kernel_rfl) (by kernel_rfl)
      (by rw [MakeChecks.laidMetH_plain _ _ _ (by kernel_rfl)]; exact laidMet_laidAll _ (by kernel_rfl) (by kernel_rfl))) ?_
  intro W base args ds gs before hval0 hW hc _ hL _
  have hval : ∀ (j : Nat) t v, Tryz.f9.params[j]? = some t → args[j]? = some v → Value.okWide Tryz.prog W .any base t v := hval0
  have hW' := hW
  obtain ⟨p, q, hA0, hV, rfl, hfz, hnd⟩ := hW
  have hA : DataW.TrodAll enc Tryz.prog W 0 (fun _ => true) true Tryz.f9.params.toList args.toList ds p := hA0
  rw [Tryz.params9] at hA hval
  obtain ⟨v0, vs0, d0, ds0, p0, q0, hargs, rfl, rfl, h0, r0⟩ := trodAll_cons hA
  obtain ⟨v1, vs1, d1, ds1, p1, q1, rfl, rfl, rfl, h1, r1⟩ := trodAll_cons r0
  obtain ⟨v2, vs2, d2, ds2, p2, q2, rfl, rfl, rfl, h2, r2⟩ := trodAll_cons r1
  obtain ⟨rfl, rfl, rfl⟩ := trodAll_nil r2
  obtain rfl : args = #[v0, v1, v2] := by cases args; simp_all
  obtain ⟨rfl, rfl⟩ := trodVars_none hV
  obtain ⟨a0, e0, g0⟩ := par_one (fun hv => one_slice Tryz.underlying44 hv) (fun _ => rfl) op_Lapi_Node (hval 0 44 v0 rfl rfl) h0
  obtain ⟨a1, e1, g1⟩ := par_one (fun hv => one_slice Tryz.underlying49 hv) (fun _ => rfl) op_LLapi_Node (hval 1 49 v1 rfl rfl) h1
  obtain ⟨a2, e2, g2⟩ := par_one (fun hv => one_slice Tryz.underlying44 hv) (fun _ => rfl) op_Lapi_Node (hval 2 44 v2 rfl rfl) h2
  clear hA0 hval0
  have walk : PC 9 [(fun l : (List S34) => PV.sl 0 2 (l.map evN)) a0, (fun l : (List (List S34)) => PV.sl 0 1 (l.map (fun l : (List S34) => PV.sl 0 2 (l.map evN)))) a1, (fun l : (List S34) => PV.sl 0 2 (l.map evN)) a2] (.s (.bool true)) := roomBack_pc a0 a1 a2
  refine (pc_calls walk (w := W) (vs := [v0, v1, v2]) ⟨e0, e1, e2, trivial⟩).mono fun e W' ⟨he, bel⟩ => ?_
  subst he
  exact ⟨_, rfl, _, _, _, [], _, [], hW', trodAll_mk1 (shut_bool Tryz.underlying4 _), (trodAll_cons_mk (Below.trod laid (by kernel_rfl) (of_decide_eq_true (by kernel_rfl)) h0 bel (fun x hx => by simpa using hW'.lt x (by simp [hx]))) (trodAll_cons_mk (Below.trod laid (by kernel_rfl) (of_decide_eq_true (by kernel_rfl)) h1 bel (fun x hx => by simpa using hW'.lt x (by simp [hx]))) (trodAll_cons_mk (Below.trod laid (by kernel_rfl) (of_decide_eq_true (by kernel_rfl)) h2 bel (fun x hx => by simpa using hW'.lt x (by simp [hx]))) trodAll_mk0))), rfl, bel.frame _, fun h => by cases h⟩
theorem over : Rows.roomBackRow.holds Tryz.pinned (OpenSpec.ofChange Rows.roomBackSpec) :=
  OpenClaim.holds_of_wide 9 Tryz.f9 rfl rfl rfl rfl rfl rfl rfl ⟨rfl, rfl, rfl, rfl, rfl⟩ rfl rfl rfl rfl rfl (by kernel_rfl) Tryz.func9 (by kernel_rfl)
    (of_decide_eq_true (by kernel_rfl)) (by unfold Func.isWrapper; first | (rw [if_pos (by decide +kernel)]; kernel_rfl) | (rw [if_neg (by decide +kernel)]; exact ⟨rfl, rfl⟩))
    (fun os started H enc _ => lifted os started H enc)
theorem card_holds : Rows.RoomBackCardSaid :=
  Claim7.holds_tied_plain_at .later [] [.data, .pinned] true (true, "9b7e40c6ac0b11a8bfe98e3a2f58738d4c31b3908f3165b92b5ec7044eaae0cd") false
    over (fun _ h => by cases h) (by kernel_rfl) (fun _ h => by cases h) roomBack_row_tie rfl ⟨rfl, rfl⟩ (by kernel_rfl) rfl
    (fun f fn hf hfn => by
      obtain rfl : f = 9 := Option.some.inj ((show Tryz.prog.funcNamed "graftwood/graftwoodlaw14.RoomBack" = some 9 by kernel_rfl).symm.trans hf) |>.symm
      obtain rfl : fn = Tryz.f9 := (Option.some.inj (Tryz.func9.symm.trans hfn)).symm
      exact ⟨by kernel_rfl, fun j t ht => by
        rw [Tryz.params9] at ht
        have hm : t ∈ [44, 49, 44] := by simpa using Array.mem_of_getElem? ht
        have hall : ([44, 49, 44].all fun u => !Tryz.prog.wantsStandIn u) = true := by kernel_rfl
        exact (show Tryz.prog.wantsStandIn t = false by simpa using List.all_eq_true.1 hall t hm)⟩)
    (by kernel_rfl)
#print axioms card_holds
end Go.Proofs.YtohdmmafjpjmfaaGreatDoor.roomBack
namespace Go.Proofs.YtohdmmafjpjmfaaGreatDoor
/-- The card, under a short name, for the claim. -/
theorem roomBack_holds : Rows.RoomBackCardSaid := roomBack.card_holds
end Go.Proofs.YtohdmmafjpjmfaaGreatDoor
