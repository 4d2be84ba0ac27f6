/- TallyTells: the given row and its tied card TallyTellsCardSaid are proved: the law answers true at every argument that the row admits. No further condition. Written by my program rowV.py. -/
import Derived.Test.YtffjkbbmnfnbaaaGreatDoorMTallyTells0
import Derived.Test.YtffjkbbmnfnbaaaGreatDoorMTallyTells1
import Derived.Test.YtffjkbbmnfnbaaaGreatDoorMTallyTells2
import Derived.Test.YtffjkbbmnfnbaaaGreatDoorMTallyTells3
import Derived.Test.YtffjkbbmnfnbaaaGreatDoorMTallyTells4
import Derived.Test.YtffjkbbmnfnbaaaGreatDoorMTallyTells5
import Derived.Test.YtffjkbbmnfnbaaaGreatDoorMTallyTells6
import Derived.Test.YtffjkbbmnfnbaaaGreatDoorMTallyTells7
import Derived.Test.YtffjkbbmnfnbaaaGreatDoorMTallyTells8
import Derived.Test.YtffjkbbmnfnbaaaGreatDoorMTallyTells9
import Derived.Test.YtffjkbbmnfnbaaaGreatDoorMTallyTells10
import Derived.Test.YtffjkbbmnfnbaaaGreatDoorMTallyTells11
import Derived.Test.YtffjkbbmnfnbaaaGreatDoorMTallyTells12
import Derived.Test.YtffjkbbmnfnbaaaGreatDoorMTallyTells13
import Derived.Test.YtffjkbbmnfnbaaaGreatDoorMTallyTells14
import Derived.Test.YtffjkbbmnfnbaaaGreatDoorMTallyTells15
import Derived.Test.YtffjkbbmnfnbaaaGreatDoorRows
import Derived.Test.YtffjkbbmnfnbaaaGreatDoorCards
import Derived.Test.YtffjkbbmnfnbaaaGreatDoorTie
import Derived.WalkKit
import Derived.ProofKit
import Derived.OpenShut
import Derived.ShutString
import Derived.ChangeOld
import Derived.Below
import Derived.SizedLaws
import Derived.LaidMore
import Derived.Lay
import Derived.SevenTiedAt
import Derived.Stop.Joined
import Derived.Lib.SmallJoins
import Derived.Carry
namespace Go.Proofs.YtffjkbbmnfnbaaaGreatDoor.tallyTells
open Go.ChangeShapes Go.WideShapes Go.ChangeAt Go.RowKit Go.Ev
set_option linter.unusedVariables false
set_option maxRecDepth 100000
theorem own : ownKnob Tryz.prog.godebug = none := by kernel_rfl
theorem laid : laidOutB Tryz.prog = true := by kernel_rfl
open Go.Proofs.YtffjkbbmnfnbaaaGreatDoor.Q Go.Proofs.YtffjkbbmnfnbaaaGreatDoorW.PrintWords
theorem op_string : OpE Tryz.prog 9 (fun s : ByteArray => PV.s (.string s)) (fun s : ByteArray => s.size ≤ maxLen) := by
  have h : OpE _ _ _ _ := opE_string Tryz.underlying9
  exact h
theorem op_Lstring : OpE Tryz.prog 56 (fun l : (List ByteArray) => PV.sl 0 1 (l.map (fun s : ByteArray => PV.s (.string s)))) (goodE (fun s : ByteArray => s.size ≤ maxLen)) := by
  have h : OpE _ _ _ _ := opE_slice 1 (by decide) Tryz.underlying56 (by kernel_rfl) (fun _ => rfl) op_string
  exact h
theorem op_api_Row : OpE Tryz.prog 58 evRw (fun x : RW => (fun y => (fun s : ByteArray => s.size ≤ maxLen) y.1 ∧ (goodE (fun s : ByteArray => s.size ≤ maxLen)) y.2) (x.p, x.v)) := by
  have h : OpE _ _ _ _ := opE_struct (1 + (1)) (fun x : RW => (x.p, x.v)) (fun y => ⟨y.1, y.2⟩) (fun _ => rfl) Tryz.underlying58 (by kernel_rfl) (opEF_cons rfl (by kernel_rfl) op_string (opEF_one rfl (by kernel_rfl) op_Lstring) (by intro g hg; simp at hg; first | (subst hg; decide) | (rcases hg with rfl | rfl <;> decide) | (rcases hg with rfl | rfl | rfl <;> decide) | (rcases hg with rfl | rfl | rfl | rfl <;> decide)))
  exact h
instance : Inhabited RW := ⟨⟨ByteArray.empty, []⟩⟩
theorem op_Lapi_Row : OpE Tryz.prog 22 (fun l : (List RW) => PV.sl 0 2 (l.map evRw)) (goodE (fun x : RW => (fun y => (fun s : ByteArray => s.size ≤ maxLen) y.1 ∧ (goodE (fun s : ByteArray => s.size ≤ maxLen)) y.2) (x.p, x.v))) := by
  have h : OpE _ _ _ _ := opE_slice 2 (by decide) Tryz.underlying22 (by kernel_rfl) (fun _ => rfl) op_api_Row
  exact h
theorem op_api_Node : OpE Tryz.prog 36 evN (fun x : S36 => (fun y => (fun s : ByteArray => s.size ≤ maxLen) y.1 ∧ (fun s : ByteArray => s.size ≤ maxLen) y.2) (x.f0, x.f1)) := by
  have h : OpE _ _ _ _ := opE_struct (1 + (1)) (fun x : S36 => (x.f0, x.f1)) (fun y => ⟨y.1, y.2⟩) (fun _ => rfl) Tryz.underlying36 (by kernel_rfl) (opEF_cons rfl (by kernel_rfl) op_string (opEF_one rfl (by kernel_rfl) op_string) (by intro g hg; simp at hg; first | (subst hg; decide) | (rcases hg with rfl | rfl <;> decide) | (rcases hg with rfl | rfl | rfl <;> decide) | (rcases hg with rfl | rfl | rfl | rfl <;> decide)))
  exact h
instance : Inhabited S36 := ⟨⟨ByteArray.empty, ByteArray.empty⟩⟩
theorem op_Lapi_Node : OpE Tryz.prog 23 (fun l : (List S36) => PV.sl 0 2 (l.map evN)) (goodE (fun x : S36 => (fun y => (fun s : ByteArray => s.size ≤ maxLen) y.1 ∧ (fun s : ByteArray => s.size ≤ maxLen) y.2) (x.f0, x.f1))) := by
  have h : OpE _ _ _ _ := opE_slice 2 (by decide) Tryz.underlying23 (by kernel_rfl) (fun _ => rfl) op_api_Node
  exact h
theorem lifted (os : Os) (started : os.Started) (H : Type) (enc : TypeId × Value → H) :
    ReturnsInHanded {} Tryz.checked os 3 .any (fun w args => (Rows.tallyTellsSpec.pre enc Tryz.prog Tryz.f3 Rows.tallyTellsRow.domain false w args ∧ laidMetH Tryz.prog Rows.tallyTellsRow.laid w) ∧ sizedMet enc Tryz.prog Tryz.f3 (OpenSpec.ofChange Rows.tallyTellsSpec) false w args)
      (Rows.tallyTellsSpec.post enc Tryz.prog Tryz.f3 false true false false) := by
  refine returnsInHanded_of_change_and (C := Tryz.checked) (X := fun w _ => laidMetH Tryz.prog Rows.tallyTellsRow.laid w) (fun _ _ _ hh h => h.of_heap hh) own started (by kernel_rfl) Tryz.func3
    (ChangeSpec.witness_shaped (enc := enc) (C := Tryz.checked) (os := os) (X := fun w _ => laidMetH Tryz.prog Rows.tallyTellsRow.laid w) false (World.laidAll Tryz.prog os Rows.tallyTellsRow.laid) #[.slice none 0 0, .slice none 0 0, .string ByteArray.empty] 8 (World.laidAll_os _ _ _)
      (World.shaped_of_ZipB (by kernel_rfl) (by kernel_rfl)) (by kernel_rfl) (by kernel_rfl) (by kernel_rfl)
      (by rw [MakeChecks.laidMetH_plain _ _ _ (by kernel_rfl)]; exact laidMet_laidAll _ (by kernel_rfl) (by kernel_rfl))) ?_
  intro W base args ds gs before hval0 hW hc _ hL _
  have hval : ∀ (j : Nat) t v, Tryz.f3.params[j]? = some t → args[j]? = some v → Value.okWide Tryz.prog W .any base t v := hval0
  have hW' := hW
  obtain ⟨p, q, hA0, hV, rfl, hfz, hnd⟩ := hW
  have hA : DataW.TrodAll enc Tryz.prog W 0 (fun _ => true) true Tryz.f3.params.toList args.toList ds p := hA0
  rw [Tryz.params3] at hA hval
  obtain ⟨v0, vs0, d0, ds0, p0, q0, hargs, rfl, rfl, h0, r0⟩ := trodAll_cons hA
  obtain ⟨v1, vs1, d1, ds1, p1, q1, rfl, rfl, rfl, h1, r1⟩ := trodAll_cons r0
  obtain ⟨v2, vs2, d2, ds2, p2, q2, rfl, rfl, rfl, h2, r2⟩ := trodAll_cons r1
  obtain ⟨rfl, rfl, rfl⟩ := trodAll_nil r2
  obtain rfl : args = #[v0, v1, v2] := by cases args; simp_all
  obtain ⟨rfl, rfl⟩ := trodVars_none hV
  obtain ⟨a0, e0, g0⟩ := par_one (fun hv => one_slice Tryz.underlying22 hv) (fun _ => rfl) op_Lapi_Row (hval 0 22 v0 rfl rfl) h0
  obtain ⟨a1, e1, g1⟩ := par_one (fun hv => one_slice Tryz.underlying23 hv) (fun _ => rfl) op_Lapi_Node (hval 1 23 v1 rfl rfl) h1
  obtain ⟨a2, e2, g2⟩ := par_one (fun hv => one_string Tryz.underlying9 hv) (fun _ => rfl) op_string (hval 2 9 v2 rfl rfl) h2
  clear hA0 hval0
  have walk : PC 3 [(fun l : (List RW) => PV.sl 0 2 (l.map evRw)) a0, (fun l : (List S36) => PV.sl 0 2 (l.map evN)) a1, (fun s : ByteArray => PV.s (.string s)) a2] (.s (.bool true)) := tallyTells_pc a0 a1 a2
  refine (pc_calls walk (noXo_of rfl) (w := W) (vs := [v0, v1, v2]) ⟨e0, e1, e2, trivial⟩).mono fun e W' ⟨he, bel⟩ => ?_
  subst he
  exact ⟨_, rfl, _, _, _, [], _, [], hW', trodAll_mk1 (shut_bool Tryz.underlying4 _), (trodAll_cons_mk (Below.trod laid (by kernel_rfl) (of_decide_eq_true (by kernel_rfl)) h0 bel (fun x hx => by simpa using hW'.lt x (by simp [hx]))) (trodAll_cons_mk (Below.trod laid (by kernel_rfl) (of_decide_eq_true (by kernel_rfl)) h1 bel (fun x hx => by simpa using hW'.lt x (by simp [hx]))) (trodAll_cons_mk (Below.trod laid (by kernel_rfl) (of_decide_eq_true (by kernel_rfl)) h2 bel (fun x hx => by simpa using hW'.lt x (by simp [hx]))) trodAll_mk0))), rfl, bel.frame _, fun h => by cases h⟩
theorem over : Rows.tallyTellsRow.holds Tryz.pinned (OpenSpec.ofChange Rows.tallyTellsSpec) :=
  OpenClaim.holds_of_wide 3 Tryz.f3 rfl rfl rfl rfl rfl rfl rfl ⟨rfl, rfl, rfl, rfl, rfl⟩ rfl rfl rfl rfl rfl (by kernel_rfl) Tryz.func3 (by kernel_rfl)
    (of_decide_eq_true (by kernel_rfl)) (by unfold Func.isWrapper; first | (rw [if_pos (by decide +kernel)]; kernel_rfl) | (rw [if_neg (by decide +kernel)]; exact ⟨rfl, rfl⟩))
    (fun os started H enc _ => lifted os started H enc)
theorem card_holds : Rows.TallyTellsCardSaid :=
  Claim7.holds_tied_plain_at .later [] [.data, .pinned] true (true, "c20eacdb5d4b6c6447f684e226a845d80649233ef8f552204f43ac25df22fee1") false
    over (fun _ h => by cases h) (by kernel_rfl) (fun _ h => by cases h) tallyTells_row_tie rfl ⟨rfl, rfl⟩ (by kernel_rfl) rfl
    (fun f fn hf hfn => by
      obtain rfl : f = 3 := Option.some.inj ((show Tryz.prog.funcNamed "graftwood/graftwoodlaw16.TallyTells" = some 3 by kernel_rfl).symm.trans hf) |>.symm
      obtain rfl : fn = Tryz.f3 := (Option.some.inj (Tryz.func3.symm.trans hfn)).symm
      exact ⟨by kernel_rfl, fun j t ht => by
        rw [Tryz.params3] at ht
        have hm : t ∈ [22, 23, 9] := by simpa using Array.mem_of_getElem? ht
        have hall : ([22, 23, 9].all fun u => !Tryz.prog.wantsStandIn u) = true := by kernel_rfl
        exact (show Tryz.prog.wantsStandIn t = false by simpa using List.all_eq_true.1 hall t hm)⟩)
    (by kernel_rfl)
#print axioms card_holds
end Go.Proofs.YtffjkbbmnfnbaaaGreatDoor.tallyTells
namespace Go.Proofs.YtffjkbbmnfnbaaaGreatDoor
/-- The card, under a short name, for the claim. -/
theorem tallyTells_holds : Rows.TallyTellsCardSaid := tallyTells.card_holds
end Go.Proofs.YtffjkbbmnfnbaaaGreatDoor
