/- LackTells: the given row and its tied card LackTellsCardSaid are proved: the law answers true at every argument that the row admits. No further condition. Written by my program. AUTOMERGED imports. -/
import Derived.Test.YtffcbfclpfchnaaGreatDoorMLackTells0
import Derived.Test.YtffcbfclpfchnaaGreatDoorMLackTells1
import Derived.Test.YtffcbfclpfchnaaGreatDoorMLackTells2
import Derived.Test.YtffcbfclpfchnaaGreatDoorMLackTells3
import Derived.Test.YtffcbfclpfchnaaGreatDoorMLackTells4
import Derived.Test.YtffcbfclpfchnaaGreatDoorMLackTells5
import Derived.Test.YtffcbfclpfchnaaGreatDoorMLackTells6
import Derived.Test.YtffcbfclpfchnaaGreatDoorMLackTells7
import Derived.Test.YtffcbfclpfchnaaGreatDoorMLackTells8
import Derived.Test.YtffcbfclpfchnaaGreatDoorMLackTells9
import Derived.Test.YtffcbfclpfchnaaGreatDoorMLackTells10
import Derived.Test.YtffcbfclpfchnaaGreatDoorMLackTells11
import Derived.Test.YtffcbfclpfchnaaGreatDoorRows
import Derived.Test.YtffcbfclpfchnaaGreatDoorCards
import Derived.Test.YtffcbfclpfchnaaGreatDoorTie
import Derived.WalkKit
import Derived.ProofKit
import Derived.OpenShut
import Derived.ShutString
import Derived.ChangeOld
import Derived.Below
import Derived.SizedLaws
import Derived.LaidMore
import Derived.Lay
import Derived.SevenTiedAt
import Derived.Stop.Joined
import Derived.Lib.SmallJoins
import Derived.Carry
namespace Go.Proofs.YtffcbfclpfchnaaGreatDoor.lackTells
open Go.ChangeShapes Go.WideShapes Go.ChangeAt Go.RowKit
open Go.ChangeMaps (open_string shut_string)
set_option linter.unusedVariables false
set_option maxRecDepth 100000
theorem own : ownKnob Tryz.prog.godebug = none := by kernel_rfl
theorem laid : laidOutB Tryz.prog = true := by kernel_rfl
open Go.Proofs.YtffcbfclpfchnaaGreatDoor.Q Go.Proofs.YtffcbfclpfchnaaGreatDoorW.PrintWords
instance : Inhabited S51 := ⟨z51⟩
theorem opens_needs : Opens Tryz.prog 23 (Kd.slice 51 k51) (goodL (fun x : S51 => (fun y => (fun x : S42 => (fun y => (fun s : ByteArray => s.size ≤ maxLen) y.1 ∧ (fun s : ByteArray => s.size ≤ maxLen) y.2) (x.f0, x.f1)) y.1 ∧ (fun x : S42 => (fun y => (fun s : ByteArray => s.size ≤ maxLen) y.1 ∧ (fun s : ByteArray => s.size ≤ maxLen) y.2) (x.f0, x.f1)) y.2) (x.f0, x.f1))) := (opens_slice Tryz.underlying23 (by kernel_rfl) (opens_struct (fun x : S51 => (x.f0, x.f1)) (fun y => ⟨y.1, y.2⟩) (fun _ => rfl) Tryz.underlying51 (by kernel_rfl) (opensF_cons rfl (by kernel_rfl) (opens_struct (fun x : S42 => (x.f0, x.f1)) (fun y => ⟨y.1, y.2⟩) (fun _ => rfl) Tryz.underlying42 (by kernel_rfl) (opensF_cons rfl (by kernel_rfl) (opens_string Tryz.underlying9) (opensF_one rfl (by kernel_rfl) (opens_string Tryz.underlying9)) (by intro g hg; simp at hg; first | (subst hg; decide) | (rcases hg with rfl | rfl <;> decide)))) (opensF_one rfl (by kernel_rfl) (opens_struct (fun x : S42 => (x.f0, x.f1)) (fun y => ⟨y.1, y.2⟩) (fun _ => rfl) Tryz.underlying42 (by kernel_rfl) (opensF_cons rfl (by kernel_rfl) (opens_string Tryz.underlying9) (opensF_one rfl (by kernel_rfl) (opens_string Tryz.underlying9)) (by intro g hg; simp at hg; first | (subst hg; decide) | (rcases hg with rfl | rfl <;> decide))))) (by intro g hg; simp at hg; first | (subst hg; decide) | (rcases hg with rfl | rfl <;> decide)))))
instance : Inhabited S42 := ⟨z42⟩
theorem opens_nodes : Opens Tryz.prog 22 (Kd.slice 42 k42) (goodL (fun x : S42 => (fun y => (fun s : ByteArray => s.size ≤ maxLen) y.1 ∧ (fun s : ByteArray => s.size ≤ maxLen) y.2) (x.f0, x.f1))) := (opens_slice Tryz.underlying22 (by kernel_rfl) (opens_struct (fun x : S42 => (x.f0, x.f1)) (fun y => ⟨y.1, y.2⟩) (fun _ => rfl) Tryz.underlying42 (by kernel_rfl) (opensF_cons rfl (by kernel_rfl) (opens_string Tryz.underlying9) (opensF_one rfl (by kernel_rfl) (opens_string Tryz.underlying9)) (by intro g hg; simp at hg; first | (subst hg; decide) | (rcases hg with rfl | rfl <;> decide)))))
set_option maxRecDepth 100000 in
theorem lifted (os : Os) (started : os.Started) (H : Type) (enc : TypeId × Value → H) :
    ReturnsInHanded {} Tryz.checked os 3 .any (fun w args => (Rows.lackTellsSpec.pre enc Tryz.prog Tryz.f3 Rows.lackTellsRow.domain false w args ∧ laidMetH Tryz.prog Rows.lackTellsRow.laid w) ∧ sizedMet enc Tryz.prog Tryz.f3 (OpenSpec.ofChange Rows.lackTellsSpec) false w args)
      (Rows.lackTellsSpec.post enc Tryz.prog Tryz.f3 false true false false) := by
  refine returnsInHanded_of_change_and (C := Tryz.checked) (X := fun w _ => laidMetH Tryz.prog Rows.lackTellsRow.laid w) (fun _ _ _ hh h => h.of_heap hh) own started (by kernel_rfl) Tryz.func3
    (ChangeSpec.witness_shaped (enc := enc) (C := Tryz.checked) (os := os) (X := fun w _ => laidMetH Tryz.prog Rows.lackTellsRow.laid w) false (World.laidAll Tryz.prog os Rows.lackTellsRow.laid) #[.slice none 0 0, .slice none 0 0, .slice none 0 0] 8 (World.laidAll_os _ _ _)
      (World.shaped_of_ZipB (by kernel_rfl) (by kernel_rfl)) (by kernel_rfl) (by kernel_rfl) (by kernel_rfl)
      (by rw [MakeChecks.laidMetH_plain _ _ _ (by kernel_rfl)]; exact laidMet_laidAll _ (by kernel_rfl) (by kernel_rfl))) ?_
  intro W base args ds gs before hval0 hW hc _ hL _
  have hval : ∀ (j : Nat) t v, Tryz.f3.params[j]? = some t → args[j]? = some v → Value.okWide Tryz.prog W .any base t v := hval0
  have hW' := hW
  obtain ⟨p, q, hA0, hV, rfl, hfz, hnd⟩ := hW
  have hA : DataW.TrodAll enc Tryz.prog W 0 (fun _ => true) true Tryz.f3.params.toList args.toList ds p := hA0
  rw [Tryz.params3] at hA hval
  obtain ⟨v0, vs0, d0, ds0, p0, q0, hargs, rfl, rfl, h0, r0⟩ := trodAll_cons hA
  obtain ⟨v1, vs1, d1, ds1, p1, q1, rfl, rfl, rfl, h1, r1⟩ := trodAll_cons r0
  obtain ⟨v2, vs2, d2, ds2, p2, q2, rfl, rfl, rfl, h2, r2⟩ := trodAll_cons r1
  obtain ⟨rfl, rfl, rfl⟩ := trodAll_nil r2
  obtain rfl : args = #[v0, v1, v2] := by cases args; simp_all
  obtain ⟨rfl, rfl⟩ := trodVars_none hV
  obtain ⟨A0, a0, c0, rfl, lc0, C0, g0⟩ := open_list Tryz.underlying22 opens_nodes (hval 0 22 v0 rfl rfl) h0
  obtain ⟨A1, a1, c1, rfl, lc1, C1, g1⟩ := open_list Tryz.underlying22 opens_nodes (hval 1 22 v1 rfl rfl) h1
  obtain ⟨A2, a2, c2, rfl, lc2, C2, g2⟩ := open_list Tryz.underlying23 opens_needs (hval 2 23 v2 rfl rfl) h2
  clear hA0 hval0
  refine (Go.Proofs.YtffcbfclpfchnaaGreatDoor.Q.graftwoodlaw18_LackTells.calls 150002 A0 c0 a0 A1 c1 a1 A2 c2 a2 true W C0 lc0 C1 lc1 C2 lc2 (Go.Proofs.YtffcbfclpfchnaaGreatDoor.Q.lackTells_true a0 a1 a2) ⟨rfl⟩).mono fun e W' ⟨he, bel⟩ => ?_
  subst he
  exact ⟨_, rfl, _, _, _, [], _, [], hW', trodAll_mk1 (shut_bool Tryz.underlying4 _), (trodAll_cons_mk (Below.trod laid (by kernel_rfl) (of_decide_eq_true (by kernel_rfl)) h0 bel (fun x hx => by simpa using hW'.lt x (by simp [hx]))) (trodAll_cons_mk (Below.trod laid (by kernel_rfl) (of_decide_eq_true (by kernel_rfl)) h1 bel (fun x hx => by simpa using hW'.lt x (by simp [hx]))) (trodAll_cons_mk (Below.trod laid (by kernel_rfl) (of_decide_eq_true (by kernel_rfl)) h2 bel (fun x hx => by simpa using hW'.lt x (by simp [hx]))) trodAll_mk0))), rfl, bel.frame _, fun h => by cases h⟩
theorem over : Rows.lackTellsRow.holds Tryz.pinned (OpenSpec.ofChange Rows.lackTellsSpec) :=
  OpenClaim.holds_of_wide 3 Tryz.f3 rfl rfl rfl rfl rfl rfl rfl ⟨rfl, rfl, rfl, rfl, rfl⟩ rfl rfl rfl rfl rfl (by kernel_rfl) Tryz.func3 (by kernel_rfl)
    (of_decide_eq_true (by kernel_rfl)) (by unfold Func.isWrapper; first | (rw [if_pos (by decide +kernel)]; kernel_rfl) | (rw [if_neg (by decide +kernel)]; exact ⟨rfl, rfl⟩))
    (fun os started H enc _ => lifted os started H enc)
theorem card_holds : Rows.LackTellsCardSaid :=
  Claim7.holds_tied_plain_at .later [] [.data, .pinned] true (true, "95f665821d08536322438f78d095a495caced59516321bb8ce35d7892da57b8c") false
    over (fun _ h => by cases h) (by kernel_rfl) (fun _ h => by cases h) lackTells_row_tie rfl ⟨rfl, rfl⟩ (by kernel_rfl) rfl
    (fun f fn hf hfn => by
      obtain rfl : f = 3 := Option.some.inj ((show Tryz.prog.funcNamed "graftwood/graftwoodlaw18.LackTells" = some 3 by kernel_rfl).symm.trans hf) |>.symm
      obtain rfl : fn = Tryz.f3 := (Option.some.inj (Tryz.func3.symm.trans hfn)).symm
      exact ⟨by kernel_rfl, fun j t ht => by
        rw [Tryz.params3] at ht
        have hm : t ∈ [22, 22, 23] := by simpa using Array.mem_of_getElem? ht
        have hall : ([22, 22, 23].all fun u => !Tryz.prog.wantsStandIn u) = true := by kernel_rfl
        exact (show Tryz.prog.wantsStandIn t = false by simpa using List.all_eq_true.1 hall t hm)⟩)
    (by kernel_rfl)
#print axioms card_holds
end Go.Proofs.YtffcbfclpfchnaaGreatDoor.lackTells
namespace Go.Proofs.YtffcbfclpfchnaaGreatDoor
/-- The card, under a short name, for the claim. -/
theorem lackTells_holds : Rows.LackTellsCardSaid := lackTells.card_holds
end Go.Proofs.YtffcbfclpfchnaaGreatDoor
