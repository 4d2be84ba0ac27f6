/- LackRoots: the given row and its tied card LackRootsCardSaid are proved: the law answers true at every argument that the row admits. No further condition. Written by my program. AUTOMERGED imports. -/
import Derived.Test.YtffcbfclpfchnaaDoorMLackRoots0
import Derived.Test.YtffcbfclpfchnaaDoorMLackRoots1
import Derived.Test.YtffcbfclpfchnaaDoorMLackRoots2
import Derived.Test.YtffcbfclpfchnaaDoorMLackRoots3
import Derived.Test.YtffcbfclpfchnaaDoorMLackRoots4
import Derived.Test.YtffcbfclpfchnaaDoorMLackRoots5
import Derived.Test.YtffcbfclpfchnaaDoorMLackRoots6
import Derived.Test.YtffcbfclpfchnaaDoorMLackRoots7
import Derived.Test.YtffcbfclpfchnaaDoorMLackRoots8
import Derived.Test.YtffcbfclpfchnaaDoorMLackRoots9
import Derived.Test.YtffcbfclpfchnaaDoorRows
import Derived.Test.YtffcbfclpfchnaaDoorCards
import Derived.Test.YtffcbfclpfchnaaDoorTie
import Derived.WalkKit
import Derived.ProofKit
import Derived.OpenShut
import Derived.ShutString
import Derived.ChangeOld
import Derived.Below
import Derived.SizedLaws
import Derived.LaidMore
import Derived.Lay
import Derived.SevenTiedAt
import Derived.Stop.Joined
import Derived.Lib.SmallJoins
import Derived.Carry
namespace Go.Proofs.YtffcbfclpfchnaaDoor.lackRoots
open Go.ChangeShapes Go.WideShapes Go.ChangeAt Go.RowKit
open Go.ChangeMaps (open_string shut_string)
set_option linter.unusedVariables false
set_option maxRecDepth 100000
theorem own : ownKnob Tryd.prog.godebug = none := by kernel_rfl
theorem laid : laidOutB Tryd.prog = true := by kernel_rfl
open Go.Proofs.YtffcbfclpfchnaaDoor.Q Go.Proofs.YtffcbfclpfchnaaDoorW.PrintWords
instance : Inhabited S33 := ⟨z33⟩
theorem opens_needs : Opens Tryd.prog 23 (Kd.slice 33 k33) (goodL (fun x : S33 => (fun y => (fun x : S31 => (fun y => (fun s : ByteArray => s.size ≤ maxLen) y.1 ∧ (fun s : ByteArray => s.size ≤ maxLen) y.2) (x.f0, x.f1)) y.1 ∧ (fun x : S31 => (fun y => (fun s : ByteArray => s.size ≤ maxLen) y.1 ∧ (fun s : ByteArray => s.size ≤ maxLen) y.2) (x.f0, x.f1)) y.2) (x.f0, x.f1))) := (opens_slice Tryd.underlying23 (by kernel_rfl) (opens_struct (fun x : S33 => (x.f0, x.f1)) (fun y => ⟨y.1, y.2⟩) (fun _ => rfl) Tryd.underlying33 (by kernel_rfl) (opensF_cons rfl (by kernel_rfl) (opens_struct (fun x : S31 => (x.f0, x.f1)) (fun y => ⟨y.1, y.2⟩) (fun _ => rfl) Tryd.underlying31 (by kernel_rfl) (opensF_cons rfl (by kernel_rfl) (opens_string Tryd.underlying9) (opensF_one rfl (by kernel_rfl) (opens_string Tryd.underlying9)) (by intro g hg; simp at hg; first | (subst hg; decide) | (rcases hg with rfl | rfl <;> decide)))) (opensF_one rfl (by kernel_rfl) (opens_struct (fun x : S31 => (x.f0, x.f1)) (fun y => ⟨y.1, y.2⟩) (fun _ => rfl) Tryd.underlying31 (by kernel_rfl) (opensF_cons rfl (by kernel_rfl) (opens_string Tryd.underlying9) (opensF_one rfl (by kernel_rfl) (opens_string Tryd.underlying9)) (by intro g hg; simp at hg; first | (subst hg; decide) | (rcases hg with rfl | rfl <;> decide))))) (by intro g hg; simp at hg; first | (subst hg; decide) | (rcases hg with rfl | rfl <;> decide)))))
instance : Inhabited S31 := ⟨z31⟩
theorem opens_nodes : Opens Tryd.prog 22 (Kd.slice 31 k31) (goodL (fun x : S31 => (fun y => (fun s : ByteArray => s.size ≤ maxLen) y.1 ∧ (fun s : ByteArray => s.size ≤ maxLen) y.2) (x.f0, x.f1))) := (opens_slice Tryd.underlying22 (by kernel_rfl) (opens_struct (fun x : S31 => (x.f0, x.f1)) (fun y => ⟨y.1, y.2⟩) (fun _ => rfl) Tryd.underlying31 (by kernel_rfl) (opensF_cons rfl (by kernel_rfl) (opens_string Tryd.underlying9) (opensF_one rfl (by kernel_rfl) (opens_string Tryd.underlying9)) (by intro g hg; simp at hg; first | (subst hg; decide) | (rcases hg with rfl | rfl <;> decide)))))
set_option maxRecDepth 100000 in
theorem lifted (os : Os) (started : os.Started) (H : Type) (enc : TypeId × Value → H) :
    ReturnsInHanded {} Tryd.checked os 4 .any (fun w args => (Rows.lackRootsSpec.pre enc Tryd.prog Tryd.f4 Rows.lackRootsRow.domain false w args ∧ laidMetH Tryd.prog Rows.lackRootsRow.laid w) ∧ sizedMet enc Tryd.prog Tryd.f4 (OpenSpec.ofChange Rows.lackRootsSpec) false w args)
      (Rows.lackRootsSpec.post enc Tryd.prog Tryd.f4 false true false false) := by
  refine returnsInHanded_of_change_and (C := Tryd.checked) (X := fun w _ => laidMetH Tryd.prog Rows.lackRootsRow.laid w) (fun _ _ _ hh h => h.of_heap hh) own started (by kernel_rfl) Tryd.func4
    (ChangeSpec.witness_shaped (enc := enc) (C := Tryd.checked) (os := os) (X := fun w _ => laidMetH Tryd.prog Rows.lackRootsRow.laid w) false (World.laidAll Tryd.prog os Rows.lackRootsRow.laid) #[.slice none 0 0, .slice none 0 0] 8 (World.laidAll_os _ _ _)
      (World.shaped_of_ZipB (by kernel_rfl) (by kernel_rfl)) (by kernel_rfl) (by kernel_rfl) (by kernel_rfl)
      (by rw [MakeChecks.laidMetH_plain _ _ _ (by kernel_rfl)]; exact laidMet_laidAll _ (by kernel_rfl) (by kernel_rfl))) ?_
  intro W base args ds gs before hval0 hW hc _ hL _
  have hval : ∀ (j : Nat) t v, Tryd.f4.params[j]? = some t → args[j]? = some v → Value.okWide Tryd.prog W .any base t v := hval0
  have hW' := hW
  obtain ⟨p, q, hA0, hV, rfl, hfz, hnd⟩ := hW
  have hA : DataW.TrodAll enc Tryd.prog W 0 (fun _ => true) true Tryd.f4.params.toList args.toList ds p := hA0
  rw [Tryd.params4] at hA hval
  obtain ⟨v0, vs0, d0, ds0, p0, q0, hargs, rfl, rfl, h0, r0⟩ := trodAll_cons hA
  obtain ⟨v1, vs1, d1, ds1, p1, q1, rfl, rfl, rfl, h1, r1⟩ := trodAll_cons r0
  obtain ⟨rfl, rfl, rfl⟩ := trodAll_nil r1
  obtain rfl : args = #[v0, v1] := by cases args; simp_all
  obtain ⟨rfl, rfl⟩ := trodVars_none hV
  obtain ⟨A0, a0, c0, rfl, lc0, C0, g0⟩ := open_list Tryd.underlying22 opens_nodes (hval 0 22 v0 rfl rfl) h0
  obtain ⟨A1, a1, c1, rfl, lc1, C1, g1⟩ := open_list Tryd.underlying23 opens_needs (hval 1 23 v1 rfl rfl) h1
  clear hA0 hval0
  refine (Go.Proofs.YtffcbfclpfchnaaDoor.Q.graftwoodlaw18_LackRoots.calls 4000 A0 c0 a0 A1 c1 a1 true W C0 lc0 C1 lc1 (Go.Proofs.YtffcbfclpfchnaaDoor.Q.lackRoots_true a0 a1) ⟨rfl⟩).mono fun e W' ⟨he, bel⟩ => ?_
  subst he
  exact ⟨_, rfl, _, _, _, [], _, [], hW', trodAll_mk1 (shut_bool Tryd.underlying4 _), (trodAll_cons_mk (Below.trod laid (by kernel_rfl) (of_decide_eq_true (by kernel_rfl)) h0 bel (fun x hx => by simpa using hW'.lt x (by simp [hx]))) (trodAll_cons_mk (Below.trod laid (by kernel_rfl) (of_decide_eq_true (by kernel_rfl)) h1 bel (fun x hx => by simpa using hW'.lt x (by simp [hx]))) trodAll_mk0)), rfl, bel.frame _, fun h => by cases h⟩
theorem over : Rows.lackRootsRow.holds Tryd.pinned (OpenSpec.ofChange Rows.lackRootsSpec) :=
  OpenClaim.holds_of_wide 4 Tryd.f4 rfl rfl rfl rfl rfl rfl rfl ⟨rfl, rfl, rfl, rfl, rfl⟩ rfl rfl rfl rfl rfl (by kernel_rfl) Tryd.func4 (by kernel_rfl)
    (of_decide_eq_true (by kernel_rfl)) (by unfold Func.isWrapper; first | (rw [if_pos (by decide +kernel)]; kernel_rfl) | (rw [if_neg (by decide +kernel)]; exact ⟨rfl, rfl⟩))
    (fun os started H enc _ => lifted os started H enc)
theorem card_holds : Rows.LackRootsCardSaid :=
  Claim7.holds_tied_plain_at .later [] [.data, .pinned] true (true, "5ef1ade54283c0eb95c6ac4e0f6d4a4edd58232b47b52343f6ea4adc1b0a1c15") false
    over (fun _ h => by cases h) (by kernel_rfl) (fun _ h => by cases h) lackRoots_row_tie rfl ⟨rfl, rfl⟩ (by kernel_rfl) rfl
    (fun f fn hf hfn => by
      obtain rfl : f = 4 := Option.some.inj ((show Tryd.prog.funcNamed "graftwood/graftwoodlaw18.LackRoots" = some 4 by kernel_rfl).symm.trans hf) |>.symm
      obtain rfl : fn = Tryd.f4 := (Option.some.inj (Tryd.func4.symm.trans hfn)).symm
      exact ⟨by kernel_rfl, fun j t ht => by
        rw [Tryd.params4] at ht
        have hm : t ∈ [22, 23] := by simpa using Array.mem_of_getElem? ht
        have hall : ([22, 23].all fun u => !Tryd.prog.wantsStandIn u) = true := by kernel_rfl
        exact (show Tryd.prog.wantsStandIn t = false by simpa using List.all_eq_true.1 hall t hm)⟩)
    (by kernel_rfl)
#print axioms card_holds
end Go.Proofs.YtffcbfclpfchnaaDoor.lackRoots
namespace Go.Proofs.YtffcbfclpfchnaaDoor
/-- The card, under a short name, for the claim. -/
theorem lackRoots_holds : Rows.LackRootsCardSaid := lackRoots.card_holds
end Go.Proofs.YtffcbfclpfchnaaDoor
