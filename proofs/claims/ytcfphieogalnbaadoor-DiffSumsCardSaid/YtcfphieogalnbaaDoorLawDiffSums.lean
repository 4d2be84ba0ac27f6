/- DiffSums: the given row and its tied card DiffSumsCardSaid are proved: the law answers true at every argument that the row admits. No further condition. Written by my program. AUTOMERGED imports. -/
import Derived.Test.YtcfphieogalnbaaDoorMDiffSums0
import Derived.Test.YtcfphieogalnbaaDoorMDiffSums1
import Derived.Test.YtcfphieogalnbaaDoorMDiffSums2
import Derived.Test.YtcfphieogalnbaaDoorMDiffSums3
import Derived.Test.YtcfphieogalnbaaDoorMDiffSums4
import Derived.Test.YtcfphieogalnbaaDoorMDiffSums5
import Derived.Test.YtcfphieogalnbaaDoorMDiffSums6
import Derived.Test.YtcfphieogalnbaaDoorRows
import Derived.Test.YtcfphieogalnbaaDoorCards
import Derived.Test.YtcfphieogalnbaaDoorTie
import Derived.WalkKit
import Derived.ProofKit
import Derived.OpenShut
import Derived.ShutString
import Derived.ChangeOld
import Derived.Below
import Derived.SizedLaws
import Derived.LaidMore
import Derived.Lay
import Derived.SevenTiedAt
import Derived.Stop.Joined
import Derived.Lib.SmallJoins
import Derived.Carry
namespace Go.Proofs.YtcfphieogalnbaaDoor.diffSums
open Go.ChangeShapes Go.WideShapes Go.ChangeAt Go.RowKit
open Go.ChangeMaps (open_string shut_string)
set_option linter.unusedVariables false
set_option maxRecDepth 100000
theorem own : ownKnob Tryd.prog.godebug = none := by kernel_rfl
theorem laid : laidOutB Tryd.prog = true := by kernel_rfl
open Go.Proofs.YtcfphieogalnbaaDoor.Q Go.Proofs.YtcfphieogalnbaaDoorW.PrintWords
instance : Inhabited S30 := ⟨z30⟩
theorem opens_nodes : Opens Tryd.prog 22 (Kd.slice 30 k30) (goodL (fun x : S30 => (fun y => (fun s : ByteArray => s.size ≤ maxLen) y.1 ∧ (fun s : ByteArray => s.size ≤ maxLen) y.2) (x.f0, x.f1))) := (opens_slice Tryd.underlying22 (by kernel_rfl) (opens_struct (fun x : S30 => (x.f0, x.f1)) (fun y => ⟨y.1, y.2⟩) (fun _ => rfl) Tryd.underlying30 (by kernel_rfl) (opensF_cons rfl (by kernel_rfl) (opens_string Tryd.underlying9) (opensF_one rfl (by kernel_rfl) (opens_string Tryd.underlying9)) (by intro g hg; simp at hg; first | (subst hg; decide) | (rcases hg with rfl | rfl <;> decide)))))
set_option maxRecDepth 100000 in
theorem lifted (os : Os) (started : os.Started) (H : Type) (enc : TypeId × Value → H) :
    ReturnsInHanded {} Tryd.checked os 3 .any (fun w args => (Rows.diffSumsSpec.pre enc Tryd.prog Tryd.f3 Rows.diffSumsRow.domain false w args ∧ laidMetH Tryd.prog Rows.diffSumsRow.laid w) ∧ sizedMet enc Tryd.prog Tryd.f3 (OpenSpec.ofChange Rows.diffSumsSpec) false w args)
      (Rows.diffSumsSpec.post enc Tryd.prog Tryd.f3 false true false false) := by
  refine returnsInHanded_of_change_and (C := Tryd.checked) (X := fun w _ => laidMetH Tryd.prog Rows.diffSumsRow.laid w) (fun _ _ _ hh h => h.of_heap hh) own started (by kernel_rfl) Tryd.func3
    (ChangeSpec.witness_shaped (enc := enc) (C := Tryd.checked) (os := os) (X := fun w _ => laidMetH Tryd.prog Rows.diffSumsRow.laid w) false (World.laidAll Tryd.prog os Rows.diffSumsRow.laid) #[.slice none 0 0, .slice none 0 0] 8 (World.laidAll_os _ _ _)
      (World.shaped_of_ZipB (by kernel_rfl) (by kernel_rfl)) (by kernel_rfl) (by kernel_rfl) (by kernel_rfl)
      (by rw [MakeChecks.laidMetH_plain _ _ _ (by kernel_rfl)]; exact laidMet_laidAll _ (by kernel_rfl) (by kernel_rfl))) ?_
  intro W base args ds gs before hval0 hW hc _ hL _
  have hval : ∀ (j : Nat) t v, Tryd.f3.params[j]? = some t → args[j]? = some v → Value.okWide Tryd.prog W .any base t v := hval0
  have hW' := hW
  obtain ⟨p, q, hA0, hV, rfl, hfz, hnd⟩ := hW
  have hA : DataW.TrodAll enc Tryd.prog W 0 (fun _ => true) true Tryd.f3.params.toList args.toList ds p := hA0
  rw [Tryd.params3] at hA hval
  obtain ⟨v0, vs0, d0, ds0, p0, q0, hargs, rfl, rfl, h0, r0⟩ := trodAll_cons hA
  obtain ⟨v1, vs1, d1, ds1, p1, q1, rfl, rfl, rfl, h1, r1⟩ := trodAll_cons r0
  obtain ⟨rfl, rfl, rfl⟩ := trodAll_nil r1
  obtain rfl : args = #[v0, v1] := by cases args; simp_all
  obtain ⟨rfl, rfl⟩ := trodVars_none hV
  obtain ⟨A0, a0, c0, rfl, lc0, C0, g0⟩ := open_list Tryd.underlying22 opens_nodes (hval 0 22 v0 rfl rfl) h0
  obtain ⟨A1, a1, c1, rfl, lc1, C1, g1⟩ := open_list Tryd.underlying22 opens_nodes (hval 1 22 v1 rfl rfl) h1
  clear hA0 hval0
  refine (Go.Proofs.YtcfphieogalnbaaDoor.Q.dsums_calls A0 c0 a0 A1 c1 a1 W ⟨lc0, C0⟩ ⟨lc1, C1⟩).mono fun e W' ⟨he, bel⟩ => ?_
  subst he
  exact ⟨_, rfl, _, _, _, [], _, [], hW', trodAll_mk1 (shut_bool Tryd.underlying4 _), (trodAll_cons_mk (Below.trod laid (by kernel_rfl) (of_decide_eq_true (by kernel_rfl)) h0 bel (fun x hx => by simpa using hW'.lt x (by simp [hx]))) (trodAll_cons_mk (Below.trod laid (by kernel_rfl) (of_decide_eq_true (by kernel_rfl)) h1 bel (fun x hx => by simpa using hW'.lt x (by simp [hx]))) trodAll_mk0)), rfl, bel.frame _, fun h => by cases h⟩
theorem over : Rows.diffSumsRow.holds Tryd.pinned (OpenSpec.ofChange Rows.diffSumsSpec) :=
  OpenClaim.holds_of_wide 3 Tryd.f3 rfl rfl rfl rfl rfl rfl rfl ⟨rfl, rfl, rfl, rfl, rfl⟩ rfl rfl rfl rfl rfl (by kernel_rfl) Tryd.func3 (by kernel_rfl)
    (of_decide_eq_true (by kernel_rfl)) (by unfold Func.isWrapper; first | (rw [if_pos (by decide +kernel)]; kernel_rfl) | (rw [if_neg (by decide +kernel)]; exact ⟨rfl, rfl⟩))
    (fun os started H enc _ => lifted os started H enc)
theorem card_holds : Rows.DiffSumsCardSaid :=
  Claim7.holds_tied_plain_at .later [] [.data, .pinned] true (true, "401798dc66044f26a28e178babd0f116b21ae0d0f925ded20a0f7471a30a9297") false
    over (fun _ h => by cases h) (by kernel_rfl) (fun _ h => by cases h) diffSums_row_tie rfl ⟨rfl, rfl⟩ (by kernel_rfl) rfl
    (fun f fn hf hfn => by
      obtain rfl : f = 3 := Option.some.inj ((show Tryd.prog.funcNamed "graftwood/graftwoodlaw13.DiffSums" = some 3 by kernel_rfl).symm.trans hf) |>.symm
      obtain rfl : fn = Tryd.f3 := (Option.some.inj (Tryd.func3.symm.trans hfn)).symm
      exact ⟨by kernel_rfl, fun j t ht => by
        rw [Tryd.params3] at ht
        have hm : t ∈ [22, 22] := by simpa using Array.mem_of_getElem? ht
        have hall : ([22, 22].all fun u => !Tryd.prog.wantsStandIn u) = true := by kernel_rfl
        exact (show Tryd.prog.wantsStandIn t = false by simpa using List.all_eq_true.1 hall t hm)⟩)
    (by kernel_rfl)
#print axioms card_holds
end Go.Proofs.YtcfphieogalnbaaDoor.diffSums
namespace Go.Proofs.YtcfphieogalnbaaDoor
/-- The card, under a short name, for the claim. -/
theorem diffSums_holds : Rows.DiffSumsCardSaid := diffSums.card_holds
end Go.Proofs.YtcfphieogalnbaaDoor
