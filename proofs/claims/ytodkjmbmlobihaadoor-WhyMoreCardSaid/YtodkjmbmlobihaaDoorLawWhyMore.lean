/- WhyMore: the given row and its tied card WhyMoreCardSaid are proved: the law answers true at every argument that the row admits. No further condition. Written by my program. AUTOMERGED imports. -/
import Derived.Test.YtodkjmbmlobihaaDoorMWhyMore0
import Derived.Test.YtodkjmbmlobihaaDoorMWhyMore1
import Derived.Test.YtodkjmbmlobihaaDoorMWhyMore2
import Derived.Test.YtodkjmbmlobihaaDoorMWhyMore3
import Derived.Test.YtodkjmbmlobihaaDoorMWhyMore4
import Derived.Test.YtodkjmbmlobihaaDoorMWhyMore5
import Derived.Test.YtodkjmbmlobihaaDoorMWhyMore6
import Derived.Test.YtodkjmbmlobihaaDoorMWhyMore7
import Derived.Test.YtodkjmbmlobihaaDoorMWhyMore8
import Derived.Test.YtodkjmbmlobihaaDoorMWhyMore9
import Derived.Test.YtodkjmbmlobihaaDoorMWhyMore10
import Derived.Test.YtodkjmbmlobihaaDoorMWhyMore11
import Derived.Test.YtodkjmbmlobihaaDoorRows
import Derived.Test.YtodkjmbmlobihaaDoorCards
import Derived.Test.YtodkjmbmlobihaaDoorTie
import Derived.WalkKit
import Derived.ProofKit
import Derived.OpenShut
import Derived.ShutString
import Derived.ChangeOld
import Derived.Below
import Derived.SizedLaws
import Derived.LaidMore
import Derived.Lay
import Derived.SevenTiedAt
import Derived.Stop.Joined
import Derived.Lib.SmallJoins
import Derived.Carry
namespace Go.Proofs.YtodkjmbmlobihaaDoor.whyMore
open Go.ChangeShapes Go.WideShapes Go.ChangeAt Go.RowKit
open Go.ChangeMaps (open_string shut_string)
set_option linter.unusedVariables false
set_option maxRecDepth 100000
theorem own : ownKnob Tryd.prog.godebug = none := by kernel_rfl
theorem laid : laidOutB Tryd.prog = true := by kernel_rfl
theorem cells_node : Tryd.prog.cellsOf 24 = 2 := by kernel_rfl
section
variable {H : Type} {enc : TypeId × Value → H} {w : World} {base : Nat} {spare : Nat → Bool} {held : Bool}
theorem open_node {r : Reach} {b0 : Nat} {v : Value} {d : DataW H} {p : List MemPlace} (hv : Value.okWide Tryd.prog w r b0 24 v) (h : DataW.Trod enc Tryd.prog w base spare held 24 v d p) :
    ∃ s t : ByteArray, v = .agg #[.string s, .string t] ∧ d = .agg [.lit (.string s.data.toList), .lit (.string t.data.toList)] ∧ p = [] ∧ s.size ≤ maxLen ∧ t.size ≤ maxLen := by
  obtain ⟨c0, c1, y0, y1, m, rfl, rfl, rfl, hy0, hy1⟩ := Go.Joins.open_agg2 Tryd.underlying24 (by kernel_rfl) cells_node hv h
  obtain ⟨s, e0, rfl, hs⟩ := DataW.trod_string Tryd.underlying9 hy0
  obtain ⟨t, e1, rfl, ht⟩ := DataW.trod_string Tryd.underlying9 hy1
  simp at e0 e1
  subst e0 e1
  exact ⟨s, t, rfl, rfl, rfl, hs, ht⟩
theorem shut_node {s t : ByteArray} (hs : s.size ≤ maxLen) (ht : t.size ≤ maxLen) : DataW.Trod enc Tryd.prog w base spare held 24 (.agg #[.string s, .string t]) (.agg [.lit (.string s.data.toList), .lit (.string t.data.toList)]) [] :=
  Go.Joins.shut_agg2 (y0 := (.lit (.string s.data.toList), [])) (y1 := (.lit (.string t.data.toList), [])) Tryd.underlying24 (by kernel_rfl) cells_node ⟨1, by simp [DataW.trod, Tryd.underlying9, hs]⟩ ⟨1, by simp [DataW.trod, Tryd.underlying9, ht]⟩
end
open Go.Proofs.YtodkjmbmlobihaaDoor.Q Go.Proofs.YtodkjmbmlobihaaDoorW.PrintWords
instance : Inhabited S34 := ⟨z34⟩
theorem opens_needs : Opens Tryd.prog 22 (Kd.slice 34 k34) (goodL (fun x : S34 => (fun y => (fun x : S24 => (fun y => (fun s : ByteArray => s.size ≤ maxLen) y.1 ∧ (fun s : ByteArray => s.size ≤ maxLen) y.2) (x.f0, x.f1)) y.1 ∧ (fun x : S24 => (fun y => (fun s : ByteArray => s.size ≤ maxLen) y.1 ∧ (fun s : ByteArray => s.size ≤ maxLen) y.2) (x.f0, x.f1)) y.2) (x.f0, x.f1))) := (opens_slice Tryd.underlying22 (by kernel_rfl) (opens_struct (fun x : S34 => (x.f0, x.f1)) (fun y => ⟨y.1, y.2⟩) (fun _ => rfl) Tryd.underlying34 (by kernel_rfl) (opensF_cons rfl (by kernel_rfl) (opens_struct (fun x : S24 => (x.f0, x.f1)) (fun y => ⟨y.1, y.2⟩) (fun _ => rfl) Tryd.underlying24 (by kernel_rfl) (opensF_cons rfl (by kernel_rfl) (opens_string Tryd.underlying9) (opensF_one rfl (by kernel_rfl) (opens_string Tryd.underlying9)) (by intro g hg; simp at hg; first | (subst hg; decide) | (rcases hg with rfl | rfl <;> decide)))) (opensF_one rfl (by kernel_rfl) (opens_struct (fun x : S24 => (x.f0, x.f1)) (fun y => ⟨y.1, y.2⟩) (fun _ => rfl) Tryd.underlying24 (by kernel_rfl) (opensF_cons rfl (by kernel_rfl) (opens_string Tryd.underlying9) (opensF_one rfl (by kernel_rfl) (opens_string Tryd.underlying9)) (by intro g hg; simp at hg; first | (subst hg; decide) | (rcases hg with rfl | rfl <;> decide))))) (by intro g hg; simp at hg; first | (subst hg; decide) | (rcases hg with rfl | rfl <;> decide)))))
set_option maxRecDepth 100000 in
theorem lifted (os : Os) (started : os.Started) (H : Type) (enc : TypeId × Value → H) :
    ReturnsInHanded {} Tryd.checked os 4 .any (fun w args => (Rows.whyMoreSpec.pre enc Tryd.prog Tryd.f4 Rows.whyMoreRow.domain false w args ∧ laidMetH Tryd.prog Rows.whyMoreRow.laid w) ∧ sizedMet enc Tryd.prog Tryd.f4 (OpenSpec.ofChange Rows.whyMoreSpec) false w args)
      (Rows.whyMoreSpec.post enc Tryd.prog Tryd.f4 false true false false) := by
  refine returnsInHanded_of_change_and (C := Tryd.checked) (X := fun w _ => laidMetH Tryd.prog Rows.whyMoreRow.laid w) (fun _ _ _ hh h => h.of_heap hh) own started (by kernel_rfl) Tryd.func4
    (ChangeSpec.witness_shaped (enc := enc) (C := Tryd.checked) (os := os) (X := fun w _ => laidMetH Tryd.prog Rows.whyMoreRow.laid w) false (World.laidAll Tryd.prog os Rows.whyMoreRow.laid) #[.slice none 0 0, .slice none 0 0, .agg #[.string ByteArray.empty, .string ByteArray.empty]] 8 (World.laidAll_os _ _ _)
      (World.shaped_of_ZipB (by kernel_rfl) (by kernel_rfl)) (by kernel_rfl) (by kernel_rfl) (by kernel_rfl)
      (by rw [MakeChecks.laidMetH_plain _ _ _ (by kernel_rfl)]; exact laidMet_laidAll _ (by kernel_rfl) (by kernel_rfl))) ?_
  intro W base args ds gs before hval0 hW hc _ hL _
  have hval : ∀ (j : Nat) t v, Tryd.f4.params[j]? = some t → args[j]? = some v → Value.okWide Tryd.prog W .any base t v := hval0
  have hW' := hW
  obtain ⟨p, q, hA0, hV, rfl, hfz, hnd⟩ := hW
  have hA : DataW.TrodAll enc Tryd.prog W 0 (fun _ => true) true Tryd.f4.params.toList args.toList ds p := hA0
  rw [Tryd.params4] at hA hval
  obtain ⟨v0, vs0, d0, ds0, p0, q0, hargs, rfl, rfl, h0, r0⟩ := trodAll_cons hA
  obtain ⟨v1, vs1, d1, ds1, p1, q1, rfl, rfl, rfl, h1, r1⟩ := trodAll_cons r0
  obtain ⟨v2, vs2, d2, ds2, p2, q2, rfl, rfl, rfl, h2, r2⟩ := trodAll_cons r1
  obtain ⟨rfl, rfl, rfl⟩ := trodAll_nil r2
  obtain rfl : args = #[v0, v1, v2] := by cases args; simp_all
  obtain ⟨rfl, rfl⟩ := trodVars_none hV
  obtain ⟨A0, a0, c0, rfl, lc0, C0, g0⟩ := open_list Tryd.underlying22 opens_needs (hval 0 22 v0 rfl rfl) h0
  obtain ⟨A1, a1, c1, rfl, lc1, C1, g1⟩ := open_list Tryd.underlying22 opens_needs (hval 1 22 v1 rfl rfl) h1
  obtain ⟨a2_0, a2_1, rfl, rfl, rfl, y2, z2⟩ := open_node (hval 2 24 v2 rfl rfl) h2
  clear hA0 hval0
  refine (Go.Proofs.YtodkjmbmlobihaaDoor.Q.graftwoodlaw19_WhyMore.calls 4000 A0 c0 a0 A1 c1 a1 a2_0 a2_1 true W C0 lc0 C1 lc1 (Go.Proofs.YtodkjmbmlobihaaDoor.Q.more_true a0 a1 a2_0 a2_1) ⟨rfl⟩).mono fun e W' ⟨he, bel⟩ => ?_
  subst he
  exact ⟨_, rfl, _, _, _, [], _, [], hW', trodAll_mk1 (shut_bool Tryd.underlying4 _), (trodAll_cons_mk (Below.trod laid (by kernel_rfl) (of_decide_eq_true (by kernel_rfl)) h0 bel (fun x hx => by simpa using hW'.lt x (by simp [hx]))) (trodAll_cons_mk (Below.trod laid (by kernel_rfl) (of_decide_eq_true (by kernel_rfl)) h1 bel (fun x hx => by simpa using hW'.lt x (by simp [hx]))) (trodAll_cons_mk (shut_node y2 z2) trodAll_mk0))), rfl, bel.frame _, fun h => by cases h⟩
theorem over : Rows.whyMoreRow.holds Tryd.pinned (OpenSpec.ofChange Rows.whyMoreSpec) :=
  OpenClaim.holds_of_wide 4 Tryd.f4 rfl rfl rfl rfl rfl rfl rfl ⟨rfl, rfl, rfl, rfl, rfl⟩ rfl rfl rfl rfl rfl (by kernel_rfl) Tryd.func4 (by kernel_rfl)
    (of_decide_eq_true (by kernel_rfl)) (by unfold Func.isWrapper; first | (rw [if_pos (by decide +kernel)]; kernel_rfl) | (rw [if_neg (by decide +kernel)]; exact ⟨rfl, rfl⟩))
    (fun os started H enc _ => lifted os started H enc)
theorem card_holds : Rows.WhyMoreCardSaid :=
  Claim7.holds_tied_plain_at .later [] [.data, .pinned] true (true, "f2cd7fac73deb61ac40ed1ba4603778106f7eee3e0c10fa2b1f1ccce5b6e7015") false
    over (fun _ h => by cases h) (by kernel_rfl) (fun _ h => by cases h) whyMore_row_tie rfl ⟨rfl, rfl⟩ (by kernel_rfl) rfl
    (fun f fn hf hfn => by
      obtain rfl : f = 4 := Option.some.inj ((show Tryd.prog.funcNamed "graftwood/graftwoodlaw19.WhyMore" = some 4 by kernel_rfl).symm.trans hf) |>.symm
      obtain rfl : fn = Tryd.f4 := (Option.some.inj (Tryd.func4.symm.trans hfn)).symm
      exact ⟨by kernel_rfl, fun j t ht => by
        rw [Tryd.params4] at ht
        have hm : t ∈ [22, 22, 24] := by simpa using Array.mem_of_getElem? ht
        have hall : ([22, 22, 24].all fun u => !Tryd.prog.wantsStandIn u) = true := by kernel_rfl
        exact (show Tryd.prog.wantsStandIn t = false by simpa using List.all_eq_true.1 hall t hm)⟩)
    (by kernel_rfl)
#print axioms card_holds
end Go.Proofs.YtodkjmbmlobihaaDoor.whyMore
namespace Go.Proofs.YtodkjmbmlobihaaDoor
/-- The card, under a short name, for the claim. -/
theorem whyMore_holds : Rows.WhyMoreCardSaid := whyMore.card_holds
end Go.Proofs.YtodkjmbmlobihaaDoor
