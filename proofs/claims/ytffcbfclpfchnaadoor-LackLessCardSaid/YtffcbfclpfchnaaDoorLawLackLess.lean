/- LackLess: the given row and its tied card LackLessCardSaid are proved: the law answers true at every argument that the row admits. No further condition. Written by my program. AUTOMERGED imports. -/
import Derived.Test.YtffcbfclpfchnaaDoorMLackLess0
import Derived.Test.YtffcbfclpfchnaaDoorMLackLess1
import Derived.Test.YtffcbfclpfchnaaDoorMLackLess2
import Derived.Test.YtffcbfclpfchnaaDoorMLackLess3
import Derived.Test.YtffcbfclpfchnaaDoorMLackLess4
import Derived.Test.YtffcbfclpfchnaaDoorMLackLess5
import Derived.Test.YtffcbfclpfchnaaDoorMLackLess6
import Derived.Test.YtffcbfclpfchnaaDoorMLackLess7
import Derived.Test.YtffcbfclpfchnaaDoorMLackLess8
import Derived.Test.YtffcbfclpfchnaaDoorMLackLess9
import Derived.Test.YtffcbfclpfchnaaDoorRows
import Derived.Test.YtffcbfclpfchnaaDoorCards
import Derived.Test.YtffcbfclpfchnaaDoorTie
import Derived.WalkKit
import Derived.ProofKit
import Derived.OpenShut
import Derived.ShutString
import Derived.ChangeOld
import Derived.Below
import Derived.SizedLaws
import Derived.LaidMore
import Derived.Lay
import Derived.SevenTiedAt
import Derived.Stop.Joined
import Derived.Lib.SmallJoins
import Derived.Carry
namespace Go.Proofs.YtffcbfclpfchnaaDoor.lackLess
open Go.ChangeShapes Go.WideShapes Go.ChangeAt Go.RowKit
open Go.ChangeMaps (open_string shut_string)
set_option linter.unusedVariables false
set_option maxRecDepth 100000
theorem own : ownKnob Tryd.prog.godebug = none := by kernel_rfl
theorem laid : laidOutB Tryd.prog = true := by kernel_rfl
theorem cells_node : Tryd.prog.cellsOf 31 = 2 := by kernel_rfl
section
variable {H : Type} {enc : TypeId × Value → H} {w : World} {base : Nat} {spare : Nat → Bool} {held : Bool}
theorem open_node {r : Reach} {b0 : Nat} {v : Value} {d : DataW H} {p : List MemPlace} (hv : Value.okWide Tryd.prog w r b0 31 v) (h : DataW.Trod enc Tryd.prog w base spare held 31 v d p) :
    ∃ s t : ByteArray, v = .agg #[.string s, .string t] ∧ d = .agg [.lit (.string s.data.toList), .lit (.string t.data.toList)] ∧ p = [] ∧ s.size ≤ maxLen ∧ t.size ≤ maxLen := by
  obtain ⟨c0, c1, y0, y1, m, rfl, rfl, rfl, hy0, hy1⟩ := Go.Joins.open_agg2 Tryd.underlying31 (by kernel_rfl) cells_node hv h
  obtain ⟨s, e0, rfl, hs⟩ := DataW.trod_string Tryd.underlying9 hy0
  obtain ⟨t, e1, rfl, ht⟩ := DataW.trod_string Tryd.underlying9 hy1
  simp at e0 e1
  subst e0 e1
  exact ⟨s, t, rfl, rfl, rfl, hs, ht⟩
theorem shut_node {s t : ByteArray} (hs : s.size ≤ maxLen) (ht : t.size ≤ maxLen) : DataW.Trod enc Tryd.prog w base spare held 31 (.agg #[.string s, .string t]) (.agg [.lit (.string s.data.toList), .lit (.string t.data.toList)]) [] :=
  Go.Joins.shut_agg2 (y0 := (.lit (.string s.data.toList), [])) (y1 := (.lit (.string t.data.toList), [])) Tryd.underlying31 (by kernel_rfl) cells_node ⟨1, by simp [DataW.trod, Tryd.underlying9, hs]⟩ ⟨1, by simp [DataW.trod, Tryd.underlying9, ht]⟩
end
open Go.Proofs.YtffcbfclpfchnaaDoor.Q Go.Proofs.YtffcbfclpfchnaaDoorW.PrintWords
instance : Inhabited S31 := ⟨z31⟩
theorem opens_nodes : Opens Tryd.prog 22 (Kd.slice 31 k31) (goodL (fun x : S31 => (fun y => (fun s : ByteArray => s.size ≤ maxLen) y.1 ∧ (fun s : ByteArray => s.size ≤ maxLen) y.2) (x.f0, x.f1))) := (opens_slice Tryd.underlying22 (by kernel_rfl) (opens_struct (fun x : S31 => (x.f0, x.f1)) (fun y => ⟨y.1, y.2⟩) (fun _ => rfl) Tryd.underlying31 (by kernel_rfl) (opensF_cons rfl (by kernel_rfl) (opens_string Tryd.underlying9) (opensF_one rfl (by kernel_rfl) (opens_string Tryd.underlying9)) (by intro g hg; simp at hg; first | (subst hg; decide) | (rcases hg with rfl | rfl <;> decide)))))
set_option maxRecDepth 100000 in
theorem lifted (os : Os) (started : os.Started) (H : Type) (enc : TypeId × Value → H) :
    ReturnsInHanded {} Tryd.checked os 5 .any (fun w args => (Rows.lackLessSpec.pre enc Tryd.prog Tryd.f5 Rows.lackLessRow.domain false w args ∧ laidMetH Tryd.prog Rows.lackLessRow.laid w) ∧ sizedMet enc Tryd.prog Tryd.f5 (OpenSpec.ofChange Rows.lackLessSpec) false w args)
      (Rows.lackLessSpec.post enc Tryd.prog Tryd.f5 false true false false) := by
  refine returnsInHanded_of_change_and (C := Tryd.checked) (X := fun w _ => laidMetH Tryd.prog Rows.lackLessRow.laid w) (fun _ _ _ hh h => h.of_heap hh) own started (by kernel_rfl) Tryd.func5
    (ChangeSpec.witness_shaped (enc := enc) (C := Tryd.checked) (os := os) (X := fun w _ => laidMetH Tryd.prog Rows.lackLessRow.laid w) false (World.laidAll Tryd.prog os Rows.lackLessRow.laid) #[.slice none 0 0, .slice none 0 0, .agg #[.string ByteArray.empty, .string ByteArray.empty]] 8 (World.laidAll_os _ _ _)
      (World.shaped_of_ZipB (by kernel_rfl) (by kernel_rfl)) (by kernel_rfl) (by kernel_rfl) (by kernel_rfl)
      (by rw [MakeChecks.laidMetH_plain _ _ _ (by kernel_rfl)]; exact laidMet_laidAll _ (by kernel_rfl) (by kernel_rfl))) ?_
  intro W base args ds gs before hval0 hW hc _ hL _
  have hval : ∀ (j : Nat) t v, Tryd.f5.params[j]? = some t → args[j]? = some v → Value.okWide Tryd.prog W .any base t v := hval0
  have hW' := hW
  obtain ⟨p, q, hA0, hV, rfl, hfz, hnd⟩ := hW
  have hA : DataW.TrodAll enc Tryd.prog W 0 (fun _ => true) true Tryd.f5.params.toList args.toList ds p := hA0
  rw [Tryd.params5] at hA hval
  obtain ⟨v0, vs0, d0, ds0, p0, q0, hargs, rfl, rfl, h0, r0⟩ := trodAll_cons hA
  obtain ⟨v1, vs1, d1, ds1, p1, q1, rfl, rfl, rfl, h1, r1⟩ := trodAll_cons r0
  obtain ⟨v2, vs2, d2, ds2, p2, q2, rfl, rfl, rfl, h2, r2⟩ := trodAll_cons r1
  obtain ⟨rfl, rfl, rfl⟩ := trodAll_nil r2
  obtain rfl : args = #[v0, v1, v2] := by cases args; simp_all
  obtain ⟨rfl, rfl⟩ := trodVars_none hV
  obtain ⟨A0, a0, c0, rfl, lc0, C0, g0⟩ := open_list Tryd.underlying22 opens_nodes (hval 0 22 v0 rfl rfl) h0
  obtain ⟨A1, a1, c1, rfl, lc1, C1, g1⟩ := open_list Tryd.underlying22 opens_nodes (hval 1 22 v1 rfl rfl) h1
  obtain ⟨a2_0, a2_1, rfl, rfl, rfl, y2, z2⟩ := open_node (hval 2 31 v2 rfl rfl) h2
  clear hA0 hval0
  refine (Go.Proofs.YtffcbfclpfchnaaDoor.Q.graftwoodlaw18_LackLess.calls _ A0 c0 a0 A1 c1 a1 a2_0 a2_1 true W C0 lc0 C1 lc1 (Go.Proofs.YtffcbfclpfchnaaDoor.Q.lackLess_true 9000000000 (by omega) a0 a1 a2_0 a2_1) ⟨rfl⟩).mono fun e W' ⟨he, bel⟩ => ?_
  subst he
  exact ⟨_, rfl, _, _, _, [], _, [], hW', trodAll_mk1 (shut_bool Tryd.underlying4 _), (trodAll_cons_mk (Below.trod laid (by kernel_rfl) (of_decide_eq_true (by kernel_rfl)) h0 bel (fun x hx => by simpa using hW'.lt x (by simp [hx]))) (trodAll_cons_mk (Below.trod laid (by kernel_rfl) (of_decide_eq_true (by kernel_rfl)) h1 bel (fun x hx => by simpa using hW'.lt x (by simp [hx]))) (trodAll_cons_mk (shut_node y2 z2) trodAll_mk0))), rfl, bel.frame _, fun h => by cases h⟩
theorem over : Rows.lackLessRow.holds Tryd.pinned (OpenSpec.ofChange Rows.lackLessSpec) :=
  OpenClaim.holds_of_wide 5 Tryd.f5 rfl rfl rfl rfl rfl rfl rfl ⟨rfl, rfl, rfl, rfl, rfl⟩ rfl rfl rfl rfl rfl (by kernel_rfl) Tryd.func5 (by kernel_rfl)
    (of_decide_eq_true (by kernel_rfl)) (by unfold Func.isWrapper; first | (rw [if_pos (by decide +kernel)]; kernel_rfl) | (rw [if_neg (by decide +kernel)]; exact ⟨rfl, rfl⟩))
    (fun os started H enc _ => lifted os started H enc)
theorem card_holds : Rows.LackLessCardSaid :=
  Claim7.holds_tied_plain_at .later [] [.data, .pinned] true (true, "5ef1ade54283c0eb95c6ac4e0f6d4a4edd58232b47b52343f6ea4adc1b0a1c15") false
    over (fun _ h => by cases h) (by kernel_rfl) (fun _ h => by cases h) lackLess_row_tie rfl ⟨rfl, rfl⟩ (by kernel_rfl) rfl
    (fun f fn hf hfn => by
      obtain rfl : f = 5 := Option.some.inj ((show Tryd.prog.funcNamed "graftwood/graftwoodlaw18.LackLess" = some 5 by kernel_rfl).symm.trans hf) |>.symm
      obtain rfl : fn = Tryd.f5 := (Option.some.inj (Tryd.func5.symm.trans hfn)).symm
      exact ⟨by kernel_rfl, fun j t ht => by
        rw [Tryd.params5] at ht
        have hm : t ∈ [22, 22, 31] := by simpa using Array.mem_of_getElem? ht
        have hall : ([22, 22, 31].all fun u => !Tryd.prog.wantsStandIn u) = true := by kernel_rfl
        exact (show Tryd.prog.wantsStandIn t = false by simpa using List.all_eq_true.1 hall t hm)⟩)
    (by kernel_rfl)
#print axioms card_holds
end Go.Proofs.YtffcbfclpfchnaaDoor.lackLess
namespace Go.Proofs.YtffcbfclpfchnaaDoor
/-- The card, under a short name, for the claim. -/
theorem lackLess_holds : Rows.LackLessCardSaid := lackLess.card_holds
end Go.Proofs.YtffcbfclpfchnaaDoor
