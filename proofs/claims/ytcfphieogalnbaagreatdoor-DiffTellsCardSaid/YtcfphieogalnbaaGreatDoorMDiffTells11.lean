/- Part 11 of this claim: several texts one behind the other: Fgraftwoodlaw13DiffTells, R13Diff, PureDTells. What each shows stands in its theorems; conditions: sizes of texts and lists, as the functions' definitions say. -/
import Derived.Test.YtcfphieogalnbaaGreatDoorMDiffTells8
import Derived.Test.YtcfphieogalnbaaGreatDoorMDiffTells0
import Derived.Test.YtcfphieogalnbaaGreatDoorMDiffTells7
import Derived.Test.YtcfphieogalnbaaGreatDoorMDiffTells10
import Derived.Test.YtcfphieogalnbaaGreatDoorMDiffTells2
import Derived.Test.YtcfphieogalnbaaGreatDoorMDiffTells6
import Derived.Test.YtcfphieogalnbaaGreatDoorMDiffTells9
section
namespace Go.Proofs.YtcfphieogalnbaaGreatDoor.Q
open Go.RowKit Go.Proofs.YtcfphieogalnbaaGreatDoorW.PrintWords Go.Proofs.YtcfphieogalnbaaGreatDoorW.PrintLast Go.Proofs.YtcfphieogalnbaaGreatDoorW.PrintMore
attribute [local go_sem] max2_int min2_int max_two min_two max_three min_three max_four min_four   -- for this text's walks alone
set_option linter.unusedVariables false
set_option linter.unusedSimpArgs false
/-! ### graftwoodlaw13_DiffTells: function 4 -/
mutual
def graftwoodlaw13_DiffTells.j0 : Nat → List (S24) → List (S24) → List (S35) → Int → Bool → Option (Bool)
  | 0, _, _, _, _, _ => none
  | k + 1, x0, x1, x5, x6, x50 => if x50 = true then (some false) else ((graftwoodlaw13_all.f k x0).bind fun t315 => (if t315 = true then ((graftwoodlaw13_all.f k x1).bind fun t316 => (graftwoodlaw13_DiffTells.j1 k x0 x1 x5 x6 (!t316))) else (graftwoodlaw13_DiffTells.j1 k x0 x1 x5 x6 true)))
def graftwoodlaw13_DiffTells.j1 : Nat → List (S24) → List (S24) → List (S35) → Int → Bool → Option (Bool)
  | 0, _, _, _, _, _ => none
  | k + 1, x0, x1, x5, x6, x58 => if x58 = true then (if (x5.length : Int) = 0 then (if x6 = 1 then ((graftwoodlaw13_awake.f).bind fun t317 => (some t317)) else (some false)) else (some false)) else ((graftwoodref13_Diff.f k x0 x1).bind fun t318 => ((graftwoodref13_Same.f k x5 t318).bind fun t321 => (if t321 = true then (if x6 = 0 then ((graftwoodlaw13_awake.f).bind fun t322 => (some t322)) else (some false)) else (some false))))
end
def graftwoodlaw13_DiffTells.f (k : Nat) (l0 : List (S24)) (l1 : List (S24)) : Option (Bool) := (graftwoodlaw05_Few.f k l0).bind fun t294 => ((graftwoodlaw05_Few.f k l1).bind fun t297 => ((diff_Diff.f t294 t297).bind fun bt300 => ((diff_Count.f t297).bind fun bt304 => ((graftwoodlaw13_all.f k t297).bind fun t308 => (if t308 = true then ((graftwoodref13_Diff.f k ([] : List (S24)) t297).bind fun t309 => ((graftwoodref13_Same.f k bt304.1 t309).bind fun t312 => (if t312 = true then (if bt304.2 = 0 then ((graftwoodlaw13_all.f k t297).bind fun t313 => (if t313 = true then (graftwoodlaw13_DiffTells.j0 k t294 t297 bt300.1 bt300.2 false) else (if (bt304.1.length : Int) > 0 then (graftwoodlaw13_DiffTells.j0 k t294 t297 bt300.1 bt300.2 true) else (graftwoodlaw13_DiffTells.j0 k t294 t297 bt300.1 bt300.2 (bt304.2 != 1))))) else (graftwoodlaw13_DiffTells.j0 k t294 t297 bt300.1 bt300.2 true)) else (graftwoodlaw13_DiffTells.j0 k t294 t297 bt300.1 bt300.2 true)))) else ((graftwoodlaw13_all.f k t297).bind fun t314 => (if t314 = true then (graftwoodlaw13_DiffTells.j0 k t294 t297 bt300.1 bt300.2 false) else (if (bt304.1.length : Int) > 0 then (graftwoodlaw13_DiffTells.j0 k t294 t297 bt300.1 bt300.2 true) else (graftwoodlaw13_DiffTells.j0 k t294 t297 bt300.1 bt300.2 (bt304.2 != 1))))))))))
set_option maxHeartbeats 8000000 in
set_option maxRecDepth 100000 in
theorem graftwoodlaw13_DiffTells.calls (k : Nat) (A0 : Option Addr) (c0 : Nat) (l0 : List (S24)) (A1 : Option Addr) (c1 : Nat) (l1 : List (S24)) (r : Bool) (w : World) (hr0 : Kd.C k24 w A0 l0.length l0) (hc0 : l0.length ≤ c0) (hr1 : Kd.C k24 w A1 l1.length l1) (hc1 : l1.length ≤ c1) (h : graftwoodlaw13_DiffTells.f k l0 l1 = some r) (HR_ : Aside0 (r = true)) :
    Calls Tryz.prog 4 #[.slice A0 l0.length c0, .slice A1 l1.length c1] w fun e w' => e = .returned (.bool r) ∧ Below w.heap.size w w' := by
  have HR0 := Aside0.mk hr0
  have HC0 := Aside0.mk hc0
  clear hr0 hc0
  have HR1 := Aside0.mk hr1
  have HC1 := Aside0.mk hc1
  clear hr1 hc1
  have HB := Aside0.mk (Below.refl w.heap.size w)
  have H : ((graftwoodlaw05_Few.f k l0).bind fun t294 => ((graftwoodlaw05_Few.f k l1).bind fun t297 => ((diff_Diff.f t294 t297).bind fun bt300 => ((diff_Count.f t297).bind fun bt304 => ((graftwoodlaw13_all.f k t297).bind fun t308 => (if t308 = true then ((graftwoodref13_Diff.f k ([] : List (S24)) t297).bind fun t309 => ((graftwoodref13_Same.f k bt304.1 t309).bind fun t312 => (if t312 = true then (if bt304.2 = 0 then ((graftwoodlaw13_all.f k t297).bind fun t313 => (if t313 = true then (graftwoodlaw13_DiffTells.j0 k t294 t297 bt300.1 bt300.2 false) else (if (bt304.1.length : Int) > 0 then (graftwoodlaw13_DiffTells.j0 k t294 t297 bt300.1 bt300.2 true) else (graftwoodlaw13_DiffTells.j0 k t294 t297 bt300.1 bt300.2 (bt304.2 != 1))))) else (graftwoodlaw13_DiffTells.j0 k t294 t297 bt300.1 bt300.2 true)) else (graftwoodlaw13_DiffTells.j0 k t294 t297 bt300.1 bt300.2 true)))) else ((graftwoodlaw13_all.f k t297).bind fun t314 => (if t314 = true then (graftwoodlaw13_DiffTells.j0 k t294 t297 bt300.1 bt300.2 false) else (if (bt304.1.length : Int) > 0 then (graftwoodlaw13_DiffTells.j0 k t294 t297 bt300.1 bt300.2 true) else (graftwoodlaw13_DiffTells.j0 k t294 t297 bt300.1 bt300.2 (bt304.2 != 1))))))))))) = some r := h
  clear h
  replace H := Option.bind_eq_some_iff.mp H
  obtain ⟨t294, A30, H⟩ := H
  replace H : ((graftwoodlaw05_Few.f k l1).bind fun t297 => ((diff_Diff.f t294 t297).bind fun bt300 => ((diff_Count.f t297).bind fun bt304 => ((graftwoodlaw13_all.f k t297).bind fun t308 => (if t308 = true then ((graftwoodref13_Diff.f k ([] : List (S24)) t297).bind fun t309 => ((graftwoodref13_Same.f k bt304.1 t309).bind fun t312 => (if t312 = true then (if bt304.2 = 0 then ((graftwoodlaw13_all.f k t297).bind fun t313 => (if t313 = true then (graftwoodlaw13_DiffTells.j0 k t294 t297 bt300.1 bt300.2 false) else (if (bt304.1.length : Int) > 0 then (graftwoodlaw13_DiffTells.j0 k t294 t297 bt300.1 bt300.2 true) else (graftwoodlaw13_DiffTells.j0 k t294 t297 bt300.1 bt300.2 (bt304.2 != 1))))) else (graftwoodlaw13_DiffTells.j0 k t294 t297 bt300.1 bt300.2 true)) else (graftwoodlaw13_DiffTells.j0 k t294 t297 bt300.1 bt300.2 true)))) else ((graftwoodlaw13_all.f k t297).bind fun t314 => (if t314 = true then (graftwoodlaw13_DiffTells.j0 k t294 t297 bt300.1 bt300.2 false) else (if (bt304.1.length : Int) > 0 then (graftwoodlaw13_DiffTells.j0 k t294 t297 bt300.1 bt300.2 true) else (graftwoodlaw13_DiffTells.j0 k t294 t297 bt300.1 bt300.2 (bt304.2 != 1)))))))))) = some r := H
  have A3 := Aside0.mk A30
  clear A30
  replace H := Option.bind_eq_some_iff.mp H
  obtain ⟨t297, A40, H⟩ := H
  replace H : ((diff_Diff.f t294 t297).bind fun bt300 => ((diff_Count.f t297).bind fun bt304 => ((graftwoodlaw13_all.f k t297).bind fun t308 => (if t308 = true then ((graftwoodref13_Diff.f k ([] : List (S24)) t297).bind fun t309 => ((graftwoodref13_Same.f k bt304.1 t309).bind fun t312 => (if t312 = true then (if bt304.2 = 0 then ((graftwoodlaw13_all.f k t297).bind fun t313 => (if t313 = true then (graftwoodlaw13_DiffTells.j0 k t294 t297 bt300.1 bt300.2 false) else (if (bt304.1.length : Int) > 0 then (graftwoodlaw13_DiffTells.j0 k t294 t297 bt300.1 bt300.2 true) else (graftwoodlaw13_DiffTells.j0 k t294 t297 bt300.1 bt300.2 (bt304.2 != 1))))) else (graftwoodlaw13_DiffTells.j0 k t294 t297 bt300.1 bt300.2 true)) else (graftwoodlaw13_DiffTells.j0 k t294 t297 bt300.1 bt300.2 true)))) else ((graftwoodlaw13_all.f k t297).bind fun t314 => (if t314 = true then (graftwoodlaw13_DiffTells.j0 k t294 t297 bt300.1 bt300.2 false) else (if (bt304.1.length : Int) > 0 then (graftwoodlaw13_DiffTells.j0 k t294 t297 bt300.1 bt300.2 true) else (graftwoodlaw13_DiffTells.j0 k t294 t297 bt300.1 bt300.2 (bt304.2 != 1))))))))) = some r := H
  have A4 := Aside0.mk A40
  clear A40
  replace H := Option.bind_eq_some_iff.mp H
  obtain ⟨⟨t300, t301⟩, A50, H⟩ := H
  replace H : ((diff_Count.f t297).bind fun bt304 => ((graftwoodlaw13_all.f k t297).bind fun t308 => (if t308 = true then ((graftwoodref13_Diff.f k ([] : List (S24)) t297).bind fun t309 => ((graftwoodref13_Same.f k bt304.1 t309).bind fun t312 => (if t312 = true then (if bt304.2 = 0 then ((graftwoodlaw13_all.f k t297).bind fun t313 => (if t313 = true then (graftwoodlaw13_DiffTells.j0 k t294 t297 t300 t301 false) else (if (bt304.1.length : Int) > 0 then (graftwoodlaw13_DiffTells.j0 k t294 t297 t300 t301 true) else (graftwoodlaw13_DiffTells.j0 k t294 t297 t300 t301 (bt304.2 != 1))))) else (graftwoodlaw13_DiffTells.j0 k t294 t297 t300 t301 true)) else (graftwoodlaw13_DiffTells.j0 k t294 t297 t300 t301 true)))) else ((graftwoodlaw13_all.f k t297).bind fun t314 => (if t314 = true then (graftwoodlaw13_DiffTells.j0 k t294 t297 t300 t301 false) else (if (bt304.1.length : Int) > 0 then (graftwoodlaw13_DiffTells.j0 k t294 t297 t300 t301 true) else (graftwoodlaw13_DiffTells.j0 k t294 t297 t300 t301 (bt304.2 != 1)))))))) = some r := H
  have A5 := Aside0.mk A50
  clear A50
  replace H := Option.bind_eq_some_iff.mp H
  obtain ⟨⟨t304, t305⟩, A60, H⟩ := H
  replace H : ((graftwoodlaw13_all.f k t297).bind fun t308 => (if t308 = true then ((graftwoodref13_Diff.f k ([] : List (S24)) t297).bind fun t309 => ((graftwoodref13_Same.f k t304 t309).bind fun t312 => (if t312 = true then (if t305 = 0 then ((graftwoodlaw13_all.f k t297).bind fun t313 => (if t313 = true then (graftwoodlaw13_DiffTells.j0 k t294 t297 t300 t301 false) else (if (t304.length : Int) > 0 then (graftwoodlaw13_DiffTells.j0 k t294 t297 t300 t301 true) else (graftwoodlaw13_DiffTells.j0 k t294 t297 t300 t301 (t305 != 1))))) else (graftwoodlaw13_DiffTells.j0 k t294 t297 t300 t301 true)) else (graftwoodlaw13_DiffTells.j0 k t294 t297 t300 t301 true)))) else ((graftwoodlaw13_all.f k t297).bind fun t314 => (if t314 = true then (graftwoodlaw13_DiffTells.j0 k t294 t297 t300 t301 false) else (if (t304.length : Int) > 0 then (graftwoodlaw13_DiffTells.j0 k t294 t297 t300 t301 true) else (graftwoodlaw13_DiffTells.j0 k t294 t297 t300 t301 (t305 != 1))))))) = some r := H
  have A6 := Aside0.mk A60
  clear A60
  have HC7 := Aside0.mk H
  clear H
  go_enter Tryz.func4, Tryz.ntmps4
  go_upto_region 4 with (first | ((with_reducible refine gate_callee (f := 7) rfl ?_); refine goesL_ (some 10) rfl rfl Tryz.func7 (by kernel_rfl) rfl #[.slice A0 l0.length c0] rfl (by (try simp only [List.map_toArray, List.map_cons, List.map_nil]); first | done | rfl | (simp only [List.length_drop, List.length_take]; rfl)) ?_; (with_reducible refine (graftwoodlaw05_Few.calls k _ _ l0 t294 _ ?side1 ?side2 A3.out).mono ?_); (case side1 => repeat (first | exact HR0.out | (with_reducible refine Kd.C_alloc ?_ _) | (with_reducible refine Kd.C_drewN ?_ _) | (with_reducible refine Kd.C_drew ?_))); (case side2 => exact HC0.out); rintro e w8 ⟨v295, rfl, ho0, hb⟩; refine ⟨_, rfl, ?_⟩; have n0_ := Aside0.mk (Kd.R_lower ho0 (below_size (by repeat (first | (with_reducible first | exact HB.out | apply below_alloc | apply pw_below_drewN | apply below_drew1) | exact HB.out)))); have n1_ := Aside0.mk (below_step (by repeat (first | (with_reducible first | exact HB.out | apply below_alloc | apply pw_below_drewN | apply below_drew1) | exact HB.out)) hb); clear HB; have HO296 := n0_; have HB := n1_; clear n0_ n1_; (try clear hb); (try clear hb2); (try clear hk); (try clear hi); (try clear ho0)) | ((with_reducible refine gate_callee (f := 7) rfl ?_); refine goesL_ (some 12) rfl rfl Tryz.func7 (by kernel_rfl) rfl #[.slice A1 l1.length c1] rfl (by (try simp only [List.map_toArray, List.map_cons, List.map_nil]); first | done | rfl | (simp only [List.length_drop, List.length_take]; rfl)) ?_; (with_reducible refine (graftwoodlaw05_Few.calls k _ _ l1 t297 _ ?side1 ?side2 A4.out).mono ?_); (case side1 => repeat (first | exact (Kd.C_below HR1.out HB.out) | (with_reducible refine Kd.C_alloc ?_ _) | (with_reducible refine Kd.C_drewN ?_ _) | (with_reducible refine Kd.C_drew ?_))); (case side2 => exact HC1.out); rintro e w9 ⟨v298, rfl, ho0, hb⟩; refine ⟨_, rfl, ?_⟩; have n0_ := Aside0.mk (Kd.R_elder' (by (with_reducible repeat (first | apply Kd.R_alloc | apply Kd.R_drewN | apply Kd.R_drew)); exact HO296.out) (Kd.R_base ho0) hb); have n1_ := Aside0.mk (Kd.R_lower (Kd.R_new' ho0 (Kd.R_lt (by (with_reducible repeat (first | apply Kd.R_alloc | apply Kd.R_drewN | apply Kd.R_drew)); exact HO296.out))) (below_size (by repeat (first | (with_reducible first | exact HB.out | apply below_alloc | apply pw_below_drewN | apply below_drew1) | exact HB.out)))); have n2_ := Aside0.mk (below_step (by repeat (first | (with_reducible first | exact HB.out | apply below_alloc | apply pw_below_drewN | apply below_drew1) | exact HB.out)) hb); clear HO296; clear HB; have HO296 := n0_; have HO299 := n1_; have HB := n2_; clear n0_ n1_ n2_; (try clear hb); (try clear hb2); (try clear hk); (try clear hi); (try clear ho0); obtain ⟨Ao10, co10, eo10⟩ := Kd.R_slice HO296.out; subst eo10; obtain ⟨Ao11, co11, eo11⟩ := Kd.R_slice HO299.out; subst eo11) | ((with_reducible refine gate_callee (f := 9) rfl ?_); refine goesL_ (some 16) rfl rfl Tryz.func9 (by kernel_rfl) rfl #[.slice Ao10 t294.length co10, .slice Ao11 t297.length co11] rfl (by (try simp only [List.map_toArray, List.map_cons, List.map_nil]); first | done | rfl | (simp only [List.length_drop, List.length_take]; rfl)) ?_; (with_reducible refine (diff_Diff.calls _ _ t294 _ _ t297 t300 t301 _ ?side1 ?side2 ?side3 ?side4 A5.out).mono ?_); (case side1 => repeat (first | exact (Kd.R_reads' HO296.out).2.2 | (with_reducible refine Kd.C_alloc ?_ _) | (with_reducible refine Kd.C_drewN ?_ _) | (with_reducible refine Kd.C_drew ?_))); (case side2 => exact (Kd.R_reads' HO296.out).2.1); (case side3 => repeat (first | exact (Kd.R_reads' HO299.out).2.2 | (with_reducible refine Kd.C_alloc ?_ _) | (with_reducible refine Kd.C_drewN ?_ _) | (with_reducible refine Kd.C_drew ?_))); (case side4 => exact (Kd.R_reads' HO299.out).2.1); rintro e w12 ⟨v302, rfl, ho0, hb⟩; refine ⟨_, rfl, ?_⟩; have n0_ := Aside0.mk (Kd.R_below (by (with_reducible repeat (first | apply Kd.R_alloc | apply Kd.R_drewN | apply Kd.R_drew)); exact HO296.out) hb); have n1_ := Aside0.mk (Kd.R_below (by (with_reducible repeat (first | apply Kd.R_alloc | apply Kd.R_drewN | apply Kd.R_drew)); exact HO299.out) hb); have n2_ := Aside0.mk (Kd.R_lower ho0 (below_size (by repeat (first | (with_reducible first | exact HB.out | apply below_alloc | apply pw_below_drewN | apply below_drew1) | exact HB.out)))); have n3_ := Aside0.mk (below_step (by repeat (first | (with_reducible first | exact HB.out | apply below_alloc | apply pw_below_drewN | apply below_drew1) | exact HB.out)) hb); clear HO296; clear HO299; clear HB; have HO296 := n0_; have HO299 := n1_; have HO303 := n2_; have HB := n3_; clear n0_ n1_ n2_ n3_; (try clear hb); (try clear hb2); (try clear hk); (try clear hi); (try clear ho0)) | ((with_reducible refine gate_callee (f := 13) rfl ?_); refine goesL_ (some 21) rfl rfl Tryz.func13 (by kernel_rfl) rfl #[.slice Ao11 t297.length co11] rfl (by (try simp only [List.map_toArray, List.map_cons, List.map_nil]); first | done | rfl | (simp only [List.length_drop, List.length_take]; rfl)) ?_; (with_reducible refine (diff_Count.calls _ _ t297 t304 t305 _ ?side1 ?side2 A6.out).mono ?_); (case side1 => repeat (first | exact (Kd.R_reads' HO299.out).2.2 | (with_reducible refine Kd.C_alloc ?_ _) | (with_reducible refine Kd.C_drewN ?_ _) | (with_reducible refine Kd.C_drew ?_))); (case side2 => exact (Kd.R_reads' HO299.out).2.1); rintro e w13 ⟨v306, rfl, ho0, hb⟩; refine ⟨_, rfl, ?_⟩; have n0_ := Aside0.mk (Kd.R_below (by (with_reducible repeat (first | apply Kd.R_alloc | apply Kd.R_drewN | apply Kd.R_drew)); exact HO296.out) hb); have n1_ := Aside0.mk (Kd.R_below (by (with_reducible repeat (first | apply Kd.R_alloc | apply Kd.R_drewN | apply Kd.R_drew)); exact HO299.out) hb); have n2_ := Aside0.mk (Kd.R_elder' (by (with_reducible repeat (first | apply Kd.R_alloc | apply Kd.R_drewN | apply Kd.R_drew)); exact HO303.out) (Kd.R_base ho0) hb); have n3_ := Aside0.mk (Kd.R_lower (Kd.R_new' ho0 (Kd.R_lt (by (with_reducible repeat (first | apply Kd.R_alloc | apply Kd.R_drewN | apply Kd.R_drew)); exact HO303.out))) (below_size (by repeat (first | (with_reducible first | exact HB.out | apply below_alloc | apply pw_below_drewN | apply below_drew1) | exact HB.out)))); have n4_ := Aside0.mk (below_step (by repeat (first | (with_reducible first | exact HB.out | apply below_alloc | apply pw_below_drewN | apply below_drew1) | exact HB.out)) hb); clear HO296; clear HO299; clear HO303; clear HB; have HO296 := n0_; have HO299 := n1_; have HO303 := n2_; have HO307 := n3_; have HB := n4_; clear n0_ n1_ n2_ n3_ n4_; (try clear hb); (try clear hb2); (try clear hk); (try clear hi); (try clear ho0)))
  (try simp only [Act.put, List.setIfInBounds_toArray, List.set_cons_zero, List.set_cons_succ])
  go_cut [50] (fun v50 wc => ∃ (kq : Nat) (x50_6 : Bool), v50 = .bool x50_6 ∧ Aside0 (graftwoodlaw13_DiffTells.j0 kq t294 t297 t300 t301 x50_6 = some r) ∧ Aside0 (kq ≤ k) ∧ Aside0 (Kd.R k24 24 wc w.heap.size (fun k_ => some k_ ≠ ((.slice Ao11 t297.length co11) : Value).ownBlock) (.slice Ao10 t294.length co10) t294) ∧ Aside0 (Kd.R k24 24 wc w.heap.size (fun k_ => some k_ ≠ ((.slice Ao10 t294.length co10) : Value).ownBlock) (.slice Ao11 t297.length co11) t297) ∧ Aside0 (Kd.R k35 35 wc w.heap.size (fun _ => True) v302 t300) ∧ Aside0 (Below w.heap.size w wc))
  case first =>
    have H := HC7.out
    clear HC7
    replace H := Option.bind_eq_some_iff.mp H
    obtain ⟨t308, A140, H⟩ := H
    replace H : (if t308 = true then ((graftwoodref13_Diff.f k ([] : List (S24)) t297).bind fun t309 => ((graftwoodref13_Same.f k t304 t309).bind fun t312 => (if t312 = true then (if t305 = 0 then ((graftwoodlaw13_all.f k t297).bind fun t313 => (if t313 = true then (graftwoodlaw13_DiffTells.j0 k t294 t297 t300 t301 false) else (if (t304.length : Int) > 0 then (graftwoodlaw13_DiffTells.j0 k t294 t297 t300 t301 true) else (graftwoodlaw13_DiffTells.j0 k t294 t297 t300 t301 (t305 != 1))))) else (graftwoodlaw13_DiffTells.j0 k t294 t297 t300 t301 true)) else (graftwoodlaw13_DiffTells.j0 k t294 t297 t300 t301 true)))) else ((graftwoodlaw13_all.f k t297).bind fun t314 => (if t314 = true then (graftwoodlaw13_DiffTells.j0 k t294 t297 t300 t301 false) else (if (t304.length : Int) > 0 then (graftwoodlaw13_DiffTells.j0 k t294 t297 t300 t301 true) else (graftwoodlaw13_DiffTells.j0 k t294 t297 t300 t301 (t305 != 1)))))) = some r := H
    have A14 := Aside0.mk A140
    clear A140
    by_cases c15 : t308 = true
    · subst c15
      have H1 : ((graftwoodref13_Diff.f k ([] : List (S24)) t297).bind fun t309 => ((graftwoodref13_Same.f k t304 t309).bind fun t312 => (if t312 = true then (if t305 = 0 then ((graftwoodlaw13_all.f k t297).bind fun t313 => (if t313 = true then (graftwoodlaw13_DiffTells.j0 k t294 t297 t300 t301 false) else (if (t304.length : Int) > 0 then (graftwoodlaw13_DiffTells.j0 k t294 t297 t300 t301 true) else (graftwoodlaw13_DiffTells.j0 k t294 t297 t300 t301 (t305 != 1))))) else (graftwoodlaw13_DiffTells.j0 k t294 t297 t300 t301 true)) else (graftwoodlaw13_DiffTells.j0 k t294 t297 t300 t301 true)))) = some r := by rw [if_pos rfl] at H; exact H
      clear H
      have H := H1
      clear H1
      replace H := Option.bind_eq_some_iff.mp H
      obtain ⟨t309, A160, H⟩ := H
      replace H : ((graftwoodref13_Same.f k t304 t309).bind fun t312 => (if t312 = true then (if t305 = 0 then ((graftwoodlaw13_all.f k t297).bind fun t313 => (if t313 = true then (graftwoodlaw13_DiffTells.j0 k t294 t297 t300 t301 false) else (if (t304.length : Int) > 0 then (graftwoodlaw13_DiffTells.j0 k t294 t297 t300 t301 true) else (graftwoodlaw13_DiffTells.j0 k t294 t297 t300 t301 (t305 != 1))))) else (graftwoodlaw13_DiffTells.j0 k t294 t297 t300 t301 true)) else (graftwoodlaw13_DiffTells.j0 k t294 t297 t300 t301 true))) = some r := H
      have A16 := Aside0.mk A160
      clear A160
      replace H := Option.bind_eq_some_iff.mp H
      obtain ⟨t312, A170, H⟩ := H
      replace H : (if t312 = true then (if t305 = 0 then ((graftwoodlaw13_all.f k t297).bind fun t313 => (if t313 = true then (graftwoodlaw13_DiffTells.j0 k t294 t297 t300 t301 false) else (if (t304.length : Int) > 0 then (graftwoodlaw13_DiffTells.j0 k t294 t297 t300 t301 true) else (graftwoodlaw13_DiffTells.j0 k t294 t297 t300 t301 (t305 != 1))))) else (graftwoodlaw13_DiffTells.j0 k t294 t297 t300 t301 true)) else (graftwoodlaw13_DiffTells.j0 k t294 t297 t300 t301 true)) = some r := H
      have A17 := Aside0.mk A170
      clear A170
      by_cases c18 : t312 = true
      · subst c18
        have H1 : (if t305 = 0 then ((graftwoodlaw13_all.f k t297).bind fun t313 => (if t313 = true then (graftwoodlaw13_DiffTells.j0 k t294 t297 t300 t301 false) else (if (t304.length : Int) > 0 then (graftwoodlaw13_DiffTells.j0 k t294 t297 t300 t301 true) else (graftwoodlaw13_DiffTells.j0 k t294 t297 t300 t301 (t305 != 1))))) else (graftwoodlaw13_DiffTells.j0 k t294 t297 t300 t301 true)) = some r := by rw [if_pos rfl] at H; exact H
        clear H
        have H := H1
        clear H1
        by_cases c19 : t305 = 0
        · rw [if_pos c19] at H
          have c19b0 : (t305 == 0) = true := beq_iff_eq.mpr c19
          have c19b1 : (t305 != 0) = false := bne_eq_false_iff_eq.mpr c19
          clear c19
          (first | rw [c19b0] | (simp only [i64_w, i32_w]; rw [c19b0]) | skip)
          replace H := Option.bind_eq_some_iff.mp H
          obtain ⟨t313, A200, H⟩ := H
          replace H : (if t313 = true then (graftwoodlaw13_DiffTells.j0 k t294 t297 t300 t301 false) else (if (t304.length : Int) > 0 then (graftwoodlaw13_DiffTells.j0 k t294 t297 t300 t301 true) else (graftwoodlaw13_DiffTells.j0 k t294 t297 t300 t301 (t305 != 1)))) = some r := H
          have A20 := Aside0.mk A200
          clear A200
          by_cases c21 : t313 = true
          · subst c21
            have H1 : (graftwoodlaw13_DiffTells.j0 k t294 t297 t300 t301 false) = some r := by rw [if_pos rfl] at H; exact H
            clear H
            have H := H1
            clear H1
            have H' := Aside0.mk H
            clear H
            go_wp2_with (first | ((with_reducible refine gate_callee (f := 10) rfl ?_); refine goesL_ (some 25) rfl rfl Tryz.func10 (by kernel_rfl) rfl #[.slice Ao11 t297.length co11] rfl (by (try simp only [List.map_toArray, List.map_cons, List.map_nil]); first | done | rfl | (simp only [List.length_drop, List.length_take]; rfl)) ?_; (with_reducible refine (graftwoodlaw13_all.calls k _ _ t297 true _ ?side1 ?side2 A14.out).mono ?_); (case side1 => repeat (first | exact (Kd.R_reads' HO299.out).2.2 | (with_reducible refine Kd.C_alloc ?_ _) | (with_reducible refine Kd.C_drewN ?_ _) | (with_reducible refine Kd.C_drew ?_))); (case side2 => exact (Kd.R_reads' HO299.out).2.1); rintro e w22 ⟨rfl, hb⟩; refine ⟨_, rfl, ?_⟩; have n0_ := Aside0.mk (Kd.R_below (by (with_reducible repeat (first | apply Kd.R_alloc | apply Kd.R_drewN | apply Kd.R_drew)); exact HO296.out) hb); have n1_ := Aside0.mk (Kd.R_below (by (with_reducible repeat (first | apply Kd.R_alloc | apply Kd.R_drewN | apply Kd.R_drew)); exact HO299.out) hb); have n2_ := Aside0.mk (Kd.R_below (by (with_reducible repeat (first | apply Kd.R_alloc | apply Kd.R_drewN | apply Kd.R_drew)); exact HO303.out) hb); have n3_ := Aside0.mk (Kd.R_below (by (with_reducible repeat (first | apply Kd.R_alloc | apply Kd.R_drewN | apply Kd.R_drew)); exact HO307.out) hb); have n4_ := Aside0.mk (below_step (by repeat (first | (with_reducible first | exact HB.out | apply below_alloc | apply pw_below_drewN | apply below_drew1) | exact HB.out)) hb); clear HO296; clear HO299; clear HO303; clear HO307; clear HB; have HO296 := n0_; have HO299 := n1_; have HO303 := n2_; have HO307 := n3_; have HB := n4_; clear n0_ n1_ n2_ n3_ n4_; (try clear hb); (try clear hb2); (try clear hk); (try clear hi)) | (go_at_call 15; (refine (graftwoodref13_Diff.calls k _ _ ([] : List (S24)) _ _ t297 t309 _ ?side1 ?side2 ?side3 ?side4 A16.out).mono ?_); (case side1 => exact Kd.C_nil _ _); (case side2 => exact Nat.le_refl _); (case side3 => repeat (first | exact (Kd.R_reads' HO299.out).2.2 | (with_reducible refine Kd.C_alloc ?_ _) | (with_reducible refine Kd.C_drewN ?_ _) | (with_reducible refine Kd.C_drew ?_))); (case side4 => exact (Kd.R_reads' HO299.out).2.1); rintro e w23 ⟨v310, rfl, ho0, hb⟩; have n0_ := Aside0.mk (Kd.R_below (by (with_reducible repeat (first | apply Kd.R_alloc | apply Kd.R_drewN | apply Kd.R_drew)); exact HO296.out) hb); have n1_ := Aside0.mk (Kd.R_below (by (with_reducible repeat (first | apply Kd.R_alloc | apply Kd.R_drewN | apply Kd.R_drew)); exact HO299.out) hb); have n2_ := Aside0.mk (Kd.R_elder' (by (with_reducible repeat (first | apply Kd.R_alloc | apply Kd.R_drewN | apply Kd.R_drew)); exact HO303.out) (Kd.R_base ho0) hb); have n3_ := Aside0.mk (Kd.R_elder' (by (with_reducible repeat (first | apply Kd.R_alloc | apply Kd.R_drewN | apply Kd.R_drew)); exact HO307.out) (Kd.R_base ho0) hb); have n4_ := Aside0.mk (Kd.R_lower (Kd.R_new' (Kd.R_new' ho0 (Kd.R_lt (by (with_reducible repeat (first | apply Kd.R_alloc | apply Kd.R_drewN | apply Kd.R_drew)); exact HO303.out))) (Kd.R_lt (by (with_reducible repeat (first | apply Kd.R_alloc | apply Kd.R_drewN | apply Kd.R_drew)); exact HO307.out))) (below_size (by repeat (first | (with_reducible first | exact HB.out | apply below_alloc | apply pw_below_drewN | apply below_drew1) | exact HB.out)))); have n5_ := Aside0.mk (below_step (by repeat (first | (with_reducible first | exact HB.out | apply below_alloc | apply pw_below_drewN | apply below_drew1) | exact HB.out)) hb); clear HO296; clear HO299; clear HO303; clear HO307; clear HB; have HO296 := n0_; have HO299 := n1_; have HO303 := n2_; have HO307 := n3_; have HO311 := n4_; have HB := n5_; clear n0_ n1_ n2_ n3_ n4_ n5_; (try clear hb); (try clear hb2); (try clear hk); (try clear hi); (try clear ho0); obtain ⟨Ao24, co24, eo24⟩ := Kd.R_slice HO307.out; subst eo24; obtain ⟨Ao25, co25, eo25⟩ := Kd.R_slice HO311.out; subst eo25) | (go_at_call 14; (with_reducible refine (graftwoodref13_Same.calls k _ _ t304 _ _ t309 true _ ?side1 ?side2 ?side3 ?side4 A17.out).mono ?_); (case side1 => repeat (first | exact (Kd.R_reads' HO307.out).2.2 | (with_reducible refine Kd.C_alloc ?_ _) | (with_reducible refine Kd.C_drewN ?_ _) | (with_reducible refine Kd.C_drew ?_))); (case side2 => exact (Kd.R_reads' HO307.out).2.1); (case side3 => repeat (first | exact (Kd.R_reads' HO311.out).2.2 | (with_reducible refine Kd.C_alloc ?_ _) | (with_reducible refine Kd.C_drewN ?_ _) | (with_reducible refine Kd.C_drew ?_))); (case side4 => exact (Kd.R_reads' HO311.out).2.1); rintro e w' ⟨rfl, ⟨nd, rfl⟩⟩) | (go_at_call 10; (with_reducible refine (graftwoodlaw13_all.calls k _ _ t297 true _ ?side1 ?side2 A20.out).mono ?_); (case side1 => repeat (first | exact (Kd.R_reads' HO299.out).2.2 | (with_reducible refine Kd.C_alloc ?_ _) | (with_reducible refine Kd.C_drewN ?_ _) | (with_reducible refine Kd.C_drew ?_))); (case side2 => exact (Kd.R_reads' HO299.out).2.1); rintro e w26 ⟨rfl, hb⟩; have n0_ := Aside0.mk (Kd.R_below (by (with_reducible repeat (first | apply Kd.R_alloc | apply Kd.R_drewN | apply Kd.R_drew)); exact HO296.out) hb); have n1_ := Aside0.mk (Kd.R_below (by (with_reducible repeat (first | apply Kd.R_alloc | apply Kd.R_drewN | apply Kd.R_drew)); exact HO299.out) hb); have n2_ := Aside0.mk (Kd.R_below (by (with_reducible repeat (first | apply Kd.R_alloc | apply Kd.R_drewN | apply Kd.R_drew)); exact HO303.out) hb); have n3_ := Aside0.mk (Kd.R_below (by (with_reducible repeat (first | apply Kd.R_alloc | apply Kd.R_drewN | apply Kd.R_drew)); exact HO307.out) hb); have n4_ := Aside0.mk (Kd.R_below (by (with_reducible repeat (first | apply Kd.R_alloc | apply Kd.R_drewN | apply Kd.R_drew)); exact HO311.out) hb); have n5_ := Aside0.mk (below_step (by repeat (first | (with_reducible first | exact HB.out | apply below_alloc | apply pw_below_drewN | apply below_drew1) | exact HB.out)) hb); clear HO296; clear HO299; clear HO303; clear HO307; clear HO311; clear HB; have HO296 := n0_; have HO299 := n1_; have HO303 := n2_; have HO307 := n3_; have HO311 := n4_; have HB := n5_; clear n0_ n1_ n2_ n3_ n4_ n5_; (try clear hb); (try clear hb2); (try clear hk); (try clear hi)))
            go_meet
            case rel => exact ⟨_, (false), (by first | rfl | (simp; done) | (simp [*]; done)), H', ⟨by first | omega | exact Nat.le_refl _⟩, ⟨by (with_reducible repeat (first | apply Kd.R_alloc | apply Kd.R_drewN | apply Kd.R_drew)); exact Kd.R_mono HO296.out (fun _ hk => hk.2)⟩, ⟨by (with_reducible repeat (first | apply Kd.R_alloc | apply Kd.R_drewN | apply Kd.R_drew)); exact Kd.R_mono HO299.out (fun _ hk => hk.2)⟩, ⟨by (with_reducible repeat (first | apply Kd.R_alloc | apply Kd.R_drewN | apply Kd.R_drew)); exact Kd.R_mono HO303.out (fun _ hk => trivial)⟩, ⟨by repeat (first | (with_reducible first | exact HB.out | apply below_alloc | apply pw_below_drewN | apply below_drew1) | exact HB.out)⟩⟩
          · replace c21 := Bool.eq_false_iff.mpr c21
            subst c21
            have H1 : (if (t304.length : Int) > 0 then (graftwoodlaw13_DiffTells.j0 k t294 t297 t300 t301 true) else (graftwoodlaw13_DiffTells.j0 k t294 t297 t300 t301 (t305 != 1))) = some r := by rw [if_neg (show ¬ (false = true) by decide)] at H; exact H
            clear H
            have H := H1
            clear H1
            by_cases c27 : (t304.length : Int) > 0
            · rw [if_pos c27] at H
              have c27b0 : decide (0 < (t304.length : Int)) = true := decide_eq_true c27
              have c27b1 : decide (0 < t304.length) = true := decide_eq_true (by omega)
              clear c27
              have H' := Aside0.mk H
              clear H
              go_wp2_with (first | ((with_reducible refine gate_callee (f := 10) rfl ?_); refine goesL_ (some 25) rfl rfl Tryz.func10 (by kernel_rfl) rfl #[.slice Ao11 t297.length co11] rfl (by (try simp only [List.map_toArray, List.map_cons, List.map_nil]); first | done | rfl | (simp only [List.length_drop, List.length_take]; rfl)) ?_; (with_reducible refine (graftwoodlaw13_all.calls k _ _ t297 true _ ?side1 ?side2 A14.out).mono ?_); (case side1 => repeat (first | exact (Kd.R_reads' HO299.out).2.2 | (with_reducible refine Kd.C_alloc ?_ _) | (with_reducible refine Kd.C_drewN ?_ _) | (with_reducible refine Kd.C_drew ?_))); (case side2 => exact (Kd.R_reads' HO299.out).2.1); rintro e w28 ⟨rfl, hb⟩; refine ⟨_, rfl, ?_⟩; have n0_ := Aside0.mk (Kd.R_below (by (with_reducible repeat (first | apply Kd.R_alloc | apply Kd.R_drewN | apply Kd.R_drew)); exact HO296.out) hb); have n1_ := Aside0.mk (Kd.R_below (by (with_reducible repeat (first | apply Kd.R_alloc | apply Kd.R_drewN | apply Kd.R_drew)); exact HO299.out) hb); have n2_ := Aside0.mk (Kd.R_below (by (with_reducible repeat (first | apply Kd.R_alloc | apply Kd.R_drewN | apply Kd.R_drew)); exact HO303.out) hb); have n3_ := Aside0.mk (Kd.R_below (by (with_reducible repeat (first | apply Kd.R_alloc | apply Kd.R_drewN | apply Kd.R_drew)); exact HO307.out) hb); have n4_ := Aside0.mk (below_step (by repeat (first | (with_reducible first | exact HB.out | apply below_alloc | apply pw_below_drewN | apply below_drew1) | exact HB.out)) hb); clear HO296; clear HO299; clear HO303; clear HO307; clear HB; have HO296 := n0_; have HO299 := n1_; have HO303 := n2_; have HO307 := n3_; have HB := n4_; clear n0_ n1_ n2_ n3_ n4_; (try clear hb); (try clear hb2); (try clear hk); (try clear hi)) | (go_at_call 15; (refine (graftwoodref13_Diff.calls k _ _ ([] : List (S24)) _ _ t297 t309 _ ?side1 ?side2 ?side3 ?side4 A16.out).mono ?_); (case side1 => exact Kd.C_nil _ _); (case side2 => exact Nat.le_refl _); (case side3 => repeat (first | exact (Kd.R_reads' HO299.out).2.2 | (with_reducible refine Kd.C_alloc ?_ _) | (with_reducible refine Kd.C_drewN ?_ _) | (with_reducible refine Kd.C_drew ?_))); (case side4 => exact (Kd.R_reads' HO299.out).2.1); rintro e w29 ⟨v310, rfl, ho0, hb⟩; have n0_ := Aside0.mk (Kd.R_below (by (with_reducible repeat (first | apply Kd.R_alloc | apply Kd.R_drewN | apply Kd.R_drew)); exact HO296.out) hb); have n1_ := Aside0.mk (Kd.R_below (by (with_reducible repeat (first | apply Kd.R_alloc | apply Kd.R_drewN | apply Kd.R_drew)); exact HO299.out) hb); have n2_ := Aside0.mk (Kd.R_elder' (by (with_reducible repeat (first | apply Kd.R_alloc | apply Kd.R_drewN | apply Kd.R_drew)); exact HO303.out) (Kd.R_base ho0) hb); have n3_ := Aside0.mk (Kd.R_elder' (by (with_reducible repeat (first | apply Kd.R_alloc | apply Kd.R_drewN | apply Kd.R_drew)); exact HO307.out) (Kd.R_base ho0) hb); have n4_ := Aside0.mk (Kd.R_lower (Kd.R_new' (Kd.R_new' ho0 (Kd.R_lt (by (with_reducible repeat (first | apply Kd.R_alloc | apply Kd.R_drewN | apply Kd.R_drew)); exact HO303.out))) (Kd.R_lt (by (with_reducible repeat (first | apply Kd.R_alloc | apply Kd.R_drewN | apply Kd.R_drew)); exact HO307.out))) (below_size (by repeat (first | (with_reducible first | exact HB.out | apply below_alloc | apply pw_below_drewN | apply below_drew1) | exact HB.out)))); have n5_ := Aside0.mk (below_step (by repeat (first | (with_reducible first | exact HB.out | apply below_alloc | apply pw_below_drewN | apply below_drew1) | exact HB.out)) hb); clear HO296; clear HO299; clear HO303; clear HO307; clear HB; have HO296 := n0_; have HO299 := n1_; have HO303 := n2_; have HO307 := n3_; have HO311 := n4_; have HB := n5_; clear n0_ n1_ n2_ n3_ n4_ n5_; (try clear hb); (try clear hb2); (try clear hk); (try clear hi); (try clear ho0); obtain ⟨Ao30, co30, eo30⟩ := Kd.R_slice HO307.out; subst eo30; obtain ⟨Ao31, co31, eo31⟩ := Kd.R_slice HO311.out; subst eo31) | (go_at_call 14; (with_reducible refine (graftwoodref13_Same.calls k _ _ t304 _ _ t309 true _ ?side1 ?side2 ?side3 ?side4 A17.out).mono ?_); (case side1 => repeat (first | exact (Kd.R_reads' HO307.out).2.2 | (with_reducible refine Kd.C_alloc ?_ _) | (with_reducible refine Kd.C_drewN ?_ _) | (with_reducible refine Kd.C_drew ?_))); (case side2 => exact (Kd.R_reads' HO307.out).2.1); (case side3 => repeat (first | exact (Kd.R_reads' HO311.out).2.2 | (with_reducible refine Kd.C_alloc ?_ _) | (with_reducible refine Kd.C_drewN ?_ _) | (with_reducible refine Kd.C_drew ?_))); (case side4 => exact (Kd.R_reads' HO311.out).2.1); rintro e w' ⟨rfl, ⟨nd, rfl⟩⟩) | (go_at_call 10; (with_reducible refine (graftwoodlaw13_all.calls k _ _ t297 false _ ?side1 ?side2 A20.out).mono ?_); (case side1 => repeat (first | exact (Kd.R_reads' HO299.out).2.2 | (with_reducible refine Kd.C_alloc ?_ _) | (with_reducible refine Kd.C_drewN ?_ _) | (with_reducible refine Kd.C_drew ?_))); (case side2 => exact (Kd.R_reads' HO299.out).2.1); rintro e w32 ⟨rfl, hb⟩; have n0_ := Aside0.mk (Kd.R_below (by (with_reducible repeat (first | apply Kd.R_alloc | apply Kd.R_drewN | apply Kd.R_drew)); exact HO296.out) hb); have n1_ := Aside0.mk (Kd.R_below (by (with_reducible repeat (first | apply Kd.R_alloc | apply Kd.R_drewN | apply Kd.R_drew)); exact HO299.out) hb); have n2_ := Aside0.mk (Kd.R_below (by (with_reducible repeat (first | apply Kd.R_alloc | apply Kd.R_drewN | apply Kd.R_drew)); exact HO303.out) hb); have n3_ := Aside0.mk (Kd.R_below (by (with_reducible repeat (first | apply Kd.R_alloc | apply Kd.R_drewN | apply Kd.R_drew)); exact HO307.out) hb); have n4_ := Aside0.mk (Kd.R_below (by (with_reducible repeat (first | apply Kd.R_alloc | apply Kd.R_drewN | apply Kd.R_drew)); exact HO311.out) hb); have n5_ := Aside0.mk (below_step (by repeat (first | (with_reducible first | exact HB.out | apply below_alloc | apply pw_below_drewN | apply below_drew1) | exact HB.out)) hb); clear HO296; clear HO299; clear HO303; clear HO307; clear HO311; clear HB; have HO296 := n0_; have HO299 := n1_; have HO303 := n2_; have HO307 := n3_; have HO311 := n4_; have HB := n5_; clear n0_ n1_ n2_ n3_ n4_ n5_; (try clear hb); (try clear hb2); (try clear hk); (try clear hi)))
              go_meet
              case rel => exact ⟨_, (true), (by first | rfl | (simp; done) | (simp [*]; done)), H', ⟨by first | omega | exact Nat.le_refl _⟩, ⟨by (with_reducible repeat (first | apply Kd.R_alloc | apply Kd.R_drewN | apply Kd.R_drew)); exact Kd.R_mono HO296.out (fun _ hk => hk.2)⟩, ⟨by (with_reducible repeat (first | apply Kd.R_alloc | apply Kd.R_drewN | apply Kd.R_drew)); exact Kd.R_mono HO299.out (fun _ hk => hk.2)⟩, ⟨by (with_reducible repeat (first | apply Kd.R_alloc | apply Kd.R_drewN | apply Kd.R_drew)); exact Kd.R_mono HO303.out (fun _ hk => trivial)⟩, ⟨by repeat (first | (with_reducible first | exact HB.out | apply below_alloc | apply pw_below_drewN | apply below_drew1) | exact HB.out)⟩⟩
            · rw [if_neg c27] at H
              have c27b0 : decide (0 < (t304.length : Int)) = false := decide_eq_false c27
              have c27b1 : decide (0 < t304.length) = false := decide_eq_false (by omega)
              clear c27
              have H' := Aside0.mk H
              clear H
              go_wp2_with (first | ((with_reducible refine gate_callee (f := 10) rfl ?_); refine goesL_ (some 25) rfl rfl Tryz.func10 (by kernel_rfl) rfl #[.slice Ao11 t297.length co11] rfl (by (try simp only [List.map_toArray, List.map_cons, List.map_nil]); first | done | rfl | (simp only [List.length_drop, List.length_take]; rfl)) ?_; (with_reducible refine (graftwoodlaw13_all.calls k _ _ t297 true _ ?side1 ?side2 A14.out).mono ?_); (case side1 => repeat (first | exact (Kd.R_reads' HO299.out).2.2 | (with_reducible refine Kd.C_alloc ?_ _) | (with_reducible refine Kd.C_drewN ?_ _) | (with_reducible refine Kd.C_drew ?_))); (case side2 => exact (Kd.R_reads' HO299.out).2.1); rintro e w33 ⟨rfl, hb⟩; refine ⟨_, rfl, ?_⟩; have n0_ := Aside0.mk (Kd.R_below (by (with_reducible repeat (first | apply Kd.R_alloc | apply Kd.R_drewN | apply Kd.R_drew)); exact HO296.out) hb); have n1_ := Aside0.mk (Kd.R_below (by (with_reducible repeat (first | apply Kd.R_alloc | apply Kd.R_drewN | apply Kd.R_drew)); exact HO299.out) hb); have n2_ := Aside0.mk (Kd.R_below (by (with_reducible repeat (first | apply Kd.R_alloc | apply Kd.R_drewN | apply Kd.R_drew)); exact HO303.out) hb); have n3_ := Aside0.mk (Kd.R_below (by (with_reducible repeat (first | apply Kd.R_alloc | apply Kd.R_drewN | apply Kd.R_drew)); exact HO307.out) hb); have n4_ := Aside0.mk (below_step (by repeat (first | (with_reducible first | exact HB.out | apply below_alloc | apply pw_below_drewN | apply below_drew1) | exact HB.out)) hb); clear HO296; clear HO299; clear HO303; clear HO307; clear HB; have HO296 := n0_; have HO299 := n1_; have HO303 := n2_; have HO307 := n3_; have HB := n4_; clear n0_ n1_ n2_ n3_ n4_; (try clear hb); (try clear hb2); (try clear hk); (try clear hi)) | (go_at_call 15; (refine (graftwoodref13_Diff.calls k _ _ ([] : List (S24)) _ _ t297 t309 _ ?side1 ?side2 ?side3 ?side4 A16.out).mono ?_); (case side1 => exact Kd.C_nil _ _); (case side2 => exact Nat.le_refl _); (case side3 => repeat (first | exact (Kd.R_reads' HO299.out).2.2 | (with_reducible refine Kd.C_alloc ?_ _) | (with_reducible refine Kd.C_drewN ?_ _) | (with_reducible refine Kd.C_drew ?_))); (case side4 => exact (Kd.R_reads' HO299.out).2.1); rintro e w34 ⟨v310, rfl, ho0, hb⟩; have n0_ := Aside0.mk (Kd.R_below (by (with_reducible repeat (first | apply Kd.R_alloc | apply Kd.R_drewN | apply Kd.R_drew)); exact HO296.out) hb); have n1_ := Aside0.mk (Kd.R_below (by (with_reducible repeat (first | apply Kd.R_alloc | apply Kd.R_drewN | apply Kd.R_drew)); exact HO299.out) hb); have n2_ := Aside0.mk (Kd.R_elder' (by (with_reducible repeat (first | apply Kd.R_alloc | apply Kd.R_drewN | apply Kd.R_drew)); exact HO303.out) (Kd.R_base ho0) hb); have n3_ := Aside0.mk (Kd.R_elder' (by (with_reducible repeat (first | apply Kd.R_alloc | apply Kd.R_drewN | apply Kd.R_drew)); exact HO307.out) (Kd.R_base ho0) hb); have n4_ := Aside0.mk (Kd.R_lower (Kd.R_new' (Kd.R_new' ho0 (Kd.R_lt (by (with_reducible repeat (first | apply Kd.R_alloc | apply Kd.R_drewN | apply Kd.R_drew)); exact HO303.out))) (Kd.R_lt (by (with_reducible repeat (first | apply Kd.R_alloc | apply Kd.R_drewN | apply Kd.R_drew)); exact HO307.out))) (below_size (by repeat (first | (with_reducible first | exact HB.out | apply below_alloc | apply pw_below_drewN | apply below_drew1) | exact HB.out)))); have n5_ := Aside0.mk (below_step (by repeat (first | (with_reducible first | exact HB.out | apply below_alloc | apply pw_below_drewN | apply below_drew1) | exact HB.out)) hb); clear HO296; clear HO299; clear HO303; clear HO307; clear HB; have HO296 := n0_; have HO299 := n1_; have HO303 := n2_; have HO307 := n3_; have HO311 := n4_; have HB := n5_; clear n0_ n1_ n2_ n3_ n4_ n5_; (try clear hb); (try clear hb2); (try clear hk); (try clear hi); (try clear ho0); obtain ⟨Ao35, co35, eo35⟩ := Kd.R_slice HO307.out; subst eo35; obtain ⟨Ao36, co36, eo36⟩ := Kd.R_slice HO311.out; subst eo36) | (go_at_call 14; (with_reducible refine (graftwoodref13_Same.calls k _ _ t304 _ _ t309 true _ ?side1 ?side2 ?side3 ?side4 A17.out).mono ?_); (case side1 => repeat (first | exact (Kd.R_reads' HO307.out).2.2 | (with_reducible refine Kd.C_alloc ?_ _) | (with_reducible refine Kd.C_drewN ?_ _) | (with_reducible refine Kd.C_drew ?_))); (case side2 => exact (Kd.R_reads' HO307.out).2.1); (case side3 => repeat (first | exact (Kd.R_reads' HO311.out).2.2 | (with_reducible refine Kd.C_alloc ?_ _) | (with_reducible refine Kd.C_drewN ?_ _) | (with_reducible refine Kd.C_drew ?_))); (case side4 => exact (Kd.R_reads' HO311.out).2.1); rintro e w' ⟨rfl, ⟨nd, rfl⟩⟩) | (go_at_call 10; (with_reducible refine (graftwoodlaw13_all.calls k _ _ t297 false _ ?side1 ?side2 A20.out).mono ?_); (case side1 => repeat (first | exact (Kd.R_reads' HO299.out).2.2 | (with_reducible refine Kd.C_alloc ?_ _) | (with_reducible refine Kd.C_drewN ?_ _) | (with_reducible refine Kd.C_drew ?_))); (case side2 => exact (Kd.R_reads' HO299.out).2.1); rintro e w37 ⟨rfl, hb⟩; have n0_ := Aside0.mk (Kd.R_below (by (with_reducible repeat (first | apply Kd.R_alloc | apply Kd.R_drewN | apply Kd.R_drew)); exact HO296.out) hb); have n1_ := Aside0.mk (Kd.R_below (by (with_reducible repeat (first | apply Kd.R_alloc | apply Kd.R_drewN | apply Kd.R_drew)); exact HO299.out) hb); have n2_ := Aside0.mk (Kd.R_below (by (with_reducible repeat (first | apply Kd.R_alloc | apply Kd.R_drewN | apply Kd.R_drew)); exact HO303.out) hb); have n3_ := Aside0.mk (Kd.R_below (by (with_reducible repeat (first | apply Kd.R_alloc | apply Kd.R_drewN | apply Kd.R_drew)); exact HO307.out) hb); have n4_ := Aside0.mk (Kd.R_below (by (with_reducible repeat (first | apply Kd.R_alloc | apply Kd.R_drewN | apply Kd.R_drew)); exact HO311.out) hb); have n5_ := Aside0.mk (below_step (by repeat (first | (with_reducible first | exact HB.out | apply below_alloc | apply pw_below_drewN | apply below_drew1) | exact HB.out)) hb); clear HO296; clear HO299; clear HO303; clear HO307; clear HO311; clear HB; have HO296 := n0_; have HO299 := n1_; have HO303 := n2_; have HO307 := n3_; have HO311 := n4_; have HB := n5_; clear n0_ n1_ n2_ n3_ n4_ n5_; (try clear hb); (try clear hb2); (try clear hk); (try clear hi)))
              go_meet
              case rel => exact ⟨_, ((t305 != 1)), (by first | rfl | (simp; done) | (simp [*]; done)), H', ⟨by first | omega | exact Nat.le_refl _⟩, ⟨by (with_reducible repeat (first | apply Kd.R_alloc | apply Kd.R_drewN | apply Kd.R_drew)); exact Kd.R_mono HO296.out (fun _ hk => hk.2)⟩, ⟨by (with_reducible repeat (first | apply Kd.R_alloc | apply Kd.R_drewN | apply Kd.R_drew)); exact Kd.R_mono HO299.out (fun _ hk => hk.2)⟩, ⟨by (with_reducible repeat (first | apply Kd.R_alloc | apply Kd.R_drewN | apply Kd.R_drew)); exact Kd.R_mono HO303.out (fun _ hk => trivial)⟩, ⟨by repeat (first | (with_reducible first | exact HB.out | apply below_alloc | apply pw_below_drewN | apply below_drew1) | exact HB.out)⟩⟩
        · rw [if_neg c19] at H
          have c19b0 : (t305 == 0) = false := beq_eq_false_iff_ne.mpr c19
          have c19b1 : (t305 != 0) = true := bne_iff_ne.mpr c19
          (first | rw [c19b0] | (simp only [i64_w, i32_w]; rw [c19b0]) | skip)
          have H' := Aside0.mk H
          clear H
          go_wp2_with (first | ((with_reducible refine gate_callee (f := 10) rfl ?_); refine goesL_ (some 25) rfl rfl Tryz.func10 (by kernel_rfl) rfl #[.slice Ao11 t297.length co11] rfl (by (try simp only [List.map_toArray, List.map_cons, List.map_nil]); first | done | rfl | (simp only [List.length_drop, List.length_take]; rfl)) ?_; (with_reducible refine (graftwoodlaw13_all.calls k _ _ t297 true _ ?side1 ?side2 A14.out).mono ?_); (case side1 => repeat (first | exact (Kd.R_reads' HO299.out).2.2 | (with_reducible refine Kd.C_alloc ?_ _) | (with_reducible refine Kd.C_drewN ?_ _) | (with_reducible refine Kd.C_drew ?_))); (case side2 => exact (Kd.R_reads' HO299.out).2.1); rintro e w38 ⟨rfl, hb⟩; refine ⟨_, rfl, ?_⟩; have n0_ := Aside0.mk (Kd.R_below (by (with_reducible repeat (first | apply Kd.R_alloc | apply Kd.R_drewN | apply Kd.R_drew)); exact HO296.out) hb); have n1_ := Aside0.mk (Kd.R_below (by (with_reducible repeat (first | apply Kd.R_alloc | apply Kd.R_drewN | apply Kd.R_drew)); exact HO299.out) hb); have n2_ := Aside0.mk (Kd.R_below (by (with_reducible repeat (first | apply Kd.R_alloc | apply Kd.R_drewN | apply Kd.R_drew)); exact HO303.out) hb); have n3_ := Aside0.mk (Kd.R_below (by (with_reducible repeat (first | apply Kd.R_alloc | apply Kd.R_drewN | apply Kd.R_drew)); exact HO307.out) hb); have n4_ := Aside0.mk (below_step (by repeat (first | (with_reducible first | exact HB.out | apply below_alloc | apply pw_below_drewN | apply below_drew1) | exact HB.out)) hb); clear HO296; clear HO299; clear HO303; clear HO307; clear HB; have HO296 := n0_; have HO299 := n1_; have HO303 := n2_; have HO307 := n3_; have HB := n4_; clear n0_ n1_ n2_ n3_ n4_; (try clear hb); (try clear hb2); (try clear hk); (try clear hi)) | (go_at_call 15; (refine (graftwoodref13_Diff.calls k _ _ ([] : List (S24)) _ _ t297 t309 _ ?side1 ?side2 ?side3 ?side4 A16.out).mono ?_); (case side1 => exact Kd.C_nil _ _); (case side2 => exact Nat.le_refl _); (case side3 => repeat (first | exact (Kd.R_reads' HO299.out).2.2 | (with_reducible refine Kd.C_alloc ?_ _) | (with_reducible refine Kd.C_drewN ?_ _) | (with_reducible refine Kd.C_drew ?_))); (case side4 => exact (Kd.R_reads' HO299.out).2.1); rintro e w39 ⟨v310, rfl, ho0, hb⟩; have n0_ := Aside0.mk (Kd.R_below (by (with_reducible repeat (first | apply Kd.R_alloc | apply Kd.R_drewN | apply Kd.R_drew)); exact HO296.out) hb); have n1_ := Aside0.mk (Kd.R_below (by (with_reducible repeat (first | apply Kd.R_alloc | apply Kd.R_drewN | apply Kd.R_drew)); exact HO299.out) hb); have n2_ := Aside0.mk (Kd.R_elder' (by (with_reducible repeat (first | apply Kd.R_alloc | apply Kd.R_drewN | apply Kd.R_drew)); exact HO303.out) (Kd.R_base ho0) hb); have n3_ := Aside0.mk (Kd.R_elder' (by (with_reducible repeat (first | apply Kd.R_alloc | apply Kd.R_drewN | apply Kd.R_drew)); exact HO307.out) (Kd.R_base ho0) hb); have n4_ := Aside0.mk (Kd.R_lower (Kd.R_new' (Kd.R_new' ho0 (Kd.R_lt (by (with_reducible repeat (first | apply Kd.R_alloc | apply Kd.R_drewN | apply Kd.R_drew)); exact HO303.out))) (Kd.R_lt (by (with_reducible repeat (first | apply Kd.R_alloc | apply Kd.R_drewN | apply Kd.R_drew)); exact HO307.out))) (below_size (by repeat (first | (with_reducible first | exact HB.out | apply below_alloc | apply pw_below_drewN | apply below_drew1) | exact HB.out)))); have n5_ := Aside0.mk (below_step (by repeat (first | (with_reducible first | exact HB.out | apply below_alloc | apply pw_below_drewN | apply below_drew1) | exact HB.out)) hb); clear HO296; clear HO299; clear HO303; clear HO307; clear HB; have HO296 := n0_; have HO299 := n1_; have HO303 := n2_; have HO307 := n3_; have HO311 := n4_; have HB := n5_; clear n0_ n1_ n2_ n3_ n4_ n5_; (try clear hb); (try clear hb2); (try clear hk); (try clear hi); (try clear ho0); obtain ⟨Ao40, co40, eo40⟩ := Kd.R_slice HO307.out; subst eo40; obtain ⟨Ao41, co41, eo41⟩ := Kd.R_slice HO311.out; subst eo41) | (go_at_call 14; (with_reducible refine (graftwoodref13_Same.calls k _ _ t304 _ _ t309 true _ ?side1 ?side2 ?side3 ?side4 A17.out).mono ?_); (case side1 => repeat (first | exact (Kd.R_reads' HO307.out).2.2 | (with_reducible refine Kd.C_alloc ?_ _) | (with_reducible refine Kd.C_drewN ?_ _) | (with_reducible refine Kd.C_drew ?_))); (case side2 => exact (Kd.R_reads' HO307.out).2.1); (case side3 => repeat (first | exact (Kd.R_reads' HO311.out).2.2 | (with_reducible refine Kd.C_alloc ?_ _) | (with_reducible refine Kd.C_drewN ?_ _) | (with_reducible refine Kd.C_drew ?_))); (case side4 => exact (Kd.R_reads' HO311.out).2.1); rintro e w' ⟨rfl, ⟨nd, rfl⟩⟩))
          go_meet
          case rel => exact ⟨_, (true), (by first | rfl | (simp; done) | (simp [*]; done)), H', ⟨by first | omega | exact Nat.le_refl _⟩, ⟨by (with_reducible repeat (first | apply Kd.R_alloc | apply Kd.R_drewN | apply Kd.R_drew)); exact Kd.R_mono HO296.out (fun _ hk => hk.2)⟩, ⟨by (with_reducible repeat (first | apply Kd.R_alloc | apply Kd.R_drewN | apply Kd.R_drew)); exact Kd.R_mono HO299.out (fun _ hk => hk.2)⟩, ⟨by (with_reducible repeat (first | apply Kd.R_alloc | apply Kd.R_drewN | apply Kd.R_drew)); exact Kd.R_mono HO303.out (fun _ hk => trivial)⟩, ⟨by repeat (first | (with_reducible first | exact HB.out | apply below_alloc | apply pw_below_drewN | apply below_drew1) | exact HB.out)⟩⟩
      · replace c18 := Bool.eq_false_iff.mpr c18
        subst c18
        have H1 : (graftwoodlaw13_DiffTells.j0 k t294 t297 t300 t301 true) = some r := by rw [if_neg (show ¬ (false = true) by decide)] at H; exact H
        clear H
        have H := H1
        clear H1
        have H' := Aside0.mk H
        clear H
        go_wp2_with (first | ((with_reducible refine gate_callee (f := 10) rfl ?_); refine goesL_ (some 25) rfl rfl Tryz.func10 (by kernel_rfl) rfl #[.slice Ao11 t297.length co11] rfl (by (try simp only [List.map_toArray, List.map_cons, List.map_nil]); first | done | rfl | (simp only [List.length_drop, List.length_take]; rfl)) ?_; (with_reducible refine (graftwoodlaw13_all.calls k _ _ t297 true _ ?side1 ?side2 A14.out).mono ?_); (case side1 => repeat (first | exact (Kd.R_reads' HO299.out).2.2 | (with_reducible refine Kd.C_alloc ?_ _) | (with_reducible refine Kd.C_drewN ?_ _) | (with_reducible refine Kd.C_drew ?_))); (case side2 => exact (Kd.R_reads' HO299.out).2.1); rintro e w42 ⟨rfl, hb⟩; refine ⟨_, rfl, ?_⟩; have n0_ := Aside0.mk (Kd.R_below (by (with_reducible repeat (first | apply Kd.R_alloc | apply Kd.R_drewN | apply Kd.R_drew)); exact HO296.out) hb); have n1_ := Aside0.mk (Kd.R_below (by (with_reducible repeat (first | apply Kd.R_alloc | apply Kd.R_drewN | apply Kd.R_drew)); exact HO299.out) hb); have n2_ := Aside0.mk (Kd.R_below (by (with_reducible repeat (first | apply Kd.R_alloc | apply Kd.R_drewN | apply Kd.R_drew)); exact HO303.out) hb); have n3_ := Aside0.mk (Kd.R_below (by (with_reducible repeat (first | apply Kd.R_alloc | apply Kd.R_drewN | apply Kd.R_drew)); exact HO307.out) hb); have n4_ := Aside0.mk (below_step (by repeat (first | (with_reducible first | exact HB.out | apply below_alloc | apply pw_below_drewN | apply below_drew1) | exact HB.out)) hb); clear HO296; clear HO299; clear HO303; clear HO307; clear HB; have HO296 := n0_; have HO299 := n1_; have HO303 := n2_; have HO307 := n3_; have HB := n4_; clear n0_ n1_ n2_ n3_ n4_; (try clear hb); (try clear hb2); (try clear hk); (try clear hi)) | (go_at_call 15; (refine (graftwoodref13_Diff.calls k _ _ ([] : List (S24)) _ _ t297 t309 _ ?side1 ?side2 ?side3 ?side4 A16.out).mono ?_); (case side1 => exact Kd.C_nil _ _); (case side2 => exact Nat.le_refl _); (case side3 => repeat (first | exact (Kd.R_reads' HO299.out).2.2 | (with_reducible refine Kd.C_alloc ?_ _) | (with_reducible refine Kd.C_drewN ?_ _) | (with_reducible refine Kd.C_drew ?_))); (case side4 => exact (Kd.R_reads' HO299.out).2.1); rintro e w43 ⟨v310, rfl, ho0, hb⟩; have n0_ := Aside0.mk (Kd.R_below (by (with_reducible repeat (first | apply Kd.R_alloc | apply Kd.R_drewN | apply Kd.R_drew)); exact HO296.out) hb); have n1_ := Aside0.mk (Kd.R_below (by (with_reducible repeat (first | apply Kd.R_alloc | apply Kd.R_drewN | apply Kd.R_drew)); exact HO299.out) hb); have n2_ := Aside0.mk (Kd.R_elder' (by (with_reducible repeat (first | apply Kd.R_alloc | apply Kd.R_drewN | apply Kd.R_drew)); exact HO303.out) (Kd.R_base ho0) hb); have n3_ := Aside0.mk (Kd.R_elder' (by (with_reducible repeat (first | apply Kd.R_alloc | apply Kd.R_drewN | apply Kd.R_drew)); exact HO307.out) (Kd.R_base ho0) hb); have n4_ := Aside0.mk (Kd.R_lower (Kd.R_new' (Kd.R_new' ho0 (Kd.R_lt (by (with_reducible repeat (first | apply Kd.R_alloc | apply Kd.R_drewN | apply Kd.R_drew)); exact HO303.out))) (Kd.R_lt (by (with_reducible repeat (first | apply Kd.R_alloc | apply Kd.R_drewN | apply Kd.R_drew)); exact HO307.out))) (below_size (by repeat (first | (with_reducible first | exact HB.out | apply below_alloc | apply pw_below_drewN | apply below_drew1) | exact HB.out)))); have n5_ := Aside0.mk (below_step (by repeat (first | (with_reducible first | exact HB.out | apply below_alloc | apply pw_below_drewN | apply below_drew1) | exact HB.out)) hb); clear HO296; clear HO299; clear HO303; clear HO307; clear HB; have HO296 := n0_; have HO299 := n1_; have HO303 := n2_; have HO307 := n3_; have HO311 := n4_; have HB := n5_; clear n0_ n1_ n2_ n3_ n4_ n5_; (try clear hb); (try clear hb2); (try clear hk); (try clear hi); (try clear ho0); obtain ⟨Ao44, co44, eo44⟩ := Kd.R_slice HO307.out; subst eo44; obtain ⟨Ao45, co45, eo45⟩ := Kd.R_slice HO311.out; subst eo45) | (go_at_call 14; (with_reducible refine (graftwoodref13_Same.calls k _ _ t304 _ _ t309 false _ ?side1 ?side2 ?side3 ?side4 A17.out).mono ?_); (case side1 => repeat (first | exact (Kd.R_reads' HO307.out).2.2 | (with_reducible refine Kd.C_alloc ?_ _) | (with_reducible refine Kd.C_drewN ?_ _) | (with_reducible refine Kd.C_drew ?_))); (case side2 => exact (Kd.R_reads' HO307.out).2.1); (case side3 => repeat (first | exact (Kd.R_reads' HO311.out).2.2 | (with_reducible refine Kd.C_alloc ?_ _) | (with_reducible refine Kd.C_drewN ?_ _) | (with_reducible refine Kd.C_drew ?_))); (case side4 => exact (Kd.R_reads' HO311.out).2.1); rintro e w' ⟨rfl, ⟨nd, rfl⟩⟩))
        go_meet
        case rel => exact ⟨_, (true), (by first | rfl | (simp; done) | (simp [*]; done)), H', ⟨by first | omega | exact Nat.le_refl _⟩, ⟨by (with_reducible repeat (first | apply Kd.R_alloc | apply Kd.R_drewN | apply Kd.R_drew)); exact Kd.R_mono HO296.out (fun _ hk => hk.2)⟩, ⟨by (with_reducible repeat (first | apply Kd.R_alloc | apply Kd.R_drewN | apply Kd.R_drew)); exact Kd.R_mono HO299.out (fun _ hk => hk.2)⟩, ⟨by (with_reducible repeat (first | apply Kd.R_alloc | apply Kd.R_drewN | apply Kd.R_drew)); exact Kd.R_mono HO303.out (fun _ hk => trivial)⟩, ⟨by repeat (first | (with_reducible first | exact HB.out | apply below_alloc | apply pw_below_drewN | apply below_drew1) | exact HB.out)⟩⟩
    · replace c15 := Bool.eq_false_iff.mpr c15
      subst c15
      have H1 : ((graftwoodlaw13_all.f k t297).bind fun t314 => (if t314 = true then (graftwoodlaw13_DiffTells.j0 k t294 t297 t300 t301 false) else (if (t304.length : Int) > 0 then (graftwoodlaw13_DiffTells.j0 k t294 t297 t300 t301 true) else (graftwoodlaw13_DiffTells.j0 k t294 t297 t300 t301 (t305 != 1))))) = some r := by rw [if_neg (show ¬ (false = true) by decide)] at H; exact H
      clear H
      have H := H1
      clear H1
      replace H := Option.bind_eq_some_iff.mp H
      obtain ⟨t314, A460, H⟩ := H
      replace H : (if t314 = true then (graftwoodlaw13_DiffTells.j0 k t294 t297 t300 t301 false) else (if (t304.length : Int) > 0 then (graftwoodlaw13_DiffTells.j0 k t294 t297 t300 t301 true) else (graftwoodlaw13_DiffTells.j0 k t294 t297 t300 t301 (t305 != 1)))) = some r := H
      have A46 := Aside0.mk A460
      clear A460
      by_cases c47 : t314 = true
      · subst c47
        have H1 : (graftwoodlaw13_DiffTells.j0 k t294 t297 t300 t301 false) = some r := by rw [if_pos rfl] at H; exact H
        clear H
        have H := H1
        clear H1
        have H' := Aside0.mk H
        clear H
        go_wp2_with (first | ((with_reducible refine gate_callee (f := 10) rfl ?_); refine goesL_ (some 25) rfl rfl Tryz.func10 (by kernel_rfl) rfl #[.slice Ao11 t297.length co11] rfl (by (try simp only [List.map_toArray, List.map_cons, List.map_nil]); first | done | rfl | (simp only [List.length_drop, List.length_take]; rfl)) ?_; (with_reducible refine (graftwoodlaw13_all.calls k _ _ t297 false _ ?side1 ?side2 A14.out).mono ?_); (case side1 => repeat (first | exact (Kd.R_reads' HO299.out).2.2 | (with_reducible refine Kd.C_alloc ?_ _) | (with_reducible refine Kd.C_drewN ?_ _) | (with_reducible refine Kd.C_drew ?_))); (case side2 => exact (Kd.R_reads' HO299.out).2.1); rintro e w48 ⟨rfl, hb⟩; refine ⟨_, rfl, ?_⟩; have n0_ := Aside0.mk (Kd.R_below (by (with_reducible repeat (first | apply Kd.R_alloc | apply Kd.R_drewN | apply Kd.R_drew)); exact HO296.out) hb); have n1_ := Aside0.mk (Kd.R_below (by (with_reducible repeat (first | apply Kd.R_alloc | apply Kd.R_drewN | apply Kd.R_drew)); exact HO299.out) hb); have n2_ := Aside0.mk (Kd.R_below (by (with_reducible repeat (first | apply Kd.R_alloc | apply Kd.R_drewN | apply Kd.R_drew)); exact HO303.out) hb); have n3_ := Aside0.mk (Kd.R_below (by (with_reducible repeat (first | apply Kd.R_alloc | apply Kd.R_drewN | apply Kd.R_drew)); exact HO307.out) hb); have n4_ := Aside0.mk (below_step (by repeat (first | (with_reducible first | exact HB.out | apply below_alloc | apply pw_below_drewN | apply below_drew1) | exact HB.out)) hb); clear HO296; clear HO299; clear HO303; clear HO307; clear HB; have HO296 := n0_; have HO299 := n1_; have HO303 := n2_; have HO307 := n3_; have HB := n4_; clear n0_ n1_ n2_ n3_ n4_; (try clear hb); (try clear hb2); (try clear hk); (try clear hi)) | (go_at_call 10; (with_reducible refine (graftwoodlaw13_all.calls k _ _ t297 true _ ?side1 ?side2 A46.out).mono ?_); (case side1 => repeat (first | exact (Kd.R_reads' HO299.out).2.2 | (with_reducible refine Kd.C_alloc ?_ _) | (with_reducible refine Kd.C_drewN ?_ _) | (with_reducible refine Kd.C_drew ?_))); (case side2 => exact (Kd.R_reads' HO299.out).2.1); rintro e w49 ⟨rfl, hb⟩; have n0_ := Aside0.mk (Kd.R_below (by (with_reducible repeat (first | apply Kd.R_alloc | apply Kd.R_drewN | apply Kd.R_drew)); exact HO296.out) hb); have n1_ := Aside0.mk (Kd.R_below (by (with_reducible repeat (first | apply Kd.R_alloc | apply Kd.R_drewN | apply Kd.R_drew)); exact HO299.out) hb); have n2_ := Aside0.mk (Kd.R_below (by (with_reducible repeat (first | apply Kd.R_alloc | apply Kd.R_drewN | apply Kd.R_drew)); exact HO303.out) hb); have n3_ := Aside0.mk (Kd.R_below (by (with_reducible repeat (first | apply Kd.R_alloc | apply Kd.R_drewN | apply Kd.R_drew)); exact HO307.out) hb); have n4_ := Aside0.mk (below_step (by repeat (first | (with_reducible first | exact HB.out | apply below_alloc | apply pw_below_drewN | apply below_drew1) | exact HB.out)) hb); clear HO296; clear HO299; clear HO303; clear HO307; clear HB; have HO296 := n0_; have HO299 := n1_; have HO303 := n2_; have HO307 := n3_; have HB := n4_; clear n0_ n1_ n2_ n3_ n4_; (try clear hb); (try clear hb2); (try clear hk); (try clear hi)))
        go_meet
        case rel => exact ⟨_, (false), (by first | rfl | (simp; done) | (simp [*]; done)), H', ⟨by first | omega | exact Nat.le_refl _⟩, ⟨by (with_reducible repeat (first | apply Kd.R_alloc | apply Kd.R_drewN | apply Kd.R_drew)); exact Kd.R_mono HO296.out (fun _ hk => hk.2)⟩, ⟨by (with_reducible repeat (first | apply Kd.R_alloc | apply Kd.R_drewN | apply Kd.R_drew)); exact Kd.R_mono HO299.out (fun _ hk => hk.2)⟩, ⟨by (with_reducible repeat (first | apply Kd.R_alloc | apply Kd.R_drewN | apply Kd.R_drew)); exact Kd.R_mono HO303.out (fun _ hk => trivial)⟩, ⟨by repeat (first | (with_reducible first | exact HB.out | apply below_alloc | apply pw_below_drewN | apply below_drew1) | exact HB.out)⟩⟩
      · replace c47 := Bool.eq_false_iff.mpr c47
        subst c47
        have H1 : (if (t304.length : Int) > 0 then (graftwoodlaw13_DiffTells.j0 k t294 t297 t300 t301 true) else (graftwoodlaw13_DiffTells.j0 k t294 t297 t300 t301 (t305 != 1))) = some r := by rw [if_neg (show ¬ (false = true) by decide)] at H; exact H
        clear H
        have H := H1
        clear H1
        by_cases c50 : (t304.length : Int) > 0
        · rw [if_pos c50] at H
          have c50b0 : decide (0 < (t304.length : Int)) = true := decide_eq_true c50
          have c50b1 : decide (0 < t304.length) = true := decide_eq_true (by omega)
          clear c50
          have H' := Aside0.mk H
          clear H
          go_wp2_with (first | ((with_reducible refine gate_callee (f := 10) rfl ?_); refine goesL_ (some 25) rfl rfl Tryz.func10 (by kernel_rfl) rfl #[.slice Ao11 t297.length co11] rfl (by (try simp only [List.map_toArray, List.map_cons, List.map_nil]); first | done | rfl | (simp only [List.length_drop, List.length_take]; rfl)) ?_; (with_reducible refine (graftwoodlaw13_all.calls k _ _ t297 false _ ?side1 ?side2 A14.out).mono ?_); (case side1 => repeat (first | exact (Kd.R_reads' HO299.out).2.2 | (with_reducible refine Kd.C_alloc ?_ _) | (with_reducible refine Kd.C_drewN ?_ _) | (with_reducible refine Kd.C_drew ?_))); (case side2 => exact (Kd.R_reads' HO299.out).2.1); rintro e w51 ⟨rfl, hb⟩; refine ⟨_, rfl, ?_⟩; have n0_ := Aside0.mk (Kd.R_below (by (with_reducible repeat (first | apply Kd.R_alloc | apply Kd.R_drewN | apply Kd.R_drew)); exact HO296.out) hb); have n1_ := Aside0.mk (Kd.R_below (by (with_reducible repeat (first | apply Kd.R_alloc | apply Kd.R_drewN | apply Kd.R_drew)); exact HO299.out) hb); have n2_ := Aside0.mk (Kd.R_below (by (with_reducible repeat (first | apply Kd.R_alloc | apply Kd.R_drewN | apply Kd.R_drew)); exact HO303.out) hb); have n3_ := Aside0.mk (Kd.R_below (by (with_reducible repeat (first | apply Kd.R_alloc | apply Kd.R_drewN | apply Kd.R_drew)); exact HO307.out) hb); have n4_ := Aside0.mk (below_step (by repeat (first | (with_reducible first | exact HB.out | apply below_alloc | apply pw_below_drewN | apply below_drew1) | exact HB.out)) hb); clear HO296; clear HO299; clear HO303; clear HO307; clear HB; have HO296 := n0_; have HO299 := n1_; have HO303 := n2_; have HO307 := n3_; have HB := n4_; clear n0_ n1_ n2_ n3_ n4_; (try clear hb); (try clear hb2); (try clear hk); (try clear hi)) | (go_at_call 10; (with_reducible refine (graftwoodlaw13_all.calls k _ _ t297 false _ ?side1 ?side2 A46.out).mono ?_); (case side1 => repeat (first | exact (Kd.R_reads' HO299.out).2.2 | (with_reducible refine Kd.C_alloc ?_ _) | (with_reducible refine Kd.C_drewN ?_ _) | (with_reducible refine Kd.C_drew ?_))); (case side2 => exact (Kd.R_reads' HO299.out).2.1); rintro e w52 ⟨rfl, hb⟩; have n0_ := Aside0.mk (Kd.R_below (by (with_reducible repeat (first | apply Kd.R_alloc | apply Kd.R_drewN | apply Kd.R_drew)); exact HO296.out) hb); have n1_ := Aside0.mk (Kd.R_below (by (with_reducible repeat (first | apply Kd.R_alloc | apply Kd.R_drewN | apply Kd.R_drew)); exact HO299.out) hb); have n2_ := Aside0.mk (Kd.R_below (by (with_reducible repeat (first | apply Kd.R_alloc | apply Kd.R_drewN | apply Kd.R_drew)); exact HO303.out) hb); have n3_ := Aside0.mk (Kd.R_below (by (with_reducible repeat (first | apply Kd.R_alloc | apply Kd.R_drewN | apply Kd.R_drew)); exact HO307.out) hb); have n4_ := Aside0.mk (below_step (by repeat (first | (with_reducible first | exact HB.out | apply below_alloc | apply pw_below_drewN | apply below_drew1) | exact HB.out)) hb); clear HO296; clear HO299; clear HO303; clear HO307; clear HB; have HO296 := n0_; have HO299 := n1_; have HO303 := n2_; have HO307 := n3_; have HB := n4_; clear n0_ n1_ n2_ n3_ n4_; (try clear hb); (try clear hb2); (try clear hk); (try clear hi); obtain ⟨Ao53, co53, eo53⟩ := Kd.R_slice HO307.out; subst eo53))
          go_meet
          case rel => exact ⟨_, (true), (by first | rfl | (simp; done) | (simp [*]; done)), H', ⟨by first | omega | exact Nat.le_refl _⟩, ⟨by (with_reducible repeat (first | apply Kd.R_alloc | apply Kd.R_drewN | apply Kd.R_drew)); exact Kd.R_mono HO296.out (fun _ hk => hk.2)⟩, ⟨by (with_reducible repeat (first | apply Kd.R_alloc | apply Kd.R_drewN | apply Kd.R_drew)); exact Kd.R_mono HO299.out (fun _ hk => hk.2)⟩, ⟨by (with_reducible repeat (first | apply Kd.R_alloc | apply Kd.R_drewN | apply Kd.R_drew)); exact Kd.R_mono HO303.out (fun _ hk => trivial)⟩, ⟨by repeat (first | (with_reducible first | exact HB.out | apply below_alloc | apply pw_below_drewN | apply below_drew1) | exact HB.out)⟩⟩
        · rw [if_neg c50] at H
          have c50b0 : decide (0 < (t304.length : Int)) = false := decide_eq_false c50
          have c50b1 : decide (0 < t304.length) = false := decide_eq_false (by omega)
          clear c50
          have H' := Aside0.mk H
          clear H
          go_wp2_with (first | ((with_reducible refine gate_callee (f := 10) rfl ?_); refine goesL_ (some 25) rfl rfl Tryz.func10 (by kernel_rfl) rfl #[.slice Ao11 t297.length co11] rfl (by (try simp only [List.map_toArray, List.map_cons, List.map_nil]); first | done | rfl | (simp only [List.length_drop, List.length_take]; rfl)) ?_; (with_reducible refine (graftwoodlaw13_all.calls k _ _ t297 false _ ?side1 ?side2 A14.out).mono ?_); (case side1 => repeat (first | exact (Kd.R_reads' HO299.out).2.2 | (with_reducible refine Kd.C_alloc ?_ _) | (with_reducible refine Kd.C_drewN ?_ _) | (with_reducible refine Kd.C_drew ?_))); (case side2 => exact (Kd.R_reads' HO299.out).2.1); rintro e w54 ⟨rfl, hb⟩; refine ⟨_, rfl, ?_⟩; have n0_ := Aside0.mk (Kd.R_below (by (with_reducible repeat (first | apply Kd.R_alloc | apply Kd.R_drewN | apply Kd.R_drew)); exact HO296.out) hb); have n1_ := Aside0.mk (Kd.R_below (by (with_reducible repeat (first | apply Kd.R_alloc | apply Kd.R_drewN | apply Kd.R_drew)); exact HO299.out) hb); have n2_ := Aside0.mk (Kd.R_below (by (with_reducible repeat (first | apply Kd.R_alloc | apply Kd.R_drewN | apply Kd.R_drew)); exact HO303.out) hb); have n3_ := Aside0.mk (Kd.R_below (by (with_reducible repeat (first | apply Kd.R_alloc | apply Kd.R_drewN | apply Kd.R_drew)); exact HO307.out) hb); have n4_ := Aside0.mk (below_step (by repeat (first | (with_reducible first | exact HB.out | apply below_alloc | apply pw_below_drewN | apply below_drew1) | exact HB.out)) hb); clear HO296; clear HO299; clear HO303; clear HO307; clear HB; have HO296 := n0_; have HO299 := n1_; have HO303 := n2_; have HO307 := n3_; have HB := n4_; clear n0_ n1_ n2_ n3_ n4_; (try clear hb); (try clear hb2); (try clear hk); (try clear hi)) | (go_at_call 10; (with_reducible refine (graftwoodlaw13_all.calls k _ _ t297 false _ ?side1 ?side2 A46.out).mono ?_); (case side1 => repeat (first | exact (Kd.R_reads' HO299.out).2.2 | (with_reducible refine Kd.C_alloc ?_ _) | (with_reducible refine Kd.C_drewN ?_ _) | (with_reducible refine Kd.C_drew ?_))); (case side2 => exact (Kd.R_reads' HO299.out).2.1); rintro e w55 ⟨rfl, hb⟩; have n0_ := Aside0.mk (Kd.R_below (by (with_reducible repeat (first | apply Kd.R_alloc | apply Kd.R_drewN | apply Kd.R_drew)); exact HO296.out) hb); have n1_ := Aside0.mk (Kd.R_below (by (with_reducible repeat (first | apply Kd.R_alloc | apply Kd.R_drewN | apply Kd.R_drew)); exact HO299.out) hb); have n2_ := Aside0.mk (Kd.R_below (by (with_reducible repeat (first | apply Kd.R_alloc | apply Kd.R_drewN | apply Kd.R_drew)); exact HO303.out) hb); have n3_ := Aside0.mk (Kd.R_below (by (with_reducible repeat (first | apply Kd.R_alloc | apply Kd.R_drewN | apply Kd.R_drew)); exact HO307.out) hb); have n4_ := Aside0.mk (below_step (by repeat (first | (with_reducible first | exact HB.out | apply below_alloc | apply pw_below_drewN | apply below_drew1) | exact HB.out)) hb); clear HO296; clear HO299; clear HO303; clear HO307; clear HB; have HO296 := n0_; have HO299 := n1_; have HO303 := n2_; have HO307 := n3_; have HB := n4_; clear n0_ n1_ n2_ n3_ n4_; (try clear hb); (try clear hb2); (try clear hk); (try clear hi); obtain ⟨Ao56, co56, eo56⟩ := Kd.R_slice HO307.out; subst eo56))
          go_meet
          case rel => exact ⟨_, ((t305 != 1)), (by first | rfl | (simp; done) | (simp [*]; done)), H', ⟨by first | omega | exact Nat.le_refl _⟩, ⟨by (with_reducible repeat (first | apply Kd.R_alloc | apply Kd.R_drewN | apply Kd.R_drew)); exact Kd.R_mono HO296.out (fun _ hk => hk.2)⟩, ⟨by (with_reducible repeat (first | apply Kd.R_alloc | apply Kd.R_drewN | apply Kd.R_drew)); exact Kd.R_mono HO299.out (fun _ hk => hk.2)⟩, ⟨by (with_reducible repeat (first | apply Kd.R_alloc | apply Kd.R_drewN | apply Kd.R_drew)); exact Kd.R_mono HO303.out (fun _ hk => trivial)⟩, ⟨by repeat (first | (with_reducible first | exact HB.out | apply below_alloc | apply pw_below_drewN | apply below_drew1) | exact HB.out)⟩⟩
  case rest =>
    clear HC7
    try clear c1
    try clear c2
    try clear p2
    try clear c4
    try clear c5
    try clear c7
    try clear c9
    try clear c10
    try clear c13
    try clear c15
    try clear c18
    try clear c19
    try clear c19b0
    try clear c19b1
    try clear c21
    try clear c27
    try clear c27b0
    try clear c27b1
    try clear c47
    try clear c50
    try clear c50b0
    try clear c50b1
    obtain ⟨kq, x50_6, rfl, HA, HJ6, HO_0, HO_1, HO_5, HB⟩ := hcut
    cases kq with
    | zero => exact absurd HA.out (by simp [graftwoodlaw13_DiffTells.j0])
    | succ kj6 =>
      have H := HA.out
      clear HA
      simp only [graftwoodlaw13_DiffTells.j0] at H
      by_cases c57 : x50_6 = true
      · subst c57
        have H1 : (some false) = some r := by rw [if_pos rfl] at H; exact H
        clear H
        have H := H1
        clear H1
        exact absurd ((Option.some.inj H).trans HR_.out) (by decide)
      · replace c57 := Bool.eq_false_iff.mpr c57
        subst c57
        have H1 : ((graftwoodlaw13_all.f kj6 t294).bind fun t315 => (if t315 = true then ((graftwoodlaw13_all.f kj6 t297).bind fun t316 => (graftwoodlaw13_DiffTells.j1 kj6 t294 t297 t300 t301 (!t316))) else (graftwoodlaw13_DiffTells.j1 kj6 t294 t297 t300 t301 true))) = some r := by rw [if_neg (show ¬ (false = true) by decide)] at H; exact H
        clear H
        have H := H1
        clear H1
        have HC58 := Aside0.mk H
        clear H
        go_upto_region 6 with (fail)
        go_cut [58] (fun v58 wc => ∃ (kq : Nat) (x58_57 : Bool), v58 = .bool x58_57 ∧ Aside0 (graftwoodlaw13_DiffTells.j1 kq t294 t297 t300 t301 x58_57 = some r) ∧ Aside0 (kq ≤ kj6) ∧ Aside0 (Kd.R k24 24 wc w.heap.size (fun k_ => some k_ ≠ ((.slice Ao11 t297.length co11) : Value).ownBlock) (.slice Ao10 t294.length co10) t294) ∧ Aside0 (Kd.R k24 24 wc w.heap.size (fun k_ => some k_ ≠ ((.slice Ao10 t294.length co10) : Value).ownBlock) (.slice Ao11 t297.length co11) t297) ∧ Aside0 (Kd.R k35 35 wc w.heap.size (fun _ => True) v302 t300) ∧ Aside0 (Below w.heap.size w wc))
        case first =>
          have H := HC58.out
          clear HC58
          replace H := Option.bind_eq_some_iff.mp H
          obtain ⟨t315, A590, H⟩ := H
          replace H : (if t315 = true then ((graftwoodlaw13_all.f kj6 t297).bind fun t316 => (graftwoodlaw13_DiffTells.j1 kj6 t294 t297 t300 t301 (!t316))) else (graftwoodlaw13_DiffTells.j1 kj6 t294 t297 t300 t301 true)) = some r := H
          have A59 := Aside0.mk A590
          clear A590
          by_cases c60 : t315 = true
          · subst c60
            have H1 : ((graftwoodlaw13_all.f kj6 t297).bind fun t316 => (graftwoodlaw13_DiffTells.j1 kj6 t294 t297 t300 t301 (!t316))) = some r := by rw [if_pos rfl] at H; exact H
            clear H
            have H := H1
            clear H1
            replace H := Option.bind_eq_some_iff.mp H
            obtain ⟨t316, A610, H⟩ := H
            replace H : (graftwoodlaw13_DiffTells.j1 kj6 t294 t297 t300 t301 (!t316)) = some r := H
            have A61 := Aside0.mk A610
            clear A610
            have H' := Aside0.mk H
            clear H
            go_wp2_with (first | ((with_reducible refine gate_callee (f := 10) rfl ?_); refine goesL_ (some 52) rfl rfl Tryz.func10 (by kernel_rfl) rfl #[.slice Ao10 t294.length co10] rfl (by (try simp only [List.map_toArray, List.map_cons, List.map_nil]); first | done | rfl | (simp only [List.length_drop, List.length_take]; rfl)) ?_; (with_reducible refine (graftwoodlaw13_all.calls kj6 _ _ t294 true _ ?side1 ?side2 A59.out).mono ?_); (case side1 => repeat (first | exact (Kd.R_reads' HO_0.out).2.2 | (with_reducible refine Kd.C_alloc ?_ _) | (with_reducible refine Kd.C_drewN ?_ _) | (with_reducible refine Kd.C_drew ?_))); (case side2 => exact (Kd.R_reads' HO_0.out).2.1); rintro e w62 ⟨rfl, hb⟩; refine ⟨_, rfl, ?_⟩; have n0_ := Aside0.mk (Kd.R_below (by (with_reducible repeat (first | apply Kd.R_alloc | apply Kd.R_drewN | apply Kd.R_drew)); exact HO_0.out) hb); have n1_ := Aside0.mk (Kd.R_below (by (with_reducible repeat (first | apply Kd.R_alloc | apply Kd.R_drewN | apply Kd.R_drew)); exact HO_1.out) hb); have n2_ := Aside0.mk (Kd.R_below (by (with_reducible repeat (first | apply Kd.R_alloc | apply Kd.R_drewN | apply Kd.R_drew)); exact HO_5.out) hb); have n3_ := Aside0.mk (below_step (by repeat (first | (with_reducible first | exact HB.out | apply below_alloc | apply pw_below_drewN | apply below_drew1) | exact HB.out)) hb); clear HO_0; clear HO_1; clear HO_5; clear HB; have HO_0 := n0_; have HO_1 := n1_; have HO_5 := n2_; have HB := n3_; clear n0_ n1_ n2_ n3_; (try clear hb); (try clear hb2); (try clear hk); (try clear hi)) | (go_at_call 10; (with_reducible refine (graftwoodlaw13_all.calls kj6 _ _ t297 t316 _ ?side1 ?side2 A61.out).mono ?_); (case side1 => repeat (first | exact (Kd.R_reads' HO_1.out).2.2 | (with_reducible refine Kd.C_alloc ?_ _) | (with_reducible refine Kd.C_drewN ?_ _) | (with_reducible refine Kd.C_drew ?_))); (case side2 => exact (Kd.R_reads' HO_1.out).2.1); rintro e w63 ⟨rfl, hb⟩; have n0_ := Aside0.mk (Kd.R_below (by (with_reducible repeat (first | apply Kd.R_alloc | apply Kd.R_drewN | apply Kd.R_drew)); exact HO_0.out) hb); have n1_ := Aside0.mk (Kd.R_below (by (with_reducible repeat (first | apply Kd.R_alloc | apply Kd.R_drewN | apply Kd.R_drew)); exact HO_1.out) hb); have n2_ := Aside0.mk (Kd.R_below (by (with_reducible repeat (first | apply Kd.R_alloc | apply Kd.R_drewN | apply Kd.R_drew)); exact HO_5.out) hb); have n3_ := Aside0.mk (below_step (by repeat (first | (with_reducible first | exact HB.out | apply below_alloc | apply pw_below_drewN | apply below_drew1) | exact HB.out)) hb); clear HO_0; clear HO_1; clear HO_5; clear HB; have HO_0 := n0_; have HO_1 := n1_; have HO_5 := n2_; have HB := n3_; clear n0_ n1_ n2_ n3_; (try clear hb); (try clear hb2); (try clear hk); (try clear hi)))
            go_meet
            case rel => exact ⟨_, (!t316), (by first | rfl | (simp; done) | (simp [*]; done)), H', ⟨by have := HJ6.out; first | omega | exact Nat.le_refl _⟩, ⟨by (with_reducible repeat (first | apply Kd.R_alloc | apply Kd.R_drewN | apply Kd.R_drew)); exact HO_0.out⟩, ⟨by (with_reducible repeat (first | apply Kd.R_alloc | apply Kd.R_drewN | apply Kd.R_drew)); exact HO_1.out⟩, ⟨by (with_reducible repeat (first | apply Kd.R_alloc | apply Kd.R_drewN | apply Kd.R_drew)); exact HO_5.out⟩, ⟨by repeat (first | (with_reducible first | exact HB.out | apply below_alloc | apply pw_below_drewN | apply below_drew1) | exact HB.out)⟩⟩
          · replace c60 := Bool.eq_false_iff.mpr c60
            subst c60
            have H1 : (graftwoodlaw13_DiffTells.j1 kj6 t294 t297 t300 t301 true) = some r := by rw [if_neg (show ¬ (false = true) by decide)] at H; exact H
            clear H
            have H := H1
            clear H1
            have H' := Aside0.mk H
            clear H
            go_wp2_with (first | ((with_reducible refine gate_callee (f := 10) rfl ?_); refine goesL_ (some 52) rfl rfl Tryz.func10 (by kernel_rfl) rfl #[.slice Ao10 t294.length co10] rfl (by (try simp only [List.map_toArray, List.map_cons, List.map_nil]); first | done | rfl | (simp only [List.length_drop, List.length_take]; rfl)) ?_; (with_reducible refine (graftwoodlaw13_all.calls kj6 _ _ t294 false _ ?side1 ?side2 A59.out).mono ?_); (case side1 => repeat (first | exact (Kd.R_reads' HO_0.out).2.2 | (with_reducible refine Kd.C_alloc ?_ _) | (with_reducible refine Kd.C_drewN ?_ _) | (with_reducible refine Kd.C_drew ?_))); (case side2 => exact (Kd.R_reads' HO_0.out).2.1); rintro e w64 ⟨rfl, hb⟩; refine ⟨_, rfl, ?_⟩; have n0_ := Aside0.mk (Kd.R_below (by (with_reducible repeat (first | apply Kd.R_alloc | apply Kd.R_drewN | apply Kd.R_drew)); exact HO_0.out) hb); have n1_ := Aside0.mk (Kd.R_below (by (with_reducible repeat (first | apply Kd.R_alloc | apply Kd.R_drewN | apply Kd.R_drew)); exact HO_1.out) hb); have n2_ := Aside0.mk (Kd.R_below (by (with_reducible repeat (first | apply Kd.R_alloc | apply Kd.R_drewN | apply Kd.R_drew)); exact HO_5.out) hb); have n3_ := Aside0.mk (below_step (by repeat (first | (with_reducible first | exact HB.out | apply below_alloc | apply pw_below_drewN | apply below_drew1) | exact HB.out)) hb); clear HO_0; clear HO_1; clear HO_5; clear HB; have HO_0 := n0_; have HO_1 := n1_; have HO_5 := n2_; have HB := n3_; clear n0_ n1_ n2_ n3_; (try clear hb); (try clear hb2); (try clear hk); (try clear hi)))
            go_meet
            case rel => exact ⟨_, (true), (by first | rfl | (simp; done) | (simp [*]; done)), H', ⟨by have := HJ6.out; first | omega | exact Nat.le_refl _⟩, ⟨by (with_reducible repeat (first | apply Kd.R_alloc | apply Kd.R_drewN | apply Kd.R_drew)); exact HO_0.out⟩, ⟨by (with_reducible repeat (first | apply Kd.R_alloc | apply Kd.R_drewN | apply Kd.R_drew)); exact HO_1.out⟩, ⟨by (with_reducible repeat (first | apply Kd.R_alloc | apply Kd.R_drewN | apply Kd.R_drew)); exact HO_5.out⟩, ⟨by repeat (first | (with_reducible first | exact HB.out | apply below_alloc | apply pw_below_drewN | apply below_drew1) | exact HB.out)⟩⟩
        case rest =>
          clear HC58
          try clear c1
          try clear c2
          try clear p2
          try clear c4
          try clear c5
          try clear c6
          try clear c7
          try clear c9
          try clear c10
          try clear c13
          try clear c15
          try clear c18
          try clear c19
          try clear c19b0
          try clear c19b1
          try clear c21
          try clear c27
          try clear c27b0
          try clear c27b1
          try clear c47
          try clear c50
          try clear c50b0
          try clear c50b1
          try clear c57
          try clear c60
          try clear p2
          obtain ⟨kq, x58_57, rfl, HA, HJ57, HO_0, HO_1, HO_5, HB⟩ := hcut
          cases kq with
          | zero => exact absurd HA.out (by simp [graftwoodlaw13_DiffTells.j1])
          | succ kj57 =>
            have H := HA.out
            clear HA
            simp only [graftwoodlaw13_DiffTells.j1] at H
            by_cases c65 : x58_57 = true
            · subst c65
              have H1 : (if (t300.length : Int) = 0 then (if t301 = 1 then ((graftwoodlaw13_awake.f).bind fun t317 => (some t317)) else (some false)) else (some false)) = some r := by rw [if_pos rfl] at H; exact H
              clear H
              have H := H1
              clear H1
              by_cases c66 : (t300.length : Int) = 0
              · rw [if_pos c66] at H
                have c66b0 : ((t300.length : Int) == 0) = true := beq_iff_eq.mpr c66
                have c66b1 : ((t300.length : Int) != 0) = false := bne_eq_false_iff_eq.mpr c66
                clear c66
                by_cases c67 : t301 = 1
                · rw [if_pos c67] at H
                  have c67b0 : (t301 == 1) = true := beq_iff_eq.mpr c67
                  have c67b1 : (t301 != 1) = false := bne_eq_false_iff_eq.mpr c67
                  clear c67
                  replace H := Option.bind_eq_some_iff.mp H
                  obtain ⟨t317, A680, H⟩ := H
                  replace H : (some t317) = some r := H
                  have A68 := Aside0.mk A680
                  clear A680
                  obtain rfl := Option.some.inj H
                  obtain ⟨Ao69, co69, eo69⟩ := Kd.R_slice HO_5.out
                  subst eo69
                  go_wp2_with (first | (go_at_call 11; (with_reducible refine (graftwoodlaw13_awake.calls  t317 _ A68.out HR_).mono ?_); rintro e w70 ⟨rfl, hb⟩; have n0_ := Aside0.mk (Kd.R_below (by (with_reducible repeat (first | apply Kd.R_alloc | apply Kd.R_drewN | apply Kd.R_drew)); exact HO_0.out) hb); have n1_ := Aside0.mk (Kd.R_below (by (with_reducible repeat (first | apply Kd.R_alloc | apply Kd.R_drewN | apply Kd.R_drew)); exact HO_1.out) hb); have n2_ := Aside0.mk (Kd.R_below (by (with_reducible repeat (first | apply Kd.R_alloc | apply Kd.R_drewN | apply Kd.R_drew)); exact HO_5.out) hb); have n3_ := Aside0.mk (below_step (by repeat (first | (with_reducible first | exact HB.out | apply below_alloc | apply pw_below_drewN | apply below_drew1) | exact HB.out)) hb); clear HO_0; clear HO_1; clear HO_5; clear HB; have HO_0 := n0_; have HO_1 := n1_; have HO_5 := n2_; have HB := n3_; clear n0_ n1_ n2_ n3_; (try clear hb); (try clear hb2); (try clear hk); (try clear hi)))
                  go_ret
                  exact ⟨by first | rfl | (simp [errW_none, errW_some] <;> rfl) | (simp [*, errW_none, errW_some] <;> rfl), by repeat (first | (with_reducible first | exact HB.out | apply below_alloc | apply pw_below_drewN | apply below_drew1) | exact HB.out)⟩
                · rw [if_neg c67] at H
                  have c67b0 : (t301 == 1) = false := beq_eq_false_iff_ne.mpr c67
                  have c67b1 : (t301 != 1) = true := bne_iff_ne.mpr c67
                  exact absurd ((Option.some.inj H).trans HR_.out) (by decide)
              · rw [if_neg c66] at H
                have c66b0 : ((t300.length : Int) == 0) = false := beq_eq_false_iff_ne.mpr c66
                have c66b1 : ((t300.length : Int) != 0) = true := bne_iff_ne.mpr c66
                have c66b2 : ¬ (t300 = []) := fun h_ => c66 (by rw [h_]; rfl)
                exact absurd ((Option.some.inj H).trans HR_.out) (by decide)
            · replace c65 := Bool.eq_false_iff.mpr c65
              subst c65
              have H1 : ((graftwoodref13_Diff.f kj57 t294 t297).bind fun t318 => ((graftwoodref13_Same.f kj57 t300 t318).bind fun t321 => (if t321 = true then (if t301 = 0 then ((graftwoodlaw13_awake.f).bind fun t322 => (some t322)) else (some false)) else (some false)))) = some r := by rw [if_neg (show ¬ (false = true) by decide)] at H; exact H
              clear H
              have H := H1
              clear H1
              replace H := Option.bind_eq_some_iff.mp H
              obtain ⟨t318, A710, H⟩ := H
              replace H : ((graftwoodref13_Same.f kj57 t300 t318).bind fun t321 => (if t321 = true then (if t301 = 0 then ((graftwoodlaw13_awake.f).bind fun t322 => (some t322)) else (some false)) else (some false))) = some r := H
              have A71 := Aside0.mk A710
              clear A710
              replace H := Option.bind_eq_some_iff.mp H
              obtain ⟨t321, A720, H⟩ := H
              replace H : (if t321 = true then (if t301 = 0 then ((graftwoodlaw13_awake.f).bind fun t322 => (some t322)) else (some false)) else (some false)) = some r := H
              have A72 := Aside0.mk A720
              clear A720
              by_cases c73 : t321 = true
              · subst c73
                have H1 : (if t301 = 0 then ((graftwoodlaw13_awake.f).bind fun t322 => (some t322)) else (some false)) = some r := by rw [if_pos rfl] at H; exact H
                clear H
                have H := H1
                clear H1
                by_cases c74 : t301 = 0
                · rw [if_pos c74] at H
                  have c74b0 : (t301 == 0) = true := beq_iff_eq.mpr c74
                  have c74b1 : (t301 != 0) = false := bne_eq_false_iff_eq.mpr c74
                  clear c74
                  replace H := Option.bind_eq_some_iff.mp H
                  obtain ⟨t322, A750, H⟩ := H
                  replace H : (some t322) = some r := H
                  have A75 := Aside0.mk A750
                  clear A750
                  obtain rfl := Option.some.inj H
                  go_wp2_with (first | ((with_reducible refine gate_callee (f := 15) rfl ?_); refine goesL_ (some 72) rfl rfl Tryz.func15 (by kernel_rfl) rfl #[.slice Ao10 t294.length co10, .slice Ao11 t297.length co11] rfl (by (try simp only [List.map_toArray, List.map_cons, List.map_nil]); first | done | rfl | (simp only [List.length_drop, List.length_take]; rfl)) ?_; (with_reducible refine (graftwoodref13_Diff.calls kj57 _ _ t294 _ _ t297 t318 _ ?side1 ?side2 ?side3 ?side4 A71.out).mono ?_); (case side1 => repeat (first | exact (Kd.R_reads' HO_0.out).2.2 | (with_reducible refine Kd.C_alloc ?_ _) | (with_reducible refine Kd.C_drewN ?_ _) | (with_reducible refine Kd.C_drew ?_))); (case side2 => exact (Kd.R_reads' HO_0.out).2.1); (case side3 => repeat (first | exact (Kd.R_reads' HO_1.out).2.2 | (with_reducible refine Kd.C_alloc ?_ _) | (with_reducible refine Kd.C_drewN ?_ _) | (with_reducible refine Kd.C_drew ?_))); (case side4 => exact (Kd.R_reads' HO_1.out).2.1); rintro e w76 ⟨v319, rfl, ho0, hb⟩; refine ⟨_, rfl, ?_⟩; have n0_ := Aside0.mk (Kd.R_below (by (with_reducible repeat (first | apply Kd.R_alloc | apply Kd.R_drewN | apply Kd.R_drew)); exact HO_0.out) hb); have n1_ := Aside0.mk (Kd.R_below (by (with_reducible repeat (first | apply Kd.R_alloc | apply Kd.R_drewN | apply Kd.R_drew)); exact HO_1.out) hb); have n2_ := Aside0.mk (Kd.R_elder' (by (with_reducible repeat (first | apply Kd.R_alloc | apply Kd.R_drewN | apply Kd.R_drew)); exact HO_5.out) (Kd.R_base ho0) hb); have n3_ := Aside0.mk (Kd.R_lower (Kd.R_new' ho0 (Kd.R_lt (by (with_reducible repeat (first | apply Kd.R_alloc | apply Kd.R_drewN | apply Kd.R_drew)); exact HO_5.out))) (below_size (by repeat (first | (with_reducible first | exact HB.out | apply below_alloc | apply pw_below_drewN | apply below_drew1) | exact HB.out)))); have n4_ := Aside0.mk (below_step (by repeat (first | (with_reducible first | exact HB.out | apply below_alloc | apply pw_below_drewN | apply below_drew1) | exact HB.out)) hb); clear HO_0; clear HO_1; clear HO_5; clear HB; have HO_0 := n0_; have HO_1 := n1_; have HO_5 := n2_; have HO320 := n3_; have HB := n4_; clear n0_ n1_ n2_ n3_ n4_; (try clear hb); (try clear hb2); (try clear hk); (try clear hi); (try clear ho0); obtain ⟨Ao77, co77, eo77⟩ := Kd.R_slice HO_5.out; subst eo77; obtain ⟨Ao78, co78, eo78⟩ := Kd.R_slice HO320.out; subst eo78) | ((with_reducible refine gate_callee (f := 14) rfl ?_); refine goesL_ (some 73) rfl rfl Tryz.func14 (by kernel_rfl) rfl #[.slice Ao77 t300.length co77, .slice Ao78 t318.length co78] rfl (by (try simp only [List.map_toArray, List.map_cons, List.map_nil]); first | done | rfl | (simp only [List.length_drop, List.length_take]; rfl)) ?_; (with_reducible refine (graftwoodref13_Same.calls kj57 _ _ t300 _ _ t318 true _ ?side1 ?side2 ?side3 ?side4 A72.out).mono ?_); (case side1 => repeat (first | exact (Kd.R_reads' HO_5.out).2.2 | (with_reducible refine Kd.C_alloc ?_ _) | (with_reducible refine Kd.C_drewN ?_ _) | (with_reducible refine Kd.C_drew ?_))); (case side2 => exact (Kd.R_reads' HO_5.out).2.1); (case side3 => repeat (first | exact (Kd.R_reads' HO320.out).2.2 | (with_reducible refine Kd.C_alloc ?_ _) | (with_reducible refine Kd.C_drewN ?_ _) | (with_reducible refine Kd.C_drew ?_))); (case side4 => exact (Kd.R_reads' HO320.out).2.1); rintro e w' ⟨rfl, ⟨nd, rfl⟩⟩; refine ⟨_, rfl, ?_⟩) | (go_at_call 11; (with_reducible refine (graftwoodlaw13_awake.calls  t322 _ A75.out HR_).mono ?_); rintro e w79 ⟨rfl, hb⟩; have n0_ := Aside0.mk (Kd.R_below (by (with_reducible repeat (first | apply Kd.R_alloc | apply Kd.R_drewN | apply Kd.R_drew)); exact HO_0.out) hb); have n1_ := Aside0.mk (Kd.R_below (by (with_reducible repeat (first | apply Kd.R_alloc | apply Kd.R_drewN | apply Kd.R_drew)); exact HO_1.out) hb); have n2_ := Aside0.mk (Kd.R_below (by (with_reducible repeat (first | apply Kd.R_alloc | apply Kd.R_drewN | apply Kd.R_drew)); exact HO_5.out) hb); have n3_ := Aside0.mk (Kd.R_below (by (with_reducible repeat (first | apply Kd.R_alloc | apply Kd.R_drewN | apply Kd.R_drew)); exact HO320.out) hb); have n4_ := Aside0.mk (below_step (by repeat (first | (with_reducible first | exact HB.out | apply below_alloc | apply pw_below_drewN | apply below_drew1) | exact HB.out)) hb); clear HO_0; clear HO_1; clear HO_5; clear HO320; clear HB; have HO_0 := n0_; have HO_1 := n1_; have HO_5 := n2_; have HO320 := n3_; have HB := n4_; clear n0_ n1_ n2_ n3_ n4_; (try clear hb); (try clear hb2); (try clear hk); (try clear hi)))
                  go_ret
                  exact ⟨by first | rfl | (simp [errW_none, errW_some] <;> rfl) | (simp [*, errW_none, errW_some] <;> rfl), by repeat (first | (with_reducible first | exact HB.out | apply below_alloc | apply pw_below_drewN | apply below_drew1) | exact HB.out)⟩
                · rw [if_neg c74] at H
                  have c74b0 : (t301 == 0) = false := beq_eq_false_iff_ne.mpr c74
                  have c74b1 : (t301 != 0) = true := bne_iff_ne.mpr c74
                  exact absurd ((Option.some.inj H).trans HR_.out) (by decide)
              · replace c73 := Bool.eq_false_iff.mpr c73
                subst c73
                have H1 : (some false) = some r := by rw [if_neg (show ¬ (false = true) by decide)] at H; exact H
                clear H
                have H := H1
                clear H1
                exact absurd ((Option.some.inj H).trans HR_.out) (by decide)
end Go.Proofs.YtcfphieogalnbaaGreatDoor.Q
end

section
namespace Go.Proofs.YtcfphieogalnbaaGreatDoor.Q
open Go.Proofs.YtcfphieogalnbaaGreatDoor.QB.D
open Go Go.RowKit Go.Lib Go.Proofs.YtcfphieogalnbaaGreatDoorW.PrintWords Go.Proofs.YtcfphieogalnbaaGreatDoorW.PrintLast Go.Proofs.YtcfphieogalnbaaGreatDoorW.PrintMore Gw
set_option linter.unusedVariables false
set_option linter.unusedSimpArgs false
theorem diff13_set (l m : List S24) (hl : l.length ≤ 32768) (hm : m.length ≤ 32768) (tl : ∀ x ∈ l, TinyN x ∧ mayN x = true) (tm : ∀ x ∈ m, TinyN x ∧ mayN x = true) : sortN ((diffC l m).map (·.1)) = rsetN (l ++ m) := by
  have hok := diffC_ok l m hl hm tl tm
  have hlm : ∀ x ∈ l ++ m, TinyN x ∧ mayN x = true := fun x hx => by
    rcases List.mem_append.1 hx with h | h
    · exact tl x h
    · exact tm x h
  have hr := rsetN_facts (l ++ m) (fun x hx => (hlm x hx).1) (fun x hx => (hlm x hx).2) [] IsSet.nil
  refine IsSet.ext (sorted_is hok.nodup (fun x hx => by obtain ⟨p, hp, rfl⟩ := List.mem_map.1 hx; exact hok.may p hp)) hr.1 (fun x => ?_)
  rw [(sortN_perm _).mem_iff, keys_diff, ← List.mem_append]
  unfold rsetN
  rw [hr.2]
  simp
theorem rdiff_l0 (l m S : List S24) (hl : l.length ≤ 100) (hm : m.length ≤ 100) (hS : S.length ≤ 100000) : ∀ (r i k : Nat), i + r = S.length → r + 1000 ≤ k →
    graftwoodref13_Diff.l0 k l m S (editsF (diffC l m) (S.take i)) (i : Int) = some (editsF (diffC l m) S) := by
  intro r
  induction r with
  | zero =>
    intro i k hi hk
    obtain ⟨j, rfl⟩ : ∃ j, k = j + 1 := ⟨k - 1, by omega⟩
    simp only [graftwoodref13_Diff.l0]
    rw [if_neg (by omega), List.take_of_length_le (by omega)]
  | succ r ih =>
    intro i k hi hk
    obtain ⟨j, rfl⟩ : ∃ j, k = j + 1 := ⟨k - 1, by omega⟩
    have hil : i < S.length := by omega
    have hrd : rd_T24 S (i : Int) = S[i] := by simp [rd_T24, List.getD_eq_getElem?_getD, List.getElem?_eq_getElem hil]
    have hwr : wrap64 ((i : Int) + 1) = ((i + 1 : Nat) : Int) := by unfold wrap64; omega
    have r1 := cntN_range m S[i]
    have r2 := cntN_range l S[i]
    have hwc : wrap64 (cntN m S[i] - cntN l S[i]) = cntN m S[i] - cntN l S[i] := by unfold wrap64; omega
    have htk : S.take (i + 1) = S.take i ++ [S[i]] := List.take_succ_eq_append_getElem hil
    have hsn := editsF_snoc (diffC l m) (S.take i) S[i]
    rw [← htk, look_diff] at hsn
    have ih' := ih (i + 1) j (by omega) (by omega)
    rw [hsn] at ih'
    have hel := editsF_len (diffC l m) (S.take i)
    rw [List.length_take] at hel
    simp only [graftwoodref13_Diff.l0]
    rw [if_pos (by omega), if_pos (by omega), hrd, many13_val m (by omega) S[i] j (by omega), many13_val l (by omega) S[i] j (by omega)]
    simp only [Option.bind_some]
    rw [hwc, hwr]
    by_cases hz : cntN m S[i] - cntN l S[i] = 0
    · rw [if_pos hz]
      rw [if_pos hz] at ih'
      exact ih'
    · rw [if_neg hz, if_pos (by omega)]
      rw [if_neg hz] at ih'
      exact ih'
theorem rdiff_val (l m : List S24) (hl : l.length ≤ 100) (hm : m.length ≤ 100) (bl : ∀ x ∈ l, Brief x ∧ mayN x = true) (bm : ∀ x ∈ m, Brief x ∧ mayN x = true) (k : Nat) (hk : 70000 ≤ k) : graftwoodref13_Diff.f k l m = some (diffV l m) := by
  have hs := diff13_set l m (by omega) (by omega) (fun x h => ⟨(bl x h).1.tiny, (bl x h).2⟩) (fun x h => ⟨(bm x h).1.tiny, (bm x h).2⟩)
  have hok := diffC_ok l m (by omega) (by omega) (fun x h => ⟨(bl x h).1.tiny, (bl x h).2⟩) (fun x h => ⟨(bm x h).1.tiny, (bm x h).2⟩)
  have hlm : ∀ x ∈ l ++ m, Brief x ∧ mayN x = true := fun x hx => by
    rcases List.mem_append.1 hx with h | h
    · exact bl x h
    · exact bm x h
  have hsl : (rsetN (l ++ m)).length ≤ 65536 := by rw [← hs, (sortN_perm _).length_eq, List.length_map]; exact hok.len
  unfold graftwoodref13_Diff.f
  simp only [Option.bind_some, List.nil_append]
  rw [if_pos (by simp; omega), if_pos (by omega), rset_val (l ++ m) (by rw [List.length_append]; omega) (fun x h => (hlm x h).1) (fun x h => (hlm x h).2) k (by rw [List.length_append]; omega)]
  simp only [Option.bind_some]
  have h := rdiff_l0 l m (rsetN (l ++ m)) hl hm (by omega) (rsetN (l ++ m)).length 0 k (by omega) (by omega)
  rw [List.take_zero] at h
  unfold diffV
  rw [hs]
  exact h
theorem diffV_len (l m : List S24) (hl : l.length ≤ 100) (hm : m.length ≤ 100) (tl : ∀ x ∈ l, TinyN x ∧ mayN x = true) (tm : ∀ x ∈ m, TinyN x ∧ mayN x = true) : (diffV l m).length ≤ 65536 := by
  unfold diffV
  exact Nat.le_trans (editsF_len _ _) (by rw [(sortN_perm _).length_eq, List.length_map]; exact (diffC_ok l m (by omega) (by omega) tl tm).len)
theorem tells_j1 (F G : List S24) (hF : F.length ≤ 24) (hG : G.length ≤ 24) (bF : ∀ x ∈ F, Brief x) (bG : ∀ x ∈ G, Brief x) (k : Nat) (hk : 70002 ≤ k) :
    graftwoodlaw13_DiffTells.j1 k F G (if F.all mayN = true ∧ G.all mayN = true then diffV F G else []) (if F.all mayN = true ∧ G.all mayN = true then 0 else 1) (!(F.all mayN && G.all mayN)) = some true := by
  obtain ⟨j, rfl⟩ : ∃ j, k = j + 1 := ⟨k - 1, by omega⟩
  simp only [graftwoodlaw13_DiffTells.j1]
  by_cases h : F.all mayN = true ∧ G.all mayN = true
  · have hf : ∀ x ∈ F, Brief x ∧ mayN x = true := fun x hx => ⟨bF x hx, List.all_eq_true.1 h.1 x hx⟩
    have hg : ∀ x ∈ G, Brief x ∧ mayN x = true := fun x hx => ⟨bG x hx, List.all_eq_true.1 h.2 x hx⟩
    have hv := diffV_len F G (by omega) (by omega) (fun x hx => ⟨(hf x hx).1.tiny, (hf x hx).2⟩) (fun x hx => ⟨(hg x hx).1.tiny, (hg x hx).2⟩)
    rw [if_pos h, if_pos h, if_neg (by rw [h.1, h.2]; decide), rdiff_val F G (by omega) (by omega) hf hg j (by omega)]
    simp only [Option.bind_some]
    rw [same13_self _ (by omega) j (by omega)]
    simp only [Option.bind_some]
    rw [if_pos trivial, if_pos trivial, awake13_val]
    rfl
  · have hb : (F.all mayN && G.all mayN) = false := by
      rw [Bool.eq_false_iff]
      intro h2
      exact h ((Bool.and_eq_true _ _).mp h2)
    rw [if_neg h, if_neg h, hb, awake13_val]
    simp
theorem tells_j0 (F G : List S24) (hF : F.length ≤ 24) (hG : G.length ≤ 24) (bF : ∀ x ∈ F, Brief x) (bG : ∀ x ∈ G, Brief x) (k : Nat) (hk : 70003 ≤ k) :
    graftwoodlaw13_DiffTells.j0 k F G (if F.all mayN = true ∧ G.all mayN = true then diffV F G else []) (if F.all mayN = true ∧ G.all mayN = true then 0 else 1) false = some true := by
  obtain ⟨j, rfl⟩ : ∃ j, k = j + 1 := ⟨k - 1, by omega⟩
  have h1 := tells_j1 F G hF hG bF bG j (by omega)
  simp only [graftwoodlaw13_DiffTells.j0]
  rw [if_neg (by decide), all13_val F (by omega) bF j (by omega), all13_val G (by omega) bG j (by omega)]
  simp only [Option.bind_some]
  generalize (if F.all mayN = true ∧ G.all mayN = true then diffV F G else []) = v at h1 ⊢
  generalize (if F.all mayN = true ∧ G.all mayN = true then (0 : Int) else 1) = e at h1 ⊢
  cases hf : F.all mayN
  · rw [if_neg (by decide)]
    rw [hf] at h1
    exact h1
  · rw [if_pos rfl]
    rw [hf] at h1
    exact h1
theorem diffTells_true (K : Nat) (hK : 8589935999 ≤ K) (l m : List S24) : graftwoodlaw13_DiffTells.f (K + 1) l m = some true := by
  unfold graftwoodlaw13_DiffTells.f diff_Count.f
  rw [fewN_val l _ (by omega), fewN_val m _ (by omega)]
  simp only [Option.bind_some]
  have hl := fewN_len l
  have hm := fewN_len m
  have bl := fewN_brief l
  have bm := fewN_brief m
  generalize fewN l = F at *
  generalize fewN m = G at *
  have h1 := diff_val F G (by omega) (by omega) bl bm
  have h2 := diff_val [] G (by simp) (by omega) (fun x h => by cases h) bm
  have h3 := all13_val G (by omega) bm (K + 1) (by omega)
  have hj := tells_j0 F G hl hm bl bm (K + 1) (by omega)
  rw [h1, h2, h3]
  simp only [Option.bind_some]
  have e1 : (if F.all mayN = true ∧ G.all mayN = true then (diffV F G, (0 : Int)) else ([], 1)).1 = (if F.all mayN = true ∧ G.all mayN = true then diffV F G else []) := by split <;> rfl
  have e2 : (if F.all mayN = true ∧ G.all mayN = true then (diffV F G, (0 : Int)) else ([], 1)).2 = (if F.all mayN = true ∧ G.all mayN = true then 0 else 1) := by split <;> rfl
  rw [e1, e2]
  cases hg : G.all mayN
  · rw [hg] at hj
    rw [if_neg (by decide), if_neg (by decide), if_neg (by simp)]
    simpa using hj
  · have hgg : ∀ x ∈ G, Brief x ∧ mayN x = true := fun x hx => ⟨bm x hx, List.all_eq_true.1 hg x hx⟩
    have h4 := rdiff_val [] G (by simp) (by omega) (fun x h => by cases h) hgg (K + 1) (by omega)
    have hv := diffV_len [] G (by simp) (by omega) (fun x h => by cases h) (fun x hx => ⟨(hgg x hx).1.tiny, (hgg x hx).2⟩)
    rw [hg] at hj
    rw [if_pos rfl, h4]
    simp only [Option.bind_some]
    rw [if_pos (⟨rfl, trivial⟩ : ([] : List S24).all mayN = true ∧ True)]
    dsimp only
    rw [same13_self _ (by omega) (K + 1) (by omega)]
    simp only [Option.bind_some]
    simpa using hj
end Go.Proofs.YtcfphieogalnbaaGreatDoor.Q
end
