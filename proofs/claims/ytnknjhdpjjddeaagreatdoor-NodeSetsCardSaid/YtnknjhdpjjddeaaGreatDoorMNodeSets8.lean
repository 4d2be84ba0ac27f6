/- Part 8 of this claim: several texts one behind the other: Fgraftwoodlaw05awake, FnodeHas, NCmp, Aw05, Split, Fgraftwoodref03May. What each shows stands in its theorems; conditions: sizes of texts and lists, as the functions' definitions say. -/
import Derived.Test.YtnknjhdpjjddeaaGreatDoorMNodeSets0
import Derived.Test.YtnknjhdpjjddeaaGreatDoorMNodeSets6
import Derived.Test.YtnknjhdpjjddeaaGreatDoorMNodeSets2
import Derived.Test.YtnknjhdpjjddeaaGreatDoorMNodeSets7
import Derived.Test.YtnknjhdpjjddeaaGreatDoorMNodeSets4
import Derived.Test.YtnknjhdpjjddeaaGreatDoorMNodeSets1
import Derived.Test.YtnknjhdpjjddeaaGreatDoorMNodeSets3
import Derived.RegionTactic
import Derived.BigRegion
import Derived.ChangeAlike
section
namespace Go.Proofs.YtnknjhdpjjddeaaGreatDoor.Q
open Go.RowKit Go.Proofs.YtnknjhdpjjddeaaGreatDoorW.PrintWords Go.Proofs.YtnknjhdpjjddeaaGreatDoorW.PrintLast Go.Proofs.YtnknjhdpjjddeaaGreatDoorW.PrintMore
attribute [local go_sem] max2_int min2_int max_two min_two max_three min_three max_four min_four   -- for this text's walks alone
set_option linter.unusedVariables false
set_option linter.unusedSimpArgs false
attribute [local go_sem high] eqA32
/-! ### graftwoodlaw05_awake: function 8 -/
def graftwoodlaw05_awake.f (k : Nat)  : Option (Bool) := (node_Cmp.f k (⟨#[97]⟩ : ByteArray) (⟨#[118, 49, 46, 57, 46, 48]⟩ : ByteArray) (⟨#[97]⟩ : ByteArray) (⟨#[118, 49, 46, 49, 48, 46, 48]⟩ : ByteArray)).bind fun bt224 => ((node_Cmp.f k (⟨#[97]⟩ : ByteArray) (⟨#[118, 49, 46, 49, 48, 46, 48]⟩ : ByteArray) (⟨#[97, 47, 98]⟩ : ByteArray) (⟨#[118, 48, 46, 48, 46, 49]⟩ : ByteArray)).bind fun bt226 => ((node_Set.f (([(⟨(⟨#[97]⟩ : ByteArray), (⟨#[118, 49, 46, 57, 46, 48]⟩ : ByteArray)⟩ : S32), (⟨(⟨#[97]⟩ : ByteArray), (⟨#[118, 49, 46, 57, 46, 48]⟩ : ByteArray)⟩ : S32)] : List (S32)))).bind fun bt231 => ((node_Read.f k (⟨#[97, 64]⟩ : ByteArray)).bind fun bt235 => (if bt224.1 = (-1) then (if bt224.2 = 0 then (if bt226.1 = (-1) then (if bt226.2 = 0 then (if (bt231.1.length : Int) = 1 then (if bt231.2 = 0 then (some (bt235.2.2 == 1)) else (some false)) else (some false)) else (some false)) else (some false)) else (some false)) else (some false)))))
theorem graftwoodlaw05_awake.mono : ∀ k, LeO (graftwoodlaw05_awake.f k ) (graftwoodlaw05_awake.f (k + 1) ) := by
  intro  k
  unfold graftwoodlaw05_awake.f
  repeat' first
      | (with_reducible exact node_Cmp.mono _ _ _ _ _)
      | (with_reducible exact node_Read.mono _ _)
      | (with_reducible exact LeO.refl _)
      | (with_reducible exact LeO.none _)
      | (with_reducible refine LeO.ite ?_ ?_)
      | (with_reducible refine LeO.bind ?_ (fun _ => ?_))
      | exact node_Cmp.mono _ _ _ _ _
      | exact node_Read.mono _ _
      | exact LeO.none _
      | refine LeO.ite ?_ ?_
      | refine LeO.bind ?_ (fun _ => ?_)
set_option maxHeartbeats 8000000 in
set_option maxRecDepth 100000 in
theorem graftwoodlaw05_awake.calls (k : Nat)  (r : Bool) (w : World) (h : graftwoodlaw05_awake.f k  = some r) :
    Calls Tryz.prog 8 #[] w fun e w' => e = .returned (.bool r) ∧ Below w.heap.size w w' := by
  have hu32 := Tryz.underlying32
  have HB := Aside0.mk (Below.refl w.heap.size w)
  have H : ((node_Cmp.f k (⟨#[97]⟩ : ByteArray) (⟨#[118, 49, 46, 57, 46, 48]⟩ : ByteArray) (⟨#[97]⟩ : ByteArray) (⟨#[118, 49, 46, 49, 48, 46, 48]⟩ : ByteArray)).bind fun bt224 => ((node_Cmp.f k (⟨#[97]⟩ : ByteArray) (⟨#[118, 49, 46, 49, 48, 46, 48]⟩ : ByteArray) (⟨#[97, 47, 98]⟩ : ByteArray) (⟨#[118, 48, 46, 48, 46, 49]⟩ : ByteArray)).bind fun bt226 => ((node_Set.f (([(⟨(⟨#[97]⟩ : ByteArray), (⟨#[118, 49, 46, 57, 46, 48]⟩ : ByteArray)⟩ : S32), (⟨(⟨#[97]⟩ : ByteArray), (⟨#[118, 49, 46, 57, 46, 48]⟩ : ByteArray)⟩ : S32)] : List (S32)))).bind fun bt231 => ((node_Read.f k (⟨#[97, 64]⟩ : ByteArray)).bind fun bt235 => (if bt224.1 = (-1) then (if bt224.2 = 0 then (if bt226.1 = (-1) then (if bt226.2 = 0 then (if (bt231.1.length : Int) = 1 then (if bt231.2 = 0 then (some (bt235.2.2 == 1)) else (some false)) else (some false)) else (some false)) else (some false)) else (some false)) else (some false)))))) = some r := h
  clear h
  replace H := Option.bind_eq_some_iff.mp H
  obtain ⟨⟨t224, t225⟩, A10, H⟩ := H
  replace H : ((node_Cmp.f k (⟨#[97]⟩ : ByteArray) (⟨#[118, 49, 46, 49, 48, 46, 48]⟩ : ByteArray) (⟨#[97, 47, 98]⟩ : ByteArray) (⟨#[118, 48, 46, 48, 46, 49]⟩ : ByteArray)).bind fun bt226 => ((node_Set.f (([(⟨(⟨#[97]⟩ : ByteArray), (⟨#[118, 49, 46, 57, 46, 48]⟩ : ByteArray)⟩ : S32), (⟨(⟨#[97]⟩ : ByteArray), (⟨#[118, 49, 46, 57, 46, 48]⟩ : ByteArray)⟩ : S32)] : List (S32)))).bind fun bt231 => ((node_Read.f k (⟨#[97, 64]⟩ : ByteArray)).bind fun bt235 => (if t224 = (-1) then (if t225 = 0 then (if bt226.1 = (-1) then (if bt226.2 = 0 then (if (bt231.1.length : Int) = 1 then (if bt231.2 = 0 then (some (bt235.2.2 == 1)) else (some false)) else (some false)) else (some false)) else (some false)) else (some false)) else (some false))))) = some r := H
  have A1 := Aside0.mk A10
  clear A10
  replace H := Option.bind_eq_some_iff.mp H
  obtain ⟨⟨t226, t227⟩, A20, H⟩ := H
  replace H : ((node_Set.f (([(⟨(⟨#[97]⟩ : ByteArray), (⟨#[118, 49, 46, 57, 46, 48]⟩ : ByteArray)⟩ : S32), (⟨(⟨#[97]⟩ : ByteArray), (⟨#[118, 49, 46, 57, 46, 48]⟩ : ByteArray)⟩ : S32)] : List (S32)))).bind fun bt231 => ((node_Read.f k (⟨#[97, 64]⟩ : ByteArray)).bind fun bt235 => (if t224 = (-1) then (if t225 = 0 then (if t226 = (-1) then (if t227 = 0 then (if (bt231.1.length : Int) = 1 then (if bt231.2 = 0 then (some (bt235.2.2 == 1)) else (some false)) else (some false)) else (some false)) else (some false)) else (some false)) else (some false)))) = some r := H
  have A2 := Aside0.mk A20
  clear A20
  obtain ⟨y228, hy228⟩ : ∃ y_ : List (S32), y_ = (([(⟨(⟨#[97]⟩ : ByteArray), (⟨#[118, 49, 46, 57, 46, 48]⟩ : ByteArray)⟩ : S32), (⟨(⟨#[97]⟩ : ByteArray), (⟨#[118, 49, 46, 57, 46, 48]⟩ : ByteArray)⟩ : S32)] : List (S32))) := ⟨_, rfl⟩
  replace H : ((node_Set.f y228).bind fun bt231 => ((node_Read.f k (⟨#[97, 64]⟩ : ByteArray)).bind fun bt235 => (if t224 = (-1) then (if t225 = 0 then (if t226 = (-1) then (if t227 = 0 then (if (bt231.1.length : Int) = 1 then (if bt231.2 = 0 then (some (bt235.2.2 == 1)) else (some false)) else (some false)) else (some false)) else (some false)) else (some false)) else (some false)))) = some r := by first | (rw [hy228]; with_reducible exact H) | (have H2_ := (Option.bind_some _ _).symm.trans H; rw [hy228]; with_reducible exact H2_) | (have H2_ := (Option.bind_some _ _).symm.trans H; with_reducible exact H2_) | with_reducible exact H | (rw [hy228]; exact H) | exact H
  have Ny228 := Aside0.mk hy228
  clear hy228
  replace H := Option.bind_eq_some_iff.mp H
  obtain ⟨⟨t231, t232⟩, A30, H⟩ := H
  replace H : ((node_Read.f k (⟨#[97, 64]⟩ : ByteArray)).bind fun bt235 => (if t224 = (-1) then (if t225 = 0 then (if t226 = (-1) then (if t227 = 0 then (if (t231.length : Int) = 1 then (if t232 = 0 then (some (bt235.2.2 == 1)) else (some false)) else (some false)) else (some false)) else (some false)) else (some false)) else (some false))) = some r := H
  have A3 := Aside0.mk A30
  clear A30
  replace H := Option.bind_eq_some_iff.mp H
  obtain ⟨⟨t235, t236, t237⟩, A40, H⟩ := H
  replace H : (if t224 = (-1) then (if t225 = 0 then (if t226 = (-1) then (if t227 = 0 then (if (t231.length : Int) = 1 then (if t232 = 0 then (some (t237 == 1)) else (some false)) else (some false)) else (some false)) else (some false)) else (some false)) else (some false)) = some r := H
  have A4 := Aside0.mk A40
  clear A40
  by_cases c5 : t224 = (-1)
  · rw [if_pos c5] at H
    have c5b0 : (t224 == (-1)) = true := beq_iff_eq.mpr c5
    have c5b1 : (t224 != (-1)) = false := bne_eq_false_iff_eq.mpr c5
    clear c5
    by_cases c6 : t225 = 0
    · rw [if_pos c6] at H
      have c6b0 : (t225 == 0) = true := beq_iff_eq.mpr c6
      have c6b1 : (t225 != 0) = false := bne_eq_false_iff_eq.mpr c6
      clear c6
      by_cases c7 : t226 = (-1)
      · rw [if_pos c7] at H
        have c7b0 : (t226 == (-1)) = true := beq_iff_eq.mpr c7
        have c7b1 : (t226 != (-1)) = false := bne_eq_false_iff_eq.mpr c7
        clear c7
        by_cases c8 : t227 = 0
        · rw [if_pos c8] at H
          have c8b0 : (t227 == 0) = true := beq_iff_eq.mpr c8
          have c8b1 : (t227 != 0) = false := bne_eq_false_iff_eq.mpr c8
          clear c8
          by_cases c9 : (t231.length : Int) = 1
          · rw [if_pos c9] at H
            have c9b0 : ((t231.length : Int) == 1) = true := beq_iff_eq.mpr c9
            have c9b1 : ((t231.length : Int) != 1) = false := bne_eq_false_iff_eq.mpr c9
            clear c9
            by_cases c10 : t232 = 0
            · rw [if_pos c10] at H
              have c10b0 : (t232 == 0) = true := beq_iff_eq.mpr c10
              have c10b1 : (t232 != 0) = false := bne_eq_false_iff_eq.mpr c10
              clear c10
              obtain rfl := Option.some.inj H
              go_enter Tryz.func8, Tryz.ntmps8
              go_wp2_with (first | ((with_reducible refine gate_callee (f := 22) rfl ?_); refine goesL_ (some 12) rfl rfl Tryz.func22 (by kernel_rfl) rfl #[.agg #[.string (⟨#[97]⟩ : ByteArray), .string (⟨#[118, 49, 46, 57, 46, 48]⟩ : ByteArray)], .agg #[.string (⟨#[97]⟩ : ByteArray), .string (⟨#[118, 49, 46, 49, 48, 46, 48]⟩ : ByteArray)]] rfl (by (try simp only [List.map_toArray, List.map_cons, List.map_nil]); first | done | rfl | (simp only [List.length_drop, List.length_take]; rfl)) ?_; (with_reducible refine (node_Cmp.calls k (⟨#[97]⟩ : ByteArray) (⟨#[118, 49, 46, 57, 46, 48]⟩ : ByteArray) (⟨#[97]⟩ : ByteArray) (⟨#[118, 49, 46, 49, 48, 46, 48]⟩ : ByteArray) t224 t225 _ A1.out).mono ?_); rintro e w11 ⟨rfl, hb⟩; refine ⟨_, rfl, ?_⟩; have n0_ := Aside0.mk (below_step (by repeat (first | (with_reducible first | exact HB.out | apply below_alloc | apply pw_below_drewN | apply below_drew1) | exact HB.out)) hb); clear HB; have HB := n0_; clear n0_; (try clear hb); (try clear hb2); (try clear hk); (try clear hi)) | ((with_reducible refine gate_callee (f := 22) rfl ?_); refine goesL_ (some 18) rfl rfl Tryz.func22 (by kernel_rfl) rfl #[.agg #[.string (⟨#[97]⟩ : ByteArray), .string (⟨#[118, 49, 46, 49, 48, 46, 48]⟩ : ByteArray)], .agg #[.string (⟨#[97, 47, 98]⟩ : ByteArray), .string (⟨#[118, 48, 46, 48, 46, 49]⟩ : ByteArray)]] rfl (by (try simp only [List.map_toArray, List.map_cons, List.map_nil]); first | done | rfl | (simp only [List.length_drop, List.length_take]; rfl)) ?_; (with_reducible refine (node_Cmp.calls k (⟨#[97]⟩ : ByteArray) (⟨#[118, 49, 46, 49, 48, 46, 48]⟩ : ByteArray) (⟨#[97, 47, 98]⟩ : ByteArray) (⟨#[118, 48, 46, 48, 46, 49]⟩ : ByteArray) t226 t227 _ A2.out).mono ?_); rintro e w12 ⟨rfl, hb⟩; refine ⟨_, rfl, ?_⟩; have n0_ := Aside0.mk (below_step (by repeat (first | (with_reducible first | exact HB.out | apply below_alloc | apply pw_below_drewN | apply below_drew1) | exact HB.out)) hb); clear HB; have HB := n0_; clear n0_; (try clear hb); (try clear hb2); (try clear hk); (try clear hi)) | ((with_reducible refine gate_dst (N := 24) rfl ?_); (try (refine gate_guard (by rfl) ?_; dsimp only)); refine Kd.R_lit k32 _ 32 ?hg (N := 24) ?hd (xs := ([(⟨(⟨#[97]⟩ : ByteArray), (⟨#[118, 49, 46, 57, 46, 48]⟩ : ByteArray)⟩ : S32), (⟨(⟨#[97]⟩ : ByteArray), (⟨#[118, 49, 46, 57, 46, 48]⟩ : ByteArray)⟩ : S32)] : List (S32))) (inner := [.string (⟨#[97]⟩ : ByteArray), .string (⟨#[118, 49, 46, 57, 46, 48]⟩ : ByteArray), .string (⟨#[97]⟩ : ByteArray), .string (⟨#[118, 49, 46, 57, 46, 48]⟩ : ByteArray)]) (ok := fun _ => True) (okp := fun _ => True) ?hr ?hp (fun _ hk => hk) trivial (Below.refl _ _) (Nat.le_refl _) (by simp) ?_; (case hd => rfl); (case hg => rfl); (case hr => first | (go_simp; done) | (go_simp; rfl)); (case hp => exact (Reps.c2 (show Kd.M k32 _ _ _ (⟨(⟨#[97]⟩ : ByteArray), (⟨#[118, 49, 46, 57, 46, 48]⟩ : ByteArray)⟩ : S32) [.string (⟨#[97]⟩ : ByteArray), .string (⟨#[118, 49, 46, 57, 46, 48]⟩ : ByteArray)] from (k32_mkM _ _ _ (⟨(⟨#[97]⟩ : ByteArray), (⟨#[118, 49, 46, 57, 46, 48]⟩ : ByteArray)⟩ : S32) )) (Reps.c2 (show Kd.M k32 _ _ _ (⟨(⟨#[97]⟩ : ByteArray), (⟨#[118, 49, 46, 57, 46, 48]⟩ : ByteArray)⟩ : S32) [.string (⟨#[97]⟩ : ByteArray), .string (⟨#[118, 49, 46, 57, 46, 48]⟩ : ByteArray)] from (k32_mkM _ _ _ (⟨(⟨#[97]⟩ : ByteArray), (⟨#[118, 49, 46, 57, 46, 48]⟩ : ByteArray)⟩ : S32) )) (Reps.none _ _)))); intro v229 w13 ho14 hb hg_ hnew_; clear hg_ hnew_; (first | rw [← Ny228.out] at ho14 | (simp only [Int.reduceToNat] at ho14; rw [← Ny228.out] at ho14)); have n0_ := Aside0.mk (Kd.R_lower ho14 (below_size (by repeat (first | (with_reducible first | exact HB.out | apply below_alloc | apply pw_below_drewN | apply below_drew1) | exact HB.out)))); have n1_ := Aside0.mk (below_step (by repeat (first | (with_reducible first | exact HB.out | apply below_alloc | apply pw_below_drewN | apply below_drew1) | exact HB.out)) hb); clear HB; have HO230 := n0_; have HB := n1_; clear n0_ n1_; clear hb ho14; obtain ⟨Ao15, co15, eo15⟩ := Kd.R_slice HO230.out; subst eo15) | ((with_reducible refine gate_callee (f := 13) rfl ?_); refine goesL_ (some 25) rfl rfl Tryz.func13 (by kernel_rfl) rfl #[.slice Ao15 y228.length co15] rfl (by (try simp only [List.map_toArray, List.map_cons, List.map_nil]); first | done | rfl | (simp only [List.length_drop, List.length_take]; rfl)) ?_; (with_reducible refine (node_Set.calls _ _ y228 t231 t232 _ ?side1 ?side2 A3.out).mono ?_); (case side1 => repeat (first | exact (Kd.R_reads' HO230.out).2.2 | (with_reducible refine Kd.C_alloc ?_ _) | (with_reducible refine Kd.C_drewN ?_ _) | (with_reducible refine Kd.C_drew ?_))); (case side2 => exact (Kd.R_reads' HO230.out).2.1); rintro e w16 ⟨v233, rfl, ho0, hb⟩; refine ⟨_, rfl, ?_⟩; have n0_ := Aside0.mk (Kd.R_elder' (by (with_reducible repeat (first | apply Kd.R_alloc | apply Kd.R_drewN | apply Kd.R_drew)); exact HO230.out) (Kd.R_base ho0) hb); have n1_ := Aside0.mk (Kd.R_lower (Kd.R_new' ho0 (Kd.R_lt (by (with_reducible repeat (first | apply Kd.R_alloc | apply Kd.R_drewN | apply Kd.R_drew)); exact HO230.out))) (below_size (by repeat (first | (with_reducible first | exact HB.out | apply below_alloc | apply pw_below_drewN | apply below_drew1) | exact HB.out)))); have n2_ := Aside0.mk (below_step (by repeat (first | (with_reducible first | exact HB.out | apply below_alloc | apply pw_below_drewN | apply below_drew1) | exact HB.out)) hb); clear HO230; clear HB; have HO230 := n0_; have HO234 := n1_; have HB := n2_; clear n0_ n1_ n2_; (try clear hb); (try clear hb2); (try clear hk); (try clear hi); (try clear ho0)) | ((with_reducible refine gate_callee (f := 23) rfl ?_); refine goesL_ (some 29) rfl rfl Tryz.func23 (by kernel_rfl) rfl #[.string (⟨#[97, 64]⟩ : ByteArray)] rfl (by (try simp only [List.map_toArray, List.map_cons, List.map_nil]); first | done | rfl | (simp only [List.length_drop, List.length_take]; rfl)) ?_; (with_reducible refine (node_Read.calls k (⟨#[97, 64]⟩ : ByteArray) t235 t236 t237 _ A4.out).mono ?_); rintro e w17 ⟨rfl, hb⟩; refine ⟨_, rfl, ?_⟩; have n0_ := Aside0.mk (Kd.R_below (by (with_reducible repeat (first | apply Kd.R_alloc | apply Kd.R_drewN | apply Kd.R_drew)); exact HO230.out) hb); have n1_ := Aside0.mk (Kd.R_below (by (with_reducible repeat (first | apply Kd.R_alloc | apply Kd.R_drewN | apply Kd.R_drew)); exact HO234.out) hb); have n2_ := Aside0.mk (below_step (by repeat (first | (with_reducible first | exact HB.out | apply below_alloc | apply pw_below_drewN | apply below_drew1) | exact HB.out)) hb); clear HO230; clear HO234; clear HB; have HO230 := n0_; have HO234 := n1_; have HB := n2_; clear n0_ n1_ n2_; (try clear hb); (try clear hb2); (try clear hk); (try clear hi)) | ((with_reducible refine gate_dst (N := 7) rfl ?_); (try (refine gate_guard (by rfl) ?_; dsimp only)); refine box_event ?hg (N := 7) ?hd (cs := #[.string (⟨#[]⟩ : ByteArray), .string (⟨#[]⟩ : ByteArray)]) (t := 32) ?hr ?_; (case hd => rfl); (case hg => rfl); (case hr => first | (go_simp; done) | (go_simp; rfl)); intro gb238 hg w18 hbox hb; have n0_ := Aside0.mk (Kd.R_below (Kd.R_elderB (by (with_reducible repeat (first | apply Kd.R_alloc | apply Kd.R_drewN | apply Kd.R_drew)); exact HO230.out) gb238 (Nat.le_of_eq hg.symm)) hb); have n1_ := Aside0.mk (Kd.R_below (Kd.R_elderB (by (with_reducible repeat (first | apply Kd.R_alloc | apply Kd.R_drewN | apply Kd.R_drew)); exact HO234.out) gb238 (Nat.le_of_eq hg.symm)) hb); have n2_ := Aside0.mk (below_step (by repeat (first | (with_reducible first | exact HB.out | apply below_alloc | apply pw_below_drewN | apply below_drew1) | exact HB.out)) hb); have n3_ := Aside0.mk (hbox); have n4_ := Aside0.mk ((by rw [hg]; exact (below_size (by repeat (first | (with_reducible first | exact HB.out | apply below_alloc | apply pw_below_drewN | apply below_drew1) | exact HB.out))) : w.heap.size ≤ gb238)); have n5_ := Aside0.mk ((by rw [hg]; exact (below_size (by repeat (first | (with_reducible first | exact HB.out | apply below_alloc | apply pw_below_drewN | apply below_drew1) | exact HB.out))) : w.heap.size ≤ gb238)); clear HO230; clear HO234; clear HB; have HO230 := n0_; have HO234 := n1_; have HB := n2_; have BK238 := n3_; have GW238 := n4_; have GE238 := n5_; clear n0_ n1_ n2_ n3_ n4_ n5_; clear hb hbox hg; have hcz19_0 : w18.cell? ⟨gb238, 0, none⟩ = some (.string (⟨#[]⟩ : ByteArray)) := (blk_cell BK238.out 0).trans rfl; have hcz19_1 : w18.cell? ⟨gb238, 1, none⟩ = some (.string (⟨#[]⟩ : ByteArray)) := (blk_cell BK238.out 1).trans rfl; have hfz19_0 := blk_frozen BK238.out 0; have hfz19_1 := blk_frozen BK238.out 1; obtain ⟨Ao20, co20, eo20⟩ := Kd.R_slice HO234.out; subst eo20))
              go_ret
              exact ⟨by first | rfl | (simp [errW_none, errW_some] <;> rfl) | (simp [*, errW_none, errW_some] <;> rfl), by repeat (first | (with_reducible first | exact HB.out | apply below_alloc | apply pw_below_drewN | apply below_drew1 | refine below_set ?_ GE238.out) | exact HB.out)⟩
            · rw [if_neg c10] at H
              have c10b0 : (t232 == 0) = false := beq_eq_false_iff_ne.mpr c10
              have c10b1 : (t232 != 0) = true := bne_iff_ne.mpr c10
              obtain rfl := Option.some.inj H
              go_enter Tryz.func8, Tryz.ntmps8
              go_wp2_with (first | ((with_reducible refine gate_callee (f := 22) rfl ?_); refine goesL_ (some 12) rfl rfl Tryz.func22 (by kernel_rfl) rfl #[.agg #[.string (⟨#[97]⟩ : ByteArray), .string (⟨#[118, 49, 46, 57, 46, 48]⟩ : ByteArray)], .agg #[.string (⟨#[97]⟩ : ByteArray), .string (⟨#[118, 49, 46, 49, 48, 46, 48]⟩ : ByteArray)]] rfl (by (try simp only [List.map_toArray, List.map_cons, List.map_nil]); first | done | rfl | (simp only [List.length_drop, List.length_take]; rfl)) ?_; (with_reducible refine (node_Cmp.calls k (⟨#[97]⟩ : ByteArray) (⟨#[118, 49, 46, 57, 46, 48]⟩ : ByteArray) (⟨#[97]⟩ : ByteArray) (⟨#[118, 49, 46, 49, 48, 46, 48]⟩ : ByteArray) t224 t225 _ A1.out).mono ?_); rintro e w21 ⟨rfl, hb⟩; refine ⟨_, rfl, ?_⟩; have n0_ := Aside0.mk (below_step (by repeat (first | (with_reducible first | exact HB.out | apply below_alloc | apply pw_below_drewN | apply below_drew1) | exact HB.out)) hb); clear HB; have HB := n0_; clear n0_; (try clear hb); (try clear hb2); (try clear hk); (try clear hi)) | ((with_reducible refine gate_callee (f := 22) rfl ?_); refine goesL_ (some 18) rfl rfl Tryz.func22 (by kernel_rfl) rfl #[.agg #[.string (⟨#[97]⟩ : ByteArray), .string (⟨#[118, 49, 46, 49, 48, 46, 48]⟩ : ByteArray)], .agg #[.string (⟨#[97, 47, 98]⟩ : ByteArray), .string (⟨#[118, 48, 46, 48, 46, 49]⟩ : ByteArray)]] rfl (by (try simp only [List.map_toArray, List.map_cons, List.map_nil]); first | done | rfl | (simp only [List.length_drop, List.length_take]; rfl)) ?_; (with_reducible refine (node_Cmp.calls k (⟨#[97]⟩ : ByteArray) (⟨#[118, 49, 46, 49, 48, 46, 48]⟩ : ByteArray) (⟨#[97, 47, 98]⟩ : ByteArray) (⟨#[118, 48, 46, 48, 46, 49]⟩ : ByteArray) t226 t227 _ A2.out).mono ?_); rintro e w22 ⟨rfl, hb⟩; refine ⟨_, rfl, ?_⟩; have n0_ := Aside0.mk (below_step (by repeat (first | (with_reducible first | exact HB.out | apply below_alloc | apply pw_below_drewN | apply below_drew1) | exact HB.out)) hb); clear HB; have HB := n0_; clear n0_; (try clear hb); (try clear hb2); (try clear hk); (try clear hi)) | ((with_reducible refine gate_dst (N := 24) rfl ?_); (try (refine gate_guard (by rfl) ?_; dsimp only)); refine Kd.R_lit k32 _ 32 ?hg (N := 24) ?hd (xs := ([(⟨(⟨#[97]⟩ : ByteArray), (⟨#[118, 49, 46, 57, 46, 48]⟩ : ByteArray)⟩ : S32), (⟨(⟨#[97]⟩ : ByteArray), (⟨#[118, 49, 46, 57, 46, 48]⟩ : ByteArray)⟩ : S32)] : List (S32))) (inner := [.string (⟨#[97]⟩ : ByteArray), .string (⟨#[118, 49, 46, 57, 46, 48]⟩ : ByteArray), .string (⟨#[97]⟩ : ByteArray), .string (⟨#[118, 49, 46, 57, 46, 48]⟩ : ByteArray)]) (ok := fun _ => True) (okp := fun _ => True) ?hr ?hp (fun _ hk => hk) trivial (Below.refl _ _) (Nat.le_refl _) (by simp) ?_; (case hd => rfl); (case hg => rfl); (case hr => first | (go_simp; done) | (go_simp; rfl)); (case hp => exact (Reps.c2 (show Kd.M k32 _ _ _ (⟨(⟨#[97]⟩ : ByteArray), (⟨#[118, 49, 46, 57, 46, 48]⟩ : ByteArray)⟩ : S32) [.string (⟨#[97]⟩ : ByteArray), .string (⟨#[118, 49, 46, 57, 46, 48]⟩ : ByteArray)] from (k32_mkM _ _ _ (⟨(⟨#[97]⟩ : ByteArray), (⟨#[118, 49, 46, 57, 46, 48]⟩ : ByteArray)⟩ : S32) )) (Reps.c2 (show Kd.M k32 _ _ _ (⟨(⟨#[97]⟩ : ByteArray), (⟨#[118, 49, 46, 57, 46, 48]⟩ : ByteArray)⟩ : S32) [.string (⟨#[97]⟩ : ByteArray), .string (⟨#[118, 49, 46, 57, 46, 48]⟩ : ByteArray)] from (k32_mkM _ _ _ (⟨(⟨#[97]⟩ : ByteArray), (⟨#[118, 49, 46, 57, 46, 48]⟩ : ByteArray)⟩ : S32) )) (Reps.none _ _)))); intro v229 w23 ho24 hb hg_ hnew_; clear hg_ hnew_; (first | rw [← Ny228.out] at ho24 | (simp only [Int.reduceToNat] at ho24; rw [← Ny228.out] at ho24)); have n0_ := Aside0.mk (Kd.R_lower ho24 (below_size (by repeat (first | (with_reducible first | exact HB.out | apply below_alloc | apply pw_below_drewN | apply below_drew1) | exact HB.out)))); have n1_ := Aside0.mk (below_step (by repeat (first | (with_reducible first | exact HB.out | apply below_alloc | apply pw_below_drewN | apply below_drew1) | exact HB.out)) hb); clear HB; have HO230 := n0_; have HB := n1_; clear n0_ n1_; clear hb ho24; obtain ⟨Ao25, co25, eo25⟩ := Kd.R_slice HO230.out; subst eo25) | ((with_reducible refine gate_callee (f := 13) rfl ?_); refine goesL_ (some 25) rfl rfl Tryz.func13 (by kernel_rfl) rfl #[.slice Ao25 y228.length co25] rfl (by (try simp only [List.map_toArray, List.map_cons, List.map_nil]); first | done | rfl | (simp only [List.length_drop, List.length_take]; rfl)) ?_; (with_reducible refine (node_Set.calls _ _ y228 t231 t232 _ ?side1 ?side2 A3.out).mono ?_); (case side1 => repeat (first | exact (Kd.R_reads' HO230.out).2.2 | (with_reducible refine Kd.C_alloc ?_ _) | (with_reducible refine Kd.C_drewN ?_ _) | (with_reducible refine Kd.C_drew ?_))); (case side2 => exact (Kd.R_reads' HO230.out).2.1); rintro e w26 ⟨v233, rfl, ho0, hb⟩; refine ⟨_, rfl, ?_⟩; have n0_ := Aside0.mk (Kd.R_elder' (by (with_reducible repeat (first | apply Kd.R_alloc | apply Kd.R_drewN | apply Kd.R_drew)); exact HO230.out) (Kd.R_base ho0) hb); have n1_ := Aside0.mk (Kd.R_lower (Kd.R_new' ho0 (Kd.R_lt (by (with_reducible repeat (first | apply Kd.R_alloc | apply Kd.R_drewN | apply Kd.R_drew)); exact HO230.out))) (below_size (by repeat (first | (with_reducible first | exact HB.out | apply below_alloc | apply pw_below_drewN | apply below_drew1) | exact HB.out)))); have n2_ := Aside0.mk (below_step (by repeat (first | (with_reducible first | exact HB.out | apply below_alloc | apply pw_below_drewN | apply below_drew1) | exact HB.out)) hb); clear HO230; clear HB; have HO230 := n0_; have HO234 := n1_; have HB := n2_; clear n0_ n1_ n2_; (try clear hb); (try clear hb2); (try clear hk); (try clear hi); (try clear ho0)) | ((with_reducible refine gate_callee (f := 23) rfl ?_); refine goesL_ (some 29) rfl rfl Tryz.func23 (by kernel_rfl) rfl #[.string (⟨#[97, 64]⟩ : ByteArray)] rfl (by (try simp only [List.map_toArray, List.map_cons, List.map_nil]); first | done | rfl | (simp only [List.length_drop, List.length_take]; rfl)) ?_; (with_reducible refine (node_Read.calls k (⟨#[97, 64]⟩ : ByteArray) t235 t236 t237 _ A4.out).mono ?_); rintro e w27 ⟨rfl, hb⟩; refine ⟨_, rfl, ?_⟩; have n0_ := Aside0.mk (Kd.R_below (by (with_reducible repeat (first | apply Kd.R_alloc | apply Kd.R_drewN | apply Kd.R_drew)); exact HO230.out) hb); have n1_ := Aside0.mk (Kd.R_below (by (with_reducible repeat (first | apply Kd.R_alloc | apply Kd.R_drewN | apply Kd.R_drew)); exact HO234.out) hb); have n2_ := Aside0.mk (below_step (by repeat (first | (with_reducible first | exact HB.out | apply below_alloc | apply pw_below_drewN | apply below_drew1) | exact HB.out)) hb); clear HO230; clear HO234; clear HB; have HO230 := n0_; have HO234 := n1_; have HB := n2_; clear n0_ n1_ n2_; (try clear hb); (try clear hb2); (try clear hk); (try clear hi)) | ((with_reducible refine gate_dst (N := 7) rfl ?_); (try (refine gate_guard (by rfl) ?_; dsimp only)); refine box_event ?hg (N := 7) ?hd (cs := #[.string (⟨#[]⟩ : ByteArray), .string (⟨#[]⟩ : ByteArray)]) (t := 32) ?hr ?_; (case hd => rfl); (case hg => rfl); (case hr => first | (go_simp; done) | (go_simp; rfl)); intro gb238 hg w28 hbox hb; have n0_ := Aside0.mk (Kd.R_below (Kd.R_elderB (by (with_reducible repeat (first | apply Kd.R_alloc | apply Kd.R_drewN | apply Kd.R_drew)); exact HO230.out) gb238 (Nat.le_of_eq hg.symm)) hb); have n1_ := Aside0.mk (Kd.R_below (Kd.R_elderB (by (with_reducible repeat (first | apply Kd.R_alloc | apply Kd.R_drewN | apply Kd.R_drew)); exact HO234.out) gb238 (Nat.le_of_eq hg.symm)) hb); have n2_ := Aside0.mk (below_step (by repeat (first | (with_reducible first | exact HB.out | apply below_alloc | apply pw_below_drewN | apply below_drew1) | exact HB.out)) hb); have n3_ := Aside0.mk (hbox); have n4_ := Aside0.mk ((by rw [hg]; exact (below_size (by repeat (first | (with_reducible first | exact HB.out | apply below_alloc | apply pw_below_drewN | apply below_drew1) | exact HB.out))) : w.heap.size ≤ gb238)); have n5_ := Aside0.mk ((by rw [hg]; exact (below_size (by repeat (first | (with_reducible first | exact HB.out | apply below_alloc | apply pw_below_drewN | apply below_drew1) | exact HB.out))) : w.heap.size ≤ gb238)); clear HO230; clear HO234; clear HB; have HO230 := n0_; have HO234 := n1_; have HB := n2_; have BK238 := n3_; have GW238 := n4_; have GE238 := n5_; clear n0_ n1_ n2_ n3_ n4_ n5_; clear hb hbox hg; have hcz29_0 : w28.cell? ⟨gb238, 0, none⟩ = some (.string (⟨#[]⟩ : ByteArray)) := (blk_cell BK238.out 0).trans rfl; have hcz29_1 : w28.cell? ⟨gb238, 1, none⟩ = some (.string (⟨#[]⟩ : ByteArray)) := (blk_cell BK238.out 1).trans rfl; have hfz29_0 := blk_frozen BK238.out 0; have hfz29_1 := blk_frozen BK238.out 1; obtain ⟨Ao30, co30, eo30⟩ := Kd.R_slice HO234.out; subst eo30))
              go_ret
              exact ⟨by first | rfl | (simp [errW_none, errW_some] <;> rfl) | (simp [*, errW_none, errW_some] <;> rfl), by repeat (first | (with_reducible first | exact HB.out | apply below_alloc | apply pw_below_drewN | apply below_drew1 | refine below_set ?_ GE238.out) | exact HB.out)⟩
          · rw [if_neg c9] at H
            have c9b0 : ((t231.length : Int) == 1) = false := beq_eq_false_iff_ne.mpr c9
            have c9b1 : ((t231.length : Int) != 1) = true := bne_iff_ne.mpr c9
            obtain rfl := Option.some.inj H
            go_enter Tryz.func8, Tryz.ntmps8
            go_wp2_with (first | ((with_reducible refine gate_callee (f := 22) rfl ?_); refine goesL_ (some 12) rfl rfl Tryz.func22 (by kernel_rfl) rfl #[.agg #[.string (⟨#[97]⟩ : ByteArray), .string (⟨#[118, 49, 46, 57, 46, 48]⟩ : ByteArray)], .agg #[.string (⟨#[97]⟩ : ByteArray), .string (⟨#[118, 49, 46, 49, 48, 46, 48]⟩ : ByteArray)]] rfl (by (try simp only [List.map_toArray, List.map_cons, List.map_nil]); first | done | rfl | (simp only [List.length_drop, List.length_take]; rfl)) ?_; (with_reducible refine (node_Cmp.calls k (⟨#[97]⟩ : ByteArray) (⟨#[118, 49, 46, 57, 46, 48]⟩ : ByteArray) (⟨#[97]⟩ : ByteArray) (⟨#[118, 49, 46, 49, 48, 46, 48]⟩ : ByteArray) t224 t225 _ A1.out).mono ?_); rintro e w31 ⟨rfl, hb⟩; refine ⟨_, rfl, ?_⟩; have n0_ := Aside0.mk (below_step (by repeat (first | (with_reducible first | exact HB.out | apply below_alloc | apply pw_below_drewN | apply below_drew1) | exact HB.out)) hb); clear HB; have HB := n0_; clear n0_; (try clear hb); (try clear hb2); (try clear hk); (try clear hi)) | ((with_reducible refine gate_callee (f := 22) rfl ?_); refine goesL_ (some 18) rfl rfl Tryz.func22 (by kernel_rfl) rfl #[.agg #[.string (⟨#[97]⟩ : ByteArray), .string (⟨#[118, 49, 46, 49, 48, 46, 48]⟩ : ByteArray)], .agg #[.string (⟨#[97, 47, 98]⟩ : ByteArray), .string (⟨#[118, 48, 46, 48, 46, 49]⟩ : ByteArray)]] rfl (by (try simp only [List.map_toArray, List.map_cons, List.map_nil]); first | done | rfl | (simp only [List.length_drop, List.length_take]; rfl)) ?_; (with_reducible refine (node_Cmp.calls k (⟨#[97]⟩ : ByteArray) (⟨#[118, 49, 46, 49, 48, 46, 48]⟩ : ByteArray) (⟨#[97, 47, 98]⟩ : ByteArray) (⟨#[118, 48, 46, 48, 46, 49]⟩ : ByteArray) t226 t227 _ A2.out).mono ?_); rintro e w32 ⟨rfl, hb⟩; refine ⟨_, rfl, ?_⟩; have n0_ := Aside0.mk (below_step (by repeat (first | (with_reducible first | exact HB.out | apply below_alloc | apply pw_below_drewN | apply below_drew1) | exact HB.out)) hb); clear HB; have HB := n0_; clear n0_; (try clear hb); (try clear hb2); (try clear hk); (try clear hi)) | ((with_reducible refine gate_dst (N := 24) rfl ?_); (try (refine gate_guard (by rfl) ?_; dsimp only)); refine Kd.R_lit k32 _ 32 ?hg (N := 24) ?hd (xs := ([(⟨(⟨#[97]⟩ : ByteArray), (⟨#[118, 49, 46, 57, 46, 48]⟩ : ByteArray)⟩ : S32), (⟨(⟨#[97]⟩ : ByteArray), (⟨#[118, 49, 46, 57, 46, 48]⟩ : ByteArray)⟩ : S32)] : List (S32))) (inner := [.string (⟨#[97]⟩ : ByteArray), .string (⟨#[118, 49, 46, 57, 46, 48]⟩ : ByteArray), .string (⟨#[97]⟩ : ByteArray), .string (⟨#[118, 49, 46, 57, 46, 48]⟩ : ByteArray)]) (ok := fun _ => True) (okp := fun _ => True) ?hr ?hp (fun _ hk => hk) trivial (Below.refl _ _) (Nat.le_refl _) (by simp) ?_; (case hd => rfl); (case hg => rfl); (case hr => first | (go_simp; done) | (go_simp; rfl)); (case hp => exact (Reps.c2 (show Kd.M k32 _ _ _ (⟨(⟨#[97]⟩ : ByteArray), (⟨#[118, 49, 46, 57, 46, 48]⟩ : ByteArray)⟩ : S32) [.string (⟨#[97]⟩ : ByteArray), .string (⟨#[118, 49, 46, 57, 46, 48]⟩ : ByteArray)] from (k32_mkM _ _ _ (⟨(⟨#[97]⟩ : ByteArray), (⟨#[118, 49, 46, 57, 46, 48]⟩ : ByteArray)⟩ : S32) )) (Reps.c2 (show Kd.M k32 _ _ _ (⟨(⟨#[97]⟩ : ByteArray), (⟨#[118, 49, 46, 57, 46, 48]⟩ : ByteArray)⟩ : S32) [.string (⟨#[97]⟩ : ByteArray), .string (⟨#[118, 49, 46, 57, 46, 48]⟩ : ByteArray)] from (k32_mkM _ _ _ (⟨(⟨#[97]⟩ : ByteArray), (⟨#[118, 49, 46, 57, 46, 48]⟩ : ByteArray)⟩ : S32) )) (Reps.none _ _)))); intro v229 w33 ho34 hb hg_ hnew_; clear hg_ hnew_; (first | rw [← Ny228.out] at ho34 | (simp only [Int.reduceToNat] at ho34; rw [← Ny228.out] at ho34)); have n0_ := Aside0.mk (Kd.R_lower ho34 (below_size (by repeat (first | (with_reducible first | exact HB.out | apply below_alloc | apply pw_below_drewN | apply below_drew1) | exact HB.out)))); have n1_ := Aside0.mk (below_step (by repeat (first | (with_reducible first | exact HB.out | apply below_alloc | apply pw_below_drewN | apply below_drew1) | exact HB.out)) hb); clear HB; have HO230 := n0_; have HB := n1_; clear n0_ n1_; clear hb ho34; obtain ⟨Ao35, co35, eo35⟩ := Kd.R_slice HO230.out; subst eo35) | ((with_reducible refine gate_callee (f := 13) rfl ?_); refine goesL_ (some 25) rfl rfl Tryz.func13 (by kernel_rfl) rfl #[.slice Ao35 y228.length co35] rfl (by (try simp only [List.map_toArray, List.map_cons, List.map_nil]); first | done | rfl | (simp only [List.length_drop, List.length_take]; rfl)) ?_; (with_reducible refine (node_Set.calls _ _ y228 t231 t232 _ ?side1 ?side2 A3.out).mono ?_); (case side1 => repeat (first | exact (Kd.R_reads' HO230.out).2.2 | (with_reducible refine Kd.C_alloc ?_ _) | (with_reducible refine Kd.C_drewN ?_ _) | (with_reducible refine Kd.C_drew ?_))); (case side2 => exact (Kd.R_reads' HO230.out).2.1); rintro e w36 ⟨v233, rfl, ho0, hb⟩; refine ⟨_, rfl, ?_⟩; have n0_ := Aside0.mk (Kd.R_elder' (by (with_reducible repeat (first | apply Kd.R_alloc | apply Kd.R_drewN | apply Kd.R_drew)); exact HO230.out) (Kd.R_base ho0) hb); have n1_ := Aside0.mk (Kd.R_lower (Kd.R_new' ho0 (Kd.R_lt (by (with_reducible repeat (first | apply Kd.R_alloc | apply Kd.R_drewN | apply Kd.R_drew)); exact HO230.out))) (below_size (by repeat (first | (with_reducible first | exact HB.out | apply below_alloc | apply pw_below_drewN | apply below_drew1) | exact HB.out)))); have n2_ := Aside0.mk (below_step (by repeat (first | (with_reducible first | exact HB.out | apply below_alloc | apply pw_below_drewN | apply below_drew1) | exact HB.out)) hb); clear HO230; clear HB; have HO230 := n0_; have HO234 := n1_; have HB := n2_; clear n0_ n1_ n2_; (try clear hb); (try clear hb2); (try clear hk); (try clear hi); (try clear ho0)) | ((with_reducible refine gate_callee (f := 23) rfl ?_); refine goesL_ (some 29) rfl rfl Tryz.func23 (by kernel_rfl) rfl #[.string (⟨#[97, 64]⟩ : ByteArray)] rfl (by (try simp only [List.map_toArray, List.map_cons, List.map_nil]); first | done | rfl | (simp only [List.length_drop, List.length_take]; rfl)) ?_; (with_reducible refine (node_Read.calls k (⟨#[97, 64]⟩ : ByteArray) t235 t236 t237 _ A4.out).mono ?_); rintro e w37 ⟨rfl, hb⟩; refine ⟨_, rfl, ?_⟩; have n0_ := Aside0.mk (Kd.R_below (by (with_reducible repeat (first | apply Kd.R_alloc | apply Kd.R_drewN | apply Kd.R_drew)); exact HO230.out) hb); have n1_ := Aside0.mk (Kd.R_below (by (with_reducible repeat (first | apply Kd.R_alloc | apply Kd.R_drewN | apply Kd.R_drew)); exact HO234.out) hb); have n2_ := Aside0.mk (below_step (by repeat (first | (with_reducible first | exact HB.out | apply below_alloc | apply pw_below_drewN | apply below_drew1) | exact HB.out)) hb); clear HO230; clear HO234; clear HB; have HO230 := n0_; have HO234 := n1_; have HB := n2_; clear n0_ n1_ n2_; (try clear hb); (try clear hb2); (try clear hk); (try clear hi)) | ((with_reducible refine gate_dst (N := 7) rfl ?_); (try (refine gate_guard (by rfl) ?_; dsimp only)); refine box_event ?hg (N := 7) ?hd (cs := #[.string (⟨#[]⟩ : ByteArray), .string (⟨#[]⟩ : ByteArray)]) (t := 32) ?hr ?_; (case hd => rfl); (case hg => rfl); (case hr => first | (go_simp; done) | (go_simp; rfl)); intro gb238 hg w38 hbox hb; have n0_ := Aside0.mk (Kd.R_below (Kd.R_elderB (by (with_reducible repeat (first | apply Kd.R_alloc | apply Kd.R_drewN | apply Kd.R_drew)); exact HO230.out) gb238 (Nat.le_of_eq hg.symm)) hb); have n1_ := Aside0.mk (Kd.R_below (Kd.R_elderB (by (with_reducible repeat (first | apply Kd.R_alloc | apply Kd.R_drewN | apply Kd.R_drew)); exact HO234.out) gb238 (Nat.le_of_eq hg.symm)) hb); have n2_ := Aside0.mk (below_step (by repeat (first | (with_reducible first | exact HB.out | apply below_alloc | apply pw_below_drewN | apply below_drew1) | exact HB.out)) hb); have n3_ := Aside0.mk (hbox); have n4_ := Aside0.mk ((by rw [hg]; exact (below_size (by repeat (first | (with_reducible first | exact HB.out | apply below_alloc | apply pw_below_drewN | apply below_drew1) | exact HB.out))) : w.heap.size ≤ gb238)); have n5_ := Aside0.mk ((by rw [hg]; exact (below_size (by repeat (first | (with_reducible first | exact HB.out | apply below_alloc | apply pw_below_drewN | apply below_drew1) | exact HB.out))) : w.heap.size ≤ gb238)); clear HO230; clear HO234; clear HB; have HO230 := n0_; have HO234 := n1_; have HB := n2_; have BK238 := n3_; have GW238 := n4_; have GE238 := n5_; clear n0_ n1_ n2_ n3_ n4_ n5_; clear hb hbox hg; have hcz39_0 : w38.cell? ⟨gb238, 0, none⟩ = some (.string (⟨#[]⟩ : ByteArray)) := (blk_cell BK238.out 0).trans rfl; have hcz39_1 : w38.cell? ⟨gb238, 1, none⟩ = some (.string (⟨#[]⟩ : ByteArray)) := (blk_cell BK238.out 1).trans rfl; have hfz39_0 := blk_frozen BK238.out 0; have hfz39_1 := blk_frozen BK238.out 1; obtain ⟨Ao40, co40, eo40⟩ := Kd.R_slice HO234.out; subst eo40))
            go_ret
            exact ⟨by first | rfl | (simp [errW_none, errW_some] <;> rfl) | (simp [*, errW_none, errW_some] <;> rfl), by repeat (first | (with_reducible first | exact HB.out | apply below_alloc | apply pw_below_drewN | apply below_drew1 | refine below_set ?_ GE238.out) | exact HB.out)⟩
        · rw [if_neg c8] at H
          have c8b0 : (t227 == 0) = false := beq_eq_false_iff_ne.mpr c8
          have c8b1 : (t227 != 0) = true := bne_iff_ne.mpr c8
          obtain rfl := Option.some.inj H
          go_enter Tryz.func8, Tryz.ntmps8
          go_wp2_with (first | ((with_reducible refine gate_callee (f := 22) rfl ?_); refine goesL_ (some 12) rfl rfl Tryz.func22 (by kernel_rfl) rfl #[.agg #[.string (⟨#[97]⟩ : ByteArray), .string (⟨#[118, 49, 46, 57, 46, 48]⟩ : ByteArray)], .agg #[.string (⟨#[97]⟩ : ByteArray), .string (⟨#[118, 49, 46, 49, 48, 46, 48]⟩ : ByteArray)]] rfl (by (try simp only [List.map_toArray, List.map_cons, List.map_nil]); first | done | rfl | (simp only [List.length_drop, List.length_take]; rfl)) ?_; (with_reducible refine (node_Cmp.calls k (⟨#[97]⟩ : ByteArray) (⟨#[118, 49, 46, 57, 46, 48]⟩ : ByteArray) (⟨#[97]⟩ : ByteArray) (⟨#[118, 49, 46, 49, 48, 46, 48]⟩ : ByteArray) t224 t225 _ A1.out).mono ?_); rintro e w41 ⟨rfl, hb⟩; refine ⟨_, rfl, ?_⟩; have n0_ := Aside0.mk (below_step (by repeat (first | (with_reducible first | exact HB.out | apply below_alloc | apply pw_below_drewN | apply below_drew1) | exact HB.out)) hb); clear HB; have HB := n0_; clear n0_; (try clear hb); (try clear hb2); (try clear hk); (try clear hi)) | ((with_reducible refine gate_callee (f := 22) rfl ?_); refine goesL_ (some 18) rfl rfl Tryz.func22 (by kernel_rfl) rfl #[.agg #[.string (⟨#[97]⟩ : ByteArray), .string (⟨#[118, 49, 46, 49, 48, 46, 48]⟩ : ByteArray)], .agg #[.string (⟨#[97, 47, 98]⟩ : ByteArray), .string (⟨#[118, 48, 46, 48, 46, 49]⟩ : ByteArray)]] rfl (by (try simp only [List.map_toArray, List.map_cons, List.map_nil]); first | done | rfl | (simp only [List.length_drop, List.length_take]; rfl)) ?_; (with_reducible refine (node_Cmp.calls k (⟨#[97]⟩ : ByteArray) (⟨#[118, 49, 46, 49, 48, 46, 48]⟩ : ByteArray) (⟨#[97, 47, 98]⟩ : ByteArray) (⟨#[118, 48, 46, 48, 46, 49]⟩ : ByteArray) t226 t227 _ A2.out).mono ?_); rintro e w42 ⟨rfl, hb⟩; refine ⟨_, rfl, ?_⟩; have n0_ := Aside0.mk (below_step (by repeat (first | (with_reducible first | exact HB.out | apply below_alloc | apply pw_below_drewN | apply below_drew1) | exact HB.out)) hb); clear HB; have HB := n0_; clear n0_; (try clear hb); (try clear hb2); (try clear hk); (try clear hi)) | ((with_reducible refine gate_dst (N := 24) rfl ?_); (try (refine gate_guard (by rfl) ?_; dsimp only)); refine Kd.R_lit k32 _ 32 ?hg (N := 24) ?hd (xs := ([(⟨(⟨#[97]⟩ : ByteArray), (⟨#[118, 49, 46, 57, 46, 48]⟩ : ByteArray)⟩ : S32), (⟨(⟨#[97]⟩ : ByteArray), (⟨#[118, 49, 46, 57, 46, 48]⟩ : ByteArray)⟩ : S32)] : List (S32))) (inner := [.string (⟨#[97]⟩ : ByteArray), .string (⟨#[118, 49, 46, 57, 46, 48]⟩ : ByteArray), .string (⟨#[97]⟩ : ByteArray), .string (⟨#[118, 49, 46, 57, 46, 48]⟩ : ByteArray)]) (ok := fun _ => True) (okp := fun _ => True) ?hr ?hp (fun _ hk => hk) trivial (Below.refl _ _) (Nat.le_refl _) (by simp) ?_; (case hd => rfl); (case hg => rfl); (case hr => first | (go_simp; done) | (go_simp; rfl)); (case hp => exact (Reps.c2 (show Kd.M k32 _ _ _ (⟨(⟨#[97]⟩ : ByteArray), (⟨#[118, 49, 46, 57, 46, 48]⟩ : ByteArray)⟩ : S32) [.string (⟨#[97]⟩ : ByteArray), .string (⟨#[118, 49, 46, 57, 46, 48]⟩ : ByteArray)] from (k32_mkM _ _ _ (⟨(⟨#[97]⟩ : ByteArray), (⟨#[118, 49, 46, 57, 46, 48]⟩ : ByteArray)⟩ : S32) )) (Reps.c2 (show Kd.M k32 _ _ _ (⟨(⟨#[97]⟩ : ByteArray), (⟨#[118, 49, 46, 57, 46, 48]⟩ : ByteArray)⟩ : S32) [.string (⟨#[97]⟩ : ByteArray), .string (⟨#[118, 49, 46, 57, 46, 48]⟩ : ByteArray)] from (k32_mkM _ _ _ (⟨(⟨#[97]⟩ : ByteArray), (⟨#[118, 49, 46, 57, 46, 48]⟩ : ByteArray)⟩ : S32) )) (Reps.none _ _)))); intro v229 w43 ho44 hb hg_ hnew_; clear hg_ hnew_; (first | rw [← Ny228.out] at ho44 | (simp only [Int.reduceToNat] at ho44; rw [← Ny228.out] at ho44)); have n0_ := Aside0.mk (Kd.R_lower ho44 (below_size (by repeat (first | (with_reducible first | exact HB.out | apply below_alloc | apply pw_below_drewN | apply below_drew1) | exact HB.out)))); have n1_ := Aside0.mk (below_step (by repeat (first | (with_reducible first | exact HB.out | apply below_alloc | apply pw_below_drewN | apply below_drew1) | exact HB.out)) hb); clear HB; have HO230 := n0_; have HB := n1_; clear n0_ n1_; clear hb ho44; obtain ⟨Ao45, co45, eo45⟩ := Kd.R_slice HO230.out; subst eo45) | ((with_reducible refine gate_callee (f := 13) rfl ?_); refine goesL_ (some 25) rfl rfl Tryz.func13 (by kernel_rfl) rfl #[.slice Ao45 y228.length co45] rfl (by (try simp only [List.map_toArray, List.map_cons, List.map_nil]); first | done | rfl | (simp only [List.length_drop, List.length_take]; rfl)) ?_; (with_reducible refine (node_Set.calls _ _ y228 t231 t232 _ ?side1 ?side2 A3.out).mono ?_); (case side1 => repeat (first | exact (Kd.R_reads' HO230.out).2.2 | (with_reducible refine Kd.C_alloc ?_ _) | (with_reducible refine Kd.C_drewN ?_ _) | (with_reducible refine Kd.C_drew ?_))); (case side2 => exact (Kd.R_reads' HO230.out).2.1); rintro e w46 ⟨v233, rfl, ho0, hb⟩; refine ⟨_, rfl, ?_⟩; have n0_ := Aside0.mk (Kd.R_elder' (by (with_reducible repeat (first | apply Kd.R_alloc | apply Kd.R_drewN | apply Kd.R_drew)); exact HO230.out) (Kd.R_base ho0) hb); have n1_ := Aside0.mk (Kd.R_lower (Kd.R_new' ho0 (Kd.R_lt (by (with_reducible repeat (first | apply Kd.R_alloc | apply Kd.R_drewN | apply Kd.R_drew)); exact HO230.out))) (below_size (by repeat (first | (with_reducible first | exact HB.out | apply below_alloc | apply pw_below_drewN | apply below_drew1) | exact HB.out)))); have n2_ := Aside0.mk (below_step (by repeat (first | (with_reducible first | exact HB.out | apply below_alloc | apply pw_below_drewN | apply below_drew1) | exact HB.out)) hb); clear HO230; clear HB; have HO230 := n0_; have HO234 := n1_; have HB := n2_; clear n0_ n1_ n2_; (try clear hb); (try clear hb2); (try clear hk); (try clear hi); (try clear ho0)) | ((with_reducible refine gate_callee (f := 23) rfl ?_); refine goesL_ (some 29) rfl rfl Tryz.func23 (by kernel_rfl) rfl #[.string (⟨#[97, 64]⟩ : ByteArray)] rfl (by (try simp only [List.map_toArray, List.map_cons, List.map_nil]); first | done | rfl | (simp only [List.length_drop, List.length_take]; rfl)) ?_; (with_reducible refine (node_Read.calls k (⟨#[97, 64]⟩ : ByteArray) t235 t236 t237 _ A4.out).mono ?_); rintro e w47 ⟨rfl, hb⟩; refine ⟨_, rfl, ?_⟩; have n0_ := Aside0.mk (Kd.R_below (by (with_reducible repeat (first | apply Kd.R_alloc | apply Kd.R_drewN | apply Kd.R_drew)); exact HO230.out) hb); have n1_ := Aside0.mk (Kd.R_below (by (with_reducible repeat (first | apply Kd.R_alloc | apply Kd.R_drewN | apply Kd.R_drew)); exact HO234.out) hb); have n2_ := Aside0.mk (below_step (by repeat (first | (with_reducible first | exact HB.out | apply below_alloc | apply pw_below_drewN | apply below_drew1) | exact HB.out)) hb); clear HO230; clear HO234; clear HB; have HO230 := n0_; have HO234 := n1_; have HB := n2_; clear n0_ n1_ n2_; (try clear hb); (try clear hb2); (try clear hk); (try clear hi)) | ((with_reducible refine gate_dst (N := 7) rfl ?_); (try (refine gate_guard (by rfl) ?_; dsimp only)); refine box_event ?hg (N := 7) ?hd (cs := #[.string (⟨#[]⟩ : ByteArray), .string (⟨#[]⟩ : ByteArray)]) (t := 32) ?hr ?_; (case hd => rfl); (case hg => rfl); (case hr => first | (go_simp; done) | (go_simp; rfl)); intro gb238 hg w48 hbox hb; have n0_ := Aside0.mk (Kd.R_below (Kd.R_elderB (by (with_reducible repeat (first | apply Kd.R_alloc | apply Kd.R_drewN | apply Kd.R_drew)); exact HO230.out) gb238 (Nat.le_of_eq hg.symm)) hb); have n1_ := Aside0.mk (Kd.R_below (Kd.R_elderB (by (with_reducible repeat (first | apply Kd.R_alloc | apply Kd.R_drewN | apply Kd.R_drew)); exact HO234.out) gb238 (Nat.le_of_eq hg.symm)) hb); have n2_ := Aside0.mk (below_step (by repeat (first | (with_reducible first | exact HB.out | apply below_alloc | apply pw_below_drewN | apply below_drew1) | exact HB.out)) hb); have n3_ := Aside0.mk (hbox); have n4_ := Aside0.mk ((by rw [hg]; exact (below_size (by repeat (first | (with_reducible first | exact HB.out | apply below_alloc | apply pw_below_drewN | apply below_drew1) | exact HB.out))) : w.heap.size ≤ gb238)); have n5_ := Aside0.mk ((by rw [hg]; exact (below_size (by repeat (first | (with_reducible first | exact HB.out | apply below_alloc | apply pw_below_drewN | apply below_drew1) | exact HB.out))) : w.heap.size ≤ gb238)); clear HO230; clear HO234; clear HB; have HO230 := n0_; have HO234 := n1_; have HB := n2_; have BK238 := n3_; have GW238 := n4_; have GE238 := n5_; clear n0_ n1_ n2_ n3_ n4_ n5_; clear hb hbox hg; have hcz49_0 : w48.cell? ⟨gb238, 0, none⟩ = some (.string (⟨#[]⟩ : ByteArray)) := (blk_cell BK238.out 0).trans rfl; have hcz49_1 : w48.cell? ⟨gb238, 1, none⟩ = some (.string (⟨#[]⟩ : ByteArray)) := (blk_cell BK238.out 1).trans rfl; have hfz49_0 := blk_frozen BK238.out 0; have hfz49_1 := blk_frozen BK238.out 1))
          go_ret
          exact ⟨by first | rfl | (simp [errW_none, errW_some] <;> rfl) | (simp [*, errW_none, errW_some] <;> rfl), by repeat (first | (with_reducible first | exact HB.out | apply below_alloc | apply pw_below_drewN | apply below_drew1 | refine below_set ?_ GE238.out) | exact HB.out)⟩
      · rw [if_neg c7] at H
        have c7b0 : (t226 == (-1)) = false := beq_eq_false_iff_ne.mpr c7
        have c7b1 : (t226 != (-1)) = true := bne_iff_ne.mpr c7
        obtain rfl := Option.some.inj H
        go_enter Tryz.func8, Tryz.ntmps8
        go_wp2_with (first | ((with_reducible refine gate_callee (f := 22) rfl ?_); refine goesL_ (some 12) rfl rfl Tryz.func22 (by kernel_rfl) rfl #[.agg #[.string (⟨#[97]⟩ : ByteArray), .string (⟨#[118, 49, 46, 57, 46, 48]⟩ : ByteArray)], .agg #[.string (⟨#[97]⟩ : ByteArray), .string (⟨#[118, 49, 46, 49, 48, 46, 48]⟩ : ByteArray)]] rfl (by (try simp only [List.map_toArray, List.map_cons, List.map_nil]); first | done | rfl | (simp only [List.length_drop, List.length_take]; rfl)) ?_; (with_reducible refine (node_Cmp.calls k (⟨#[97]⟩ : ByteArray) (⟨#[118, 49, 46, 57, 46, 48]⟩ : ByteArray) (⟨#[97]⟩ : ByteArray) (⟨#[118, 49, 46, 49, 48, 46, 48]⟩ : ByteArray) t224 t225 _ A1.out).mono ?_); rintro e w50 ⟨rfl, hb⟩; refine ⟨_, rfl, ?_⟩; have n0_ := Aside0.mk (below_step (by repeat (first | (with_reducible first | exact HB.out | apply below_alloc | apply pw_below_drewN | apply below_drew1) | exact HB.out)) hb); clear HB; have HB := n0_; clear n0_; (try clear hb); (try clear hb2); (try clear hk); (try clear hi)) | ((with_reducible refine gate_callee (f := 22) rfl ?_); refine goesL_ (some 18) rfl rfl Tryz.func22 (by kernel_rfl) rfl #[.agg #[.string (⟨#[97]⟩ : ByteArray), .string (⟨#[118, 49, 46, 49, 48, 46, 48]⟩ : ByteArray)], .agg #[.string (⟨#[97, 47, 98]⟩ : ByteArray), .string (⟨#[118, 48, 46, 48, 46, 49]⟩ : ByteArray)]] rfl (by (try simp only [List.map_toArray, List.map_cons, List.map_nil]); first | done | rfl | (simp only [List.length_drop, List.length_take]; rfl)) ?_; (with_reducible refine (node_Cmp.calls k (⟨#[97]⟩ : ByteArray) (⟨#[118, 49, 46, 49, 48, 46, 48]⟩ : ByteArray) (⟨#[97, 47, 98]⟩ : ByteArray) (⟨#[118, 48, 46, 48, 46, 49]⟩ : ByteArray) t226 t227 _ A2.out).mono ?_); rintro e w51 ⟨rfl, hb⟩; refine ⟨_, rfl, ?_⟩; have n0_ := Aside0.mk (below_step (by repeat (first | (with_reducible first | exact HB.out | apply below_alloc | apply pw_below_drewN | apply below_drew1) | exact HB.out)) hb); clear HB; have HB := n0_; clear n0_; (try clear hb); (try clear hb2); (try clear hk); (try clear hi)) | ((with_reducible refine gate_dst (N := 24) rfl ?_); (try (refine gate_guard (by rfl) ?_; dsimp only)); refine Kd.R_lit k32 _ 32 ?hg (N := 24) ?hd (xs := ([(⟨(⟨#[97]⟩ : ByteArray), (⟨#[118, 49, 46, 57, 46, 48]⟩ : ByteArray)⟩ : S32), (⟨(⟨#[97]⟩ : ByteArray), (⟨#[118, 49, 46, 57, 46, 48]⟩ : ByteArray)⟩ : S32)] : List (S32))) (inner := [.string (⟨#[97]⟩ : ByteArray), .string (⟨#[118, 49, 46, 57, 46, 48]⟩ : ByteArray), .string (⟨#[97]⟩ : ByteArray), .string (⟨#[118, 49, 46, 57, 46, 48]⟩ : ByteArray)]) (ok := fun _ => True) (okp := fun _ => True) ?hr ?hp (fun _ hk => hk) trivial (Below.refl _ _) (Nat.le_refl _) (by simp) ?_; (case hd => rfl); (case hg => rfl); (case hr => first | (go_simp; done) | (go_simp; rfl)); (case hp => exact (Reps.c2 (show Kd.M k32 _ _ _ (⟨(⟨#[97]⟩ : ByteArray), (⟨#[118, 49, 46, 57, 46, 48]⟩ : ByteArray)⟩ : S32) [.string (⟨#[97]⟩ : ByteArray), .string (⟨#[118, 49, 46, 57, 46, 48]⟩ : ByteArray)] from (k32_mkM _ _ _ (⟨(⟨#[97]⟩ : ByteArray), (⟨#[118, 49, 46, 57, 46, 48]⟩ : ByteArray)⟩ : S32) )) (Reps.c2 (show Kd.M k32 _ _ _ (⟨(⟨#[97]⟩ : ByteArray), (⟨#[118, 49, 46, 57, 46, 48]⟩ : ByteArray)⟩ : S32) [.string (⟨#[97]⟩ : ByteArray), .string (⟨#[118, 49, 46, 57, 46, 48]⟩ : ByteArray)] from (k32_mkM _ _ _ (⟨(⟨#[97]⟩ : ByteArray), (⟨#[118, 49, 46, 57, 46, 48]⟩ : ByteArray)⟩ : S32) )) (Reps.none _ _)))); intro v229 w52 ho53 hb hg_ hnew_; clear hg_ hnew_; (first | rw [← Ny228.out] at ho53 | (simp only [Int.reduceToNat] at ho53; rw [← Ny228.out] at ho53)); have n0_ := Aside0.mk (Kd.R_lower ho53 (below_size (by repeat (first | (with_reducible first | exact HB.out | apply below_alloc | apply pw_below_drewN | apply below_drew1) | exact HB.out)))); have n1_ := Aside0.mk (below_step (by repeat (first | (with_reducible first | exact HB.out | apply below_alloc | apply pw_below_drewN | apply below_drew1) | exact HB.out)) hb); clear HB; have HO230 := n0_; have HB := n1_; clear n0_ n1_; clear hb ho53; obtain ⟨Ao54, co54, eo54⟩ := Kd.R_slice HO230.out; subst eo54) | ((with_reducible refine gate_callee (f := 13) rfl ?_); refine goesL_ (some 25) rfl rfl Tryz.func13 (by kernel_rfl) rfl #[.slice Ao54 y228.length co54] rfl (by (try simp only [List.map_toArray, List.map_cons, List.map_nil]); first | done | rfl | (simp only [List.length_drop, List.length_take]; rfl)) ?_; (with_reducible refine (node_Set.calls _ _ y228 t231 t232 _ ?side1 ?side2 A3.out).mono ?_); (case side1 => repeat (first | exact (Kd.R_reads' HO230.out).2.2 | (with_reducible refine Kd.C_alloc ?_ _) | (with_reducible refine Kd.C_drewN ?_ _) | (with_reducible refine Kd.C_drew ?_))); (case side2 => exact (Kd.R_reads' HO230.out).2.1); rintro e w55 ⟨v233, rfl, ho0, hb⟩; refine ⟨_, rfl, ?_⟩; have n0_ := Aside0.mk (Kd.R_elder' (by (with_reducible repeat (first | apply Kd.R_alloc | apply Kd.R_drewN | apply Kd.R_drew)); exact HO230.out) (Kd.R_base ho0) hb); have n1_ := Aside0.mk (Kd.R_lower (Kd.R_new' ho0 (Kd.R_lt (by (with_reducible repeat (first | apply Kd.R_alloc | apply Kd.R_drewN | apply Kd.R_drew)); exact HO230.out))) (below_size (by repeat (first | (with_reducible first | exact HB.out | apply below_alloc | apply pw_below_drewN | apply below_drew1) | exact HB.out)))); have n2_ := Aside0.mk (below_step (by repeat (first | (with_reducible first | exact HB.out | apply below_alloc | apply pw_below_drewN | apply below_drew1) | exact HB.out)) hb); clear HO230; clear HB; have HO230 := n0_; have HO234 := n1_; have HB := n2_; clear n0_ n1_ n2_; (try clear hb); (try clear hb2); (try clear hk); (try clear hi); (try clear ho0)) | ((with_reducible refine gate_callee (f := 23) rfl ?_); refine goesL_ (some 29) rfl rfl Tryz.func23 (by kernel_rfl) rfl #[.string (⟨#[97, 64]⟩ : ByteArray)] rfl (by (try simp only [List.map_toArray, List.map_cons, List.map_nil]); first | done | rfl | (simp only [List.length_drop, List.length_take]; rfl)) ?_; (with_reducible refine (node_Read.calls k (⟨#[97, 64]⟩ : ByteArray) t235 t236 t237 _ A4.out).mono ?_); rintro e w56 ⟨rfl, hb⟩; refine ⟨_, rfl, ?_⟩; have n0_ := Aside0.mk (Kd.R_below (by (with_reducible repeat (first | apply Kd.R_alloc | apply Kd.R_drewN | apply Kd.R_drew)); exact HO230.out) hb); have n1_ := Aside0.mk (Kd.R_below (by (with_reducible repeat (first | apply Kd.R_alloc | apply Kd.R_drewN | apply Kd.R_drew)); exact HO234.out) hb); have n2_ := Aside0.mk (below_step (by repeat (first | (with_reducible first | exact HB.out | apply below_alloc | apply pw_below_drewN | apply below_drew1) | exact HB.out)) hb); clear HO230; clear HO234; clear HB; have HO230 := n0_; have HO234 := n1_; have HB := n2_; clear n0_ n1_ n2_; (try clear hb); (try clear hb2); (try clear hk); (try clear hi)) | ((with_reducible refine gate_dst (N := 7) rfl ?_); (try (refine gate_guard (by rfl) ?_; dsimp only)); refine box_event ?hg (N := 7) ?hd (cs := #[.string (⟨#[]⟩ : ByteArray), .string (⟨#[]⟩ : ByteArray)]) (t := 32) ?hr ?_; (case hd => rfl); (case hg => rfl); (case hr => first | (go_simp; done) | (go_simp; rfl)); intro gb238 hg w57 hbox hb; have n0_ := Aside0.mk (Kd.R_below (Kd.R_elderB (by (with_reducible repeat (first | apply Kd.R_alloc | apply Kd.R_drewN | apply Kd.R_drew)); exact HO230.out) gb238 (Nat.le_of_eq hg.symm)) hb); have n1_ := Aside0.mk (Kd.R_below (Kd.R_elderB (by (with_reducible repeat (first | apply Kd.R_alloc | apply Kd.R_drewN | apply Kd.R_drew)); exact HO234.out) gb238 (Nat.le_of_eq hg.symm)) hb); have n2_ := Aside0.mk (below_step (by repeat (first | (with_reducible first | exact HB.out | apply below_alloc | apply pw_below_drewN | apply below_drew1) | exact HB.out)) hb); have n3_ := Aside0.mk (hbox); have n4_ := Aside0.mk ((by rw [hg]; exact (below_size (by repeat (first | (with_reducible first | exact HB.out | apply below_alloc | apply pw_below_drewN | apply below_drew1) | exact HB.out))) : w.heap.size ≤ gb238)); have n5_ := Aside0.mk ((by rw [hg]; exact (below_size (by repeat (first | (with_reducible first | exact HB.out | apply below_alloc | apply pw_below_drewN | apply below_drew1) | exact HB.out))) : w.heap.size ≤ gb238)); clear HO230; clear HO234; clear HB; have HO230 := n0_; have HO234 := n1_; have HB := n2_; have BK238 := n3_; have GW238 := n4_; have GE238 := n5_; clear n0_ n1_ n2_ n3_ n4_ n5_; clear hb hbox hg; have hcz58_0 : w57.cell? ⟨gb238, 0, none⟩ = some (.string (⟨#[]⟩ : ByteArray)) := (blk_cell BK238.out 0).trans rfl; have hcz58_1 : w57.cell? ⟨gb238, 1, none⟩ = some (.string (⟨#[]⟩ : ByteArray)) := (blk_cell BK238.out 1).trans rfl; have hfz58_0 := blk_frozen BK238.out 0; have hfz58_1 := blk_frozen BK238.out 1))
        go_ret
        exact ⟨by first | rfl | (simp [errW_none, errW_some] <;> rfl) | (simp [*, errW_none, errW_some] <;> rfl), by repeat (first | (with_reducible first | exact HB.out | apply below_alloc | apply pw_below_drewN | apply below_drew1 | refine below_set ?_ GE238.out) | exact HB.out)⟩
    · rw [if_neg c6] at H
      have c6b0 : (t225 == 0) = false := beq_eq_false_iff_ne.mpr c6
      have c6b1 : (t225 != 0) = true := bne_iff_ne.mpr c6
      obtain rfl := Option.some.inj H
      go_enter Tryz.func8, Tryz.ntmps8
      go_wp2_with (first | ((with_reducible refine gate_callee (f := 22) rfl ?_); refine goesL_ (some 12) rfl rfl Tryz.func22 (by kernel_rfl) rfl #[.agg #[.string (⟨#[97]⟩ : ByteArray), .string (⟨#[118, 49, 46, 57, 46, 48]⟩ : ByteArray)], .agg #[.string (⟨#[97]⟩ : ByteArray), .string (⟨#[118, 49, 46, 49, 48, 46, 48]⟩ : ByteArray)]] rfl (by (try simp only [List.map_toArray, List.map_cons, List.map_nil]); first | done | rfl | (simp only [List.length_drop, List.length_take]; rfl)) ?_; (with_reducible refine (node_Cmp.calls k (⟨#[97]⟩ : ByteArray) (⟨#[118, 49, 46, 57, 46, 48]⟩ : ByteArray) (⟨#[97]⟩ : ByteArray) (⟨#[118, 49, 46, 49, 48, 46, 48]⟩ : ByteArray) t224 t225 _ A1.out).mono ?_); rintro e w59 ⟨rfl, hb⟩; refine ⟨_, rfl, ?_⟩; have n0_ := Aside0.mk (below_step (by repeat (first | (with_reducible first | exact HB.out | apply below_alloc | apply pw_below_drewN | apply below_drew1) | exact HB.out)) hb); clear HB; have HB := n0_; clear n0_; (try clear hb); (try clear hb2); (try clear hk); (try clear hi)) | ((with_reducible refine gate_callee (f := 22) rfl ?_); refine goesL_ (some 18) rfl rfl Tryz.func22 (by kernel_rfl) rfl #[.agg #[.string (⟨#[97]⟩ : ByteArray), .string (⟨#[118, 49, 46, 49, 48, 46, 48]⟩ : ByteArray)], .agg #[.string (⟨#[97, 47, 98]⟩ : ByteArray), .string (⟨#[118, 48, 46, 48, 46, 49]⟩ : ByteArray)]] rfl (by (try simp only [List.map_toArray, List.map_cons, List.map_nil]); first | done | rfl | (simp only [List.length_drop, List.length_take]; rfl)) ?_; (with_reducible refine (node_Cmp.calls k (⟨#[97]⟩ : ByteArray) (⟨#[118, 49, 46, 49, 48, 46, 48]⟩ : ByteArray) (⟨#[97, 47, 98]⟩ : ByteArray) (⟨#[118, 48, 46, 48, 46, 49]⟩ : ByteArray) t226 t227 _ A2.out).mono ?_); rintro e w60 ⟨rfl, hb⟩; refine ⟨_, rfl, ?_⟩; have n0_ := Aside0.mk (below_step (by repeat (first | (with_reducible first | exact HB.out | apply below_alloc | apply pw_below_drewN | apply below_drew1) | exact HB.out)) hb); clear HB; have HB := n0_; clear n0_; (try clear hb); (try clear hb2); (try clear hk); (try clear hi)) | ((with_reducible refine gate_dst (N := 24) rfl ?_); (try (refine gate_guard (by rfl) ?_; dsimp only)); refine Kd.R_lit k32 _ 32 ?hg (N := 24) ?hd (xs := ([(⟨(⟨#[97]⟩ : ByteArray), (⟨#[118, 49, 46, 57, 46, 48]⟩ : ByteArray)⟩ : S32), (⟨(⟨#[97]⟩ : ByteArray), (⟨#[118, 49, 46, 57, 46, 48]⟩ : ByteArray)⟩ : S32)] : List (S32))) (inner := [.string (⟨#[97]⟩ : ByteArray), .string (⟨#[118, 49, 46, 57, 46, 48]⟩ : ByteArray), .string (⟨#[97]⟩ : ByteArray), .string (⟨#[118, 49, 46, 57, 46, 48]⟩ : ByteArray)]) (ok := fun _ => True) (okp := fun _ => True) ?hr ?hp (fun _ hk => hk) trivial (Below.refl _ _) (Nat.le_refl _) (by simp) ?_; (case hd => rfl); (case hg => rfl); (case hr => first | (go_simp; done) | (go_simp; rfl)); (case hp => exact (Reps.c2 (show Kd.M k32 _ _ _ (⟨(⟨#[97]⟩ : ByteArray), (⟨#[118, 49, 46, 57, 46, 48]⟩ : ByteArray)⟩ : S32) [.string (⟨#[97]⟩ : ByteArray), .string (⟨#[118, 49, 46, 57, 46, 48]⟩ : ByteArray)] from (k32_mkM _ _ _ (⟨(⟨#[97]⟩ : ByteArray), (⟨#[118, 49, 46, 57, 46, 48]⟩ : ByteArray)⟩ : S32) )) (Reps.c2 (show Kd.M k32 _ _ _ (⟨(⟨#[97]⟩ : ByteArray), (⟨#[118, 49, 46, 57, 46, 48]⟩ : ByteArray)⟩ : S32) [.string (⟨#[97]⟩ : ByteArray), .string (⟨#[118, 49, 46, 57, 46, 48]⟩ : ByteArray)] from (k32_mkM _ _ _ (⟨(⟨#[97]⟩ : ByteArray), (⟨#[118, 49, 46, 57, 46, 48]⟩ : ByteArray)⟩ : S32) )) (Reps.none _ _)))); intro v229 w61 ho62 hb hg_ hnew_; clear hg_ hnew_; (first | rw [← Ny228.out] at ho62 | (simp only [Int.reduceToNat] at ho62; rw [← Ny228.out] at ho62)); have n0_ := Aside0.mk (Kd.R_lower ho62 (below_size (by repeat (first | (with_reducible first | exact HB.out | apply below_alloc | apply pw_below_drewN | apply below_drew1) | exact HB.out)))); have n1_ := Aside0.mk (below_step (by repeat (first | (with_reducible first | exact HB.out | apply below_alloc | apply pw_below_drewN | apply below_drew1) | exact HB.out)) hb); clear HB; have HO230 := n0_; have HB := n1_; clear n0_ n1_; clear hb ho62; obtain ⟨Ao63, co63, eo63⟩ := Kd.R_slice HO230.out; subst eo63) | ((with_reducible refine gate_callee (f := 13) rfl ?_); refine goesL_ (some 25) rfl rfl Tryz.func13 (by kernel_rfl) rfl #[.slice Ao63 y228.length co63] rfl (by (try simp only [List.map_toArray, List.map_cons, List.map_nil]); first | done | rfl | (simp only [List.length_drop, List.length_take]; rfl)) ?_; (with_reducible refine (node_Set.calls _ _ y228 t231 t232 _ ?side1 ?side2 A3.out).mono ?_); (case side1 => repeat (first | exact (Kd.R_reads' HO230.out).2.2 | (with_reducible refine Kd.C_alloc ?_ _) | (with_reducible refine Kd.C_drewN ?_ _) | (with_reducible refine Kd.C_drew ?_))); (case side2 => exact (Kd.R_reads' HO230.out).2.1); rintro e w64 ⟨v233, rfl, ho0, hb⟩; refine ⟨_, rfl, ?_⟩; have n0_ := Aside0.mk (Kd.R_elder' (by (with_reducible repeat (first | apply Kd.R_alloc | apply Kd.R_drewN | apply Kd.R_drew)); exact HO230.out) (Kd.R_base ho0) hb); have n1_ := Aside0.mk (Kd.R_lower (Kd.R_new' ho0 (Kd.R_lt (by (with_reducible repeat (first | apply Kd.R_alloc | apply Kd.R_drewN | apply Kd.R_drew)); exact HO230.out))) (below_size (by repeat (first | (with_reducible first | exact HB.out | apply below_alloc | apply pw_below_drewN | apply below_drew1) | exact HB.out)))); have n2_ := Aside0.mk (below_step (by repeat (first | (with_reducible first | exact HB.out | apply below_alloc | apply pw_below_drewN | apply below_drew1) | exact HB.out)) hb); clear HO230; clear HB; have HO230 := n0_; have HO234 := n1_; have HB := n2_; clear n0_ n1_ n2_; (try clear hb); (try clear hb2); (try clear hk); (try clear hi); (try clear ho0)) | ((with_reducible refine gate_callee (f := 23) rfl ?_); refine goesL_ (some 29) rfl rfl Tryz.func23 (by kernel_rfl) rfl #[.string (⟨#[97, 64]⟩ : ByteArray)] rfl (by (try simp only [List.map_toArray, List.map_cons, List.map_nil]); first | done | rfl | (simp only [List.length_drop, List.length_take]; rfl)) ?_; (with_reducible refine (node_Read.calls k (⟨#[97, 64]⟩ : ByteArray) t235 t236 t237 _ A4.out).mono ?_); rintro e w65 ⟨rfl, hb⟩; refine ⟨_, rfl, ?_⟩; have n0_ := Aside0.mk (Kd.R_below (by (with_reducible repeat (first | apply Kd.R_alloc | apply Kd.R_drewN | apply Kd.R_drew)); exact HO230.out) hb); have n1_ := Aside0.mk (Kd.R_below (by (with_reducible repeat (first | apply Kd.R_alloc | apply Kd.R_drewN | apply Kd.R_drew)); exact HO234.out) hb); have n2_ := Aside0.mk (below_step (by repeat (first | (with_reducible first | exact HB.out | apply below_alloc | apply pw_below_drewN | apply below_drew1) | exact HB.out)) hb); clear HO230; clear HO234; clear HB; have HO230 := n0_; have HO234 := n1_; have HB := n2_; clear n0_ n1_ n2_; (try clear hb); (try clear hb2); (try clear hk); (try clear hi)) | ((with_reducible refine gate_dst (N := 7) rfl ?_); (try (refine gate_guard (by rfl) ?_; dsimp only)); refine box_event ?hg (N := 7) ?hd (cs := #[.string (⟨#[]⟩ : ByteArray), .string (⟨#[]⟩ : ByteArray)]) (t := 32) ?hr ?_; (case hd => rfl); (case hg => rfl); (case hr => first | (go_simp; done) | (go_simp; rfl)); intro gb238 hg w66 hbox hb; have n0_ := Aside0.mk (Kd.R_below (Kd.R_elderB (by (with_reducible repeat (first | apply Kd.R_alloc | apply Kd.R_drewN | apply Kd.R_drew)); exact HO230.out) gb238 (Nat.le_of_eq hg.symm)) hb); have n1_ := Aside0.mk (Kd.R_below (Kd.R_elderB (by (with_reducible repeat (first | apply Kd.R_alloc | apply Kd.R_drewN | apply Kd.R_drew)); exact HO234.out) gb238 (Nat.le_of_eq hg.symm)) hb); have n2_ := Aside0.mk (below_step (by repeat (first | (with_reducible first | exact HB.out | apply below_alloc | apply pw_below_drewN | apply below_drew1) | exact HB.out)) hb); have n3_ := Aside0.mk (hbox); have n4_ := Aside0.mk ((by rw [hg]; exact (below_size (by repeat (first | (with_reducible first | exact HB.out | apply below_alloc | apply pw_below_drewN | apply below_drew1) | exact HB.out))) : w.heap.size ≤ gb238)); have n5_ := Aside0.mk ((by rw [hg]; exact (below_size (by repeat (first | (with_reducible first | exact HB.out | apply below_alloc | apply pw_below_drewN | apply below_drew1) | exact HB.out))) : w.heap.size ≤ gb238)); clear HO230; clear HO234; clear HB; have HO230 := n0_; have HO234 := n1_; have HB := n2_; have BK238 := n3_; have GW238 := n4_; have GE238 := n5_; clear n0_ n1_ n2_ n3_ n4_ n5_; clear hb hbox hg; have hcz67_0 : w66.cell? ⟨gb238, 0, none⟩ = some (.string (⟨#[]⟩ : ByteArray)) := (blk_cell BK238.out 0).trans rfl; have hcz67_1 : w66.cell? ⟨gb238, 1, none⟩ = some (.string (⟨#[]⟩ : ByteArray)) := (blk_cell BK238.out 1).trans rfl; have hfz67_0 := blk_frozen BK238.out 0; have hfz67_1 := blk_frozen BK238.out 1))
      go_ret
      exact ⟨by first | rfl | (simp [errW_none, errW_some] <;> rfl) | (simp [*, errW_none, errW_some] <;> rfl), by repeat (first | (with_reducible first | exact HB.out | apply below_alloc | apply pw_below_drewN | apply below_drew1 | refine below_set ?_ GE238.out) | exact HB.out)⟩
  · rw [if_neg c5] at H
    have c5b0 : (t224 == (-1)) = false := beq_eq_false_iff_ne.mpr c5
    have c5b1 : (t224 != (-1)) = true := bne_iff_ne.mpr c5
    obtain rfl := Option.some.inj H
    go_enter Tryz.func8, Tryz.ntmps8
    go_wp2_with (first | ((with_reducible refine gate_callee (f := 22) rfl ?_); refine goesL_ (some 12) rfl rfl Tryz.func22 (by kernel_rfl) rfl #[.agg #[.string (⟨#[97]⟩ : ByteArray), .string (⟨#[118, 49, 46, 57, 46, 48]⟩ : ByteArray)], .agg #[.string (⟨#[97]⟩ : ByteArray), .string (⟨#[118, 49, 46, 49, 48, 46, 48]⟩ : ByteArray)]] rfl (by (try simp only [List.map_toArray, List.map_cons, List.map_nil]); first | done | rfl | (simp only [List.length_drop, List.length_take]; rfl)) ?_; (with_reducible refine (node_Cmp.calls k (⟨#[97]⟩ : ByteArray) (⟨#[118, 49, 46, 57, 46, 48]⟩ : ByteArray) (⟨#[97]⟩ : ByteArray) (⟨#[118, 49, 46, 49, 48, 46, 48]⟩ : ByteArray) t224 t225 _ A1.out).mono ?_); rintro e w68 ⟨rfl, hb⟩; refine ⟨_, rfl, ?_⟩; have n0_ := Aside0.mk (below_step (by repeat (first | (with_reducible first | exact HB.out | apply below_alloc | apply pw_below_drewN | apply below_drew1) | exact HB.out)) hb); clear HB; have HB := n0_; clear n0_; (try clear hb); (try clear hb2); (try clear hk); (try clear hi)) | ((with_reducible refine gate_callee (f := 22) rfl ?_); refine goesL_ (some 18) rfl rfl Tryz.func22 (by kernel_rfl) rfl #[.agg #[.string (⟨#[97]⟩ : ByteArray), .string (⟨#[118, 49, 46, 49, 48, 46, 48]⟩ : ByteArray)], .agg #[.string (⟨#[97, 47, 98]⟩ : ByteArray), .string (⟨#[118, 48, 46, 48, 46, 49]⟩ : ByteArray)]] rfl (by (try simp only [List.map_toArray, List.map_cons, List.map_nil]); first | done | rfl | (simp only [List.length_drop, List.length_take]; rfl)) ?_; (with_reducible refine (node_Cmp.calls k (⟨#[97]⟩ : ByteArray) (⟨#[118, 49, 46, 49, 48, 46, 48]⟩ : ByteArray) (⟨#[97, 47, 98]⟩ : ByteArray) (⟨#[118, 48, 46, 48, 46, 49]⟩ : ByteArray) t226 t227 _ A2.out).mono ?_); rintro e w69 ⟨rfl, hb⟩; refine ⟨_, rfl, ?_⟩; have n0_ := Aside0.mk (below_step (by repeat (first | (with_reducible first | exact HB.out | apply below_alloc | apply pw_below_drewN | apply below_drew1) | exact HB.out)) hb); clear HB; have HB := n0_; clear n0_; (try clear hb); (try clear hb2); (try clear hk); (try clear hi)) | ((with_reducible refine gate_dst (N := 24) rfl ?_); (try (refine gate_guard (by rfl) ?_; dsimp only)); refine Kd.R_lit k32 _ 32 ?hg (N := 24) ?hd (xs := ([(⟨(⟨#[97]⟩ : ByteArray), (⟨#[118, 49, 46, 57, 46, 48]⟩ : ByteArray)⟩ : S32), (⟨(⟨#[97]⟩ : ByteArray), (⟨#[118, 49, 46, 57, 46, 48]⟩ : ByteArray)⟩ : S32)] : List (S32))) (inner := [.string (⟨#[97]⟩ : ByteArray), .string (⟨#[118, 49, 46, 57, 46, 48]⟩ : ByteArray), .string (⟨#[97]⟩ : ByteArray), .string (⟨#[118, 49, 46, 57, 46, 48]⟩ : ByteArray)]) (ok := fun _ => True) (okp := fun _ => True) ?hr ?hp (fun _ hk => hk) trivial (Below.refl _ _) (Nat.le_refl _) (by simp) ?_; (case hd => rfl); (case hg => rfl); (case hr => first | (go_simp; done) | (go_simp; rfl)); (case hp => exact (Reps.c2 (show Kd.M k32 _ _ _ (⟨(⟨#[97]⟩ : ByteArray), (⟨#[118, 49, 46, 57, 46, 48]⟩ : ByteArray)⟩ : S32) [.string (⟨#[97]⟩ : ByteArray), .string (⟨#[118, 49, 46, 57, 46, 48]⟩ : ByteArray)] from (k32_mkM _ _ _ (⟨(⟨#[97]⟩ : ByteArray), (⟨#[118, 49, 46, 57, 46, 48]⟩ : ByteArray)⟩ : S32) )) (Reps.c2 (show Kd.M k32 _ _ _ (⟨(⟨#[97]⟩ : ByteArray), (⟨#[118, 49, 46, 57, 46, 48]⟩ : ByteArray)⟩ : S32) [.string (⟨#[97]⟩ : ByteArray), .string (⟨#[118, 49, 46, 57, 46, 48]⟩ : ByteArray)] from (k32_mkM _ _ _ (⟨(⟨#[97]⟩ : ByteArray), (⟨#[118, 49, 46, 57, 46, 48]⟩ : ByteArray)⟩ : S32) )) (Reps.none _ _)))); intro v229 w70 ho71 hb hg_ hnew_; clear hg_ hnew_; (first | rw [← Ny228.out] at ho71 | (simp only [Int.reduceToNat] at ho71; rw [← Ny228.out] at ho71)); have n0_ := Aside0.mk (Kd.R_lower ho71 (below_size (by repeat (first | (with_reducible first | exact HB.out | apply below_alloc | apply pw_below_drewN | apply below_drew1) | exact HB.out)))); have n1_ := Aside0.mk (below_step (by repeat (first | (with_reducible first | exact HB.out | apply below_alloc | apply pw_below_drewN | apply below_drew1) | exact HB.out)) hb); clear HB; have HO230 := n0_; have HB := n1_; clear n0_ n1_; clear hb ho71; obtain ⟨Ao72, co72, eo72⟩ := Kd.R_slice HO230.out; subst eo72) | ((with_reducible refine gate_callee (f := 13) rfl ?_); refine goesL_ (some 25) rfl rfl Tryz.func13 (by kernel_rfl) rfl #[.slice Ao72 y228.length co72] rfl (by (try simp only [List.map_toArray, List.map_cons, List.map_nil]); first | done | rfl | (simp only [List.length_drop, List.length_take]; rfl)) ?_; (with_reducible refine (node_Set.calls _ _ y228 t231 t232 _ ?side1 ?side2 A3.out).mono ?_); (case side1 => repeat (first | exact (Kd.R_reads' HO230.out).2.2 | (with_reducible refine Kd.C_alloc ?_ _) | (with_reducible refine Kd.C_drewN ?_ _) | (with_reducible refine Kd.C_drew ?_))); (case side2 => exact (Kd.R_reads' HO230.out).2.1); rintro e w73 ⟨v233, rfl, ho0, hb⟩; refine ⟨_, rfl, ?_⟩; have n0_ := Aside0.mk (Kd.R_elder' (by (with_reducible repeat (first | apply Kd.R_alloc | apply Kd.R_drewN | apply Kd.R_drew)); exact HO230.out) (Kd.R_base ho0) hb); have n1_ := Aside0.mk (Kd.R_lower (Kd.R_new' ho0 (Kd.R_lt (by (with_reducible repeat (first | apply Kd.R_alloc | apply Kd.R_drewN | apply Kd.R_drew)); exact HO230.out))) (below_size (by repeat (first | (with_reducible first | exact HB.out | apply below_alloc | apply pw_below_drewN | apply below_drew1) | exact HB.out)))); have n2_ := Aside0.mk (below_step (by repeat (first | (with_reducible first | exact HB.out | apply below_alloc | apply pw_below_drewN | apply below_drew1) | exact HB.out)) hb); clear HO230; clear HB; have HO230 := n0_; have HO234 := n1_; have HB := n2_; clear n0_ n1_ n2_; (try clear hb); (try clear hb2); (try clear hk); (try clear hi); (try clear ho0)) | ((with_reducible refine gate_callee (f := 23) rfl ?_); refine goesL_ (some 29) rfl rfl Tryz.func23 (by kernel_rfl) rfl #[.string (⟨#[97, 64]⟩ : ByteArray)] rfl (by (try simp only [List.map_toArray, List.map_cons, List.map_nil]); first | done | rfl | (simp only [List.length_drop, List.length_take]; rfl)) ?_; (with_reducible refine (node_Read.calls k (⟨#[97, 64]⟩ : ByteArray) t235 t236 t237 _ A4.out).mono ?_); rintro e w74 ⟨rfl, hb⟩; refine ⟨_, rfl, ?_⟩; have n0_ := Aside0.mk (Kd.R_below (by (with_reducible repeat (first | apply Kd.R_alloc | apply Kd.R_drewN | apply Kd.R_drew)); exact HO230.out) hb); have n1_ := Aside0.mk (Kd.R_below (by (with_reducible repeat (first | apply Kd.R_alloc | apply Kd.R_drewN | apply Kd.R_drew)); exact HO234.out) hb); have n2_ := Aside0.mk (below_step (by repeat (first | (with_reducible first | exact HB.out | apply below_alloc | apply pw_below_drewN | apply below_drew1) | exact HB.out)) hb); clear HO230; clear HO234; clear HB; have HO230 := n0_; have HO234 := n1_; have HB := n2_; clear n0_ n1_ n2_; (try clear hb); (try clear hb2); (try clear hk); (try clear hi)) | ((with_reducible refine gate_dst (N := 7) rfl ?_); (try (refine gate_guard (by rfl) ?_; dsimp only)); refine box_event ?hg (N := 7) ?hd (cs := #[.string (⟨#[]⟩ : ByteArray), .string (⟨#[]⟩ : ByteArray)]) (t := 32) ?hr ?_; (case hd => rfl); (case hg => rfl); (case hr => first | (go_simp; done) | (go_simp; rfl)); intro gb238 hg w75 hbox hb; have n0_ := Aside0.mk (Kd.R_below (Kd.R_elderB (by (with_reducible repeat (first | apply Kd.R_alloc | apply Kd.R_drewN | apply Kd.R_drew)); exact HO230.out) gb238 (Nat.le_of_eq hg.symm)) hb); have n1_ := Aside0.mk (Kd.R_below (Kd.R_elderB (by (with_reducible repeat (first | apply Kd.R_alloc | apply Kd.R_drewN | apply Kd.R_drew)); exact HO234.out) gb238 (Nat.le_of_eq hg.symm)) hb); have n2_ := Aside0.mk (below_step (by repeat (first | (with_reducible first | exact HB.out | apply below_alloc | apply pw_below_drewN | apply below_drew1) | exact HB.out)) hb); have n3_ := Aside0.mk (hbox); have n4_ := Aside0.mk ((by rw [hg]; exact (below_size (by repeat (first | (with_reducible first | exact HB.out | apply below_alloc | apply pw_below_drewN | apply below_drew1) | exact HB.out))) : w.heap.size ≤ gb238)); have n5_ := Aside0.mk ((by rw [hg]; exact (below_size (by repeat (first | (with_reducible first | exact HB.out | apply below_alloc | apply pw_below_drewN | apply below_drew1) | exact HB.out))) : w.heap.size ≤ gb238)); clear HO230; clear HO234; clear HB; have HO230 := n0_; have HO234 := n1_; have HB := n2_; have BK238 := n3_; have GW238 := n4_; have GE238 := n5_; clear n0_ n1_ n2_ n3_ n4_ n5_; clear hb hbox hg; have hcz76_0 : w75.cell? ⟨gb238, 0, none⟩ = some (.string (⟨#[]⟩ : ByteArray)) := (blk_cell BK238.out 0).trans rfl; have hcz76_1 : w75.cell? ⟨gb238, 1, none⟩ = some (.string (⟨#[]⟩ : ByteArray)) := (blk_cell BK238.out 1).trans rfl; have hfz76_0 := blk_frozen BK238.out 0; have hfz76_1 := blk_frozen BK238.out 1))
    go_ret
    exact ⟨by first | rfl | (simp [errW_none, errW_some] <;> rfl) | (simp [*, errW_none, errW_some] <;> rfl), by repeat (first | (with_reducible first | exact HB.out | apply below_alloc | apply pw_below_drewN | apply below_drew1 | refine below_set ?_ GE238.out) | exact HB.out)⟩
end Go.Proofs.YtnknjhdpjjddeaaGreatDoor.Q
end

section
namespace Go.Proofs.YtnknjhdpjjddeaaGreatDoor.Q
open Go.RowKit Go.Proofs.YtnknjhdpjjddeaaGreatDoorW.PrintWords Go.Proofs.YtnknjhdpjjddeaaGreatDoorW.PrintLast Go.Proofs.YtnknjhdpjjddeaaGreatDoorW.PrintMore
attribute [local go_sem] max2_int min2_int max_two min_two max_three min_three max_four min_four   -- for this text's walks alone
set_option linter.unusedVariables false
set_option linter.unusedSimpArgs false
/-! ### node_Has: function 16 -/
def node_Has.f (l0 : List (S32)) (a1_0 : ByteArray) (a1_1 : ByteArray) : Option (Bool × Int) := (node_find.f l0 a1_0 a1_1).bind fun bt288 => (some (bt288.2.1, bt288.2.2))
set_option maxHeartbeats 8000000 in
set_option maxRecDepth 100000 in
theorem node_Has.calls (A0 : Option Addr) (c0 : Nat) (l0 : List (S32)) (a1_0 : ByteArray) (a1_1 : ByteArray) (r1 : Bool) (r2 : Int) (w : World) (hr0 : Kd.C k32 w A0 l0.length l0) (hc0 : l0.length ≤ c0) (h : node_Has.f l0 a1_0 a1_1 = some (r1, r2)) :
    Calls Tryz.prog 16 #[.slice A0 l0.length c0, .agg #[.string a1_0, .string a1_1]] w fun e w' => e = .returned (.tuple #[.bool r1, .int .i64 r2]) ∧ Below w.heap.size w w' := by
  have hu32 := Tryz.underlying32
  have HR0 := Aside0.mk hr0
  have HC0 := Aside0.mk hc0
  clear hr0 hc0
  have HB := Aside0.mk (Below.refl w.heap.size w)
  have H : ((node_find.f l0 a1_0 a1_1).bind fun bt288 => (some (bt288.2.1, bt288.2.2))) = some (r1, r2) := h
  clear h
  replace H := Option.bind_eq_some_iff.mp H
  obtain ⟨⟨t288, t289, t290⟩, A30, H⟩ := H
  replace H : (some (t289, t290)) = some (r1, r2) := H
  have A3 := Aside0.mk A30
  clear A30
  simp only [Option.some.injEq, Prod.mk.injEq] at H
  obtain ⟨rfl, rfl⟩ := H
  go_enter Tryz.func16, Tryz.ntmps16
  go_wp2_with (first | ((with_reducible refine gate_dst (N := 3) rfl ?_); refine box_event ?hg (N := 3) ?hd (cs := #[.string a1_0, .string a1_1]) (t := 32) ?hr ?_; (case hd => rfl); (case hg => rfl); (case hr => first | (go_simp; done) | (go_simp; rfl)); intro gb287 hg w4 hbox hb; have n0_ := Aside0.mk (below_step (by repeat (first | (with_reducible first | exact HB.out | apply below_alloc | apply pw_below_drewN | apply below_drew1) | exact HB.out)) hb); have n1_ := Aside0.mk (hbox); have n2_ := Aside0.mk ((by rw [hg]; exact (below_size (by repeat (first | (with_reducible first | exact HB.out | apply below_alloc | apply pw_below_drewN | apply below_drew1) | exact HB.out))) : w.heap.size ≤ gb287)); have n3_ := Aside0.mk ((by rw [hg]; exact (below_size (by repeat (first | (with_reducible first | exact HB.out | apply below_alloc | apply pw_below_drewN | apply below_drew1) | exact HB.out))) : w.heap.size ≤ gb287)); clear HB; have HB := n0_; have BK287 := n1_; have GW287 := n2_; have GE287 := n3_; clear n0_ n1_ n2_ n3_; clear hb hbox hg; have hcz5_0 : w4.cell? ⟨gb287, 0, none⟩ = some (.string a1_0) := (blk_cell BK287.out 0).trans rfl; have hcz5_1 : w4.cell? ⟨gb287, 1, none⟩ = some (.string a1_1) := (blk_cell BK287.out 1).trans rfl; have hfz5_0 := blk_frozen BK287.out 0; have hfz5_1 := blk_frozen BK287.out 1) | ((with_reducible refine gate_callee (f := 30) rfl ?_); refine goesL_ (some 12) rfl rfl Tryz.func30 (by kernel_rfl) rfl #[.slice A0 l0.length c0, .agg #[.string a1_0, .string a1_1]] rfl (by (try simp only [List.map_toArray, List.map_cons, List.map_nil]); first | done | rfl | (simp only [List.length_drop, List.length_take]; rfl)) ?_; (with_reducible refine (node_find.calls _ _ l0 a1_0 a1_1 t288 t289 t290 _ ?side1 ?side2 A3.out).mono ?_); (case side1 => repeat (first | exact (Kd.C_below HR0.out HB.out) | (with_reducible refine Kd.C_alloc ?_ _) | (with_reducible refine Kd.C_drewN ?_ _) | (with_reducible refine Kd.C_drew ?_))); (case side2 => exact HC0.out); rintro e w6 ⟨rfl, hb⟩; refine ⟨_, rfl, ?_⟩; have n0_ := Aside0.mk (blk_below (g := gb287) (o := .cells #[.string a1_0, .string a1_1] 32 (0, 0)) (by (with_reducible repeat (first | refine blk_drewN ?_ _ | refine blk_drew ?_ | refine blk_alloc ?_ _)); exact BK287.out) hb); have n1_ := Aside0.mk (below_step (by repeat (first | (with_reducible first | exact HB.out | apply below_alloc | apply pw_below_drewN | apply below_drew1 | refine below_set ?_ GE287.out) | exact HB.out)) hb); clear BK287; clear HB; have BK287 := n0_; have HB := n1_; clear n0_ n1_; (try clear hb); (try clear hb2); (try clear hk); (try clear hi)))
  go_ret2
  exact ⟨by first | rfl | (simp [errW_none, errW_some] <;> rfl) | (simp [*, errW_none, errW_some] <;> rfl), by repeat (first | (with_reducible first | exact HB.out | apply below_alloc | apply pw_below_drewN | apply below_drew1 | refine below_set ?_ GE287.out) | exact HB.out)⟩
end Go.Proofs.YtnknjhdpjjddeaaGreatDoor.Q
end

section
namespace Go.Proofs.YtnknjhdpjjddeaaGreatDoor.Q
open Go Go.RowKit Go.Lib Go.Proofs.YtnknjhdpjjddeaaGreatDoorW.PrintWords Go.Proofs.YtnknjhdpjjddeaaGreatDoorW.PrintLast Go.Proofs.YtnknjhdpjjddeaaGreatDoorW.PrintMore Gw
set_option linter.unusedVariables false
set_option linter.unusedSimpArgs false
def cmpM (x y : S32) : Int × Int := if mayN x && mayN y then (ordN x y, 0) else (0, 1)
theorem node_Cmp_val (k : Nat) (x y : S32) (hx : Brief x) (hy : Brief y) (hk : 500 ≤ k) : node_Cmp.f k x.f0 x.f1 y.f0 y.f1 = some (cmpM x y) := by
  obtain ⟨j, rfl⟩ : ∃ j, k = j + 3 := ⟨k - 3, by omega⟩
  unfold node_Cmp.f cmpM
  rw [node_May_val _ x hx.tiny (by have := hx.1; omega), node_May_val _ y hy.tiny (by have := hy.1; omega)]
  cases hmx : mayN x
  · rfl
  · cases hmy : mayN y
    · rfl
    · simp only [Option.bind_some, if_true, Bool.and_self]
      rw [order_val j x y (mayN_good hx.tiny hmx) (mayN_good hy.tiny hmy)]
      rfl
end Go.Proofs.YtnknjhdpjjddeaaGreatDoor.Q
end

section
namespace Go.Proofs.YtnknjhdpjjddeaaGreatDoor.Q
open Go.Proofs.YtnknjhdpjjddeaaGreatDoor.QB.D
open Go Go.RowKit Go.Lib Go.Proofs.YtnknjhdpjjddeaaGreatDoorW.PrintWords Go.Proofs.YtnknjhdpjjddeaaGreatDoorW.PrintLast Go.Proofs.YtnknjhdpjjddeaaGreatDoorW.PrintMore Gw
set_option linter.unusedVariables false
set_option linter.unusedSimpArgs false
/-- The texts @, and the nodes, of the chapter's examples. -/
def nA : S32 := ⟨⟨#[97]⟩, ⟨#[118, 49, 46, 57, 46, 48]⟩⟩
def nB : S32 := ⟨⟨#[97]⟩, ⟨#[118, 49, 46, 49, 48, 46, 48]⟩⟩
def nC : S32 := ⟨⟨#[97, 47, 98]⟩, ⟨#[118, 48, 46, 48, 46, 49]⟩⟩
theorem readM_val (k : Nat) (s : ByteArray) (hs : s.size ≤ 1000) (hk : 1100 ≤ k) : node_Read.f k s = some (let p := cutOut (cutAt 64 (bs s)); if mayN ⟨p.1, p.2.1⟩ then (p.1, p.2.1, 0) else ((⟨#[]⟩ : ByteArray), (⟨#[]⟩ : ByteArray), 1)) := by
  have hcs : ∀ l : List Nat, (cutAt 64 l).1.length ≤ l.length ∧ (∀ r, (cutAt 64 l).2 = some r → r.length ≤ l.length) := by
    intro l
    induction l with
    | nil => simp [cutAt]
    | cons x r ih =>
      unfold cutAt
      split
      · refine ⟨by simp, fun r' h => ?_⟩
        injection h with h
        subst h
        simp
      · exact ⟨by simp; exact ih.1, fun r' h => by have := ih.2 r' h; simp; omega⟩
  have hof : ∀ l : List Nat, (ofB l).size = l.length := fun l => by
    show (l.map UInt8.ofNat).toArray.size = l.length
    simp
  have h1 := hcs (bs s)
  rw [bs_length] at h1
  have hsz : (cutOut (cutAt 64 (bs s))).1.size ≤ s.size ∧ (cutOut (cutAt 64 (bs s))).2.1.size ≤ s.size := by
    rcases hc : cutAt 64 (bs s) with ⟨a, _ | b⟩
    · rw [hc] at h1
      exact ⟨by show (ofB a).size ≤ _; rw [hof]; exact h1.1, by show (⟨#[]⟩ : ByteArray).size ≤ _; exact Nat.zero_le _⟩
    · rw [hc] at h1
      exact ⟨by show (ofB a).size ≤ _; rw [hof]; exact h1.1, by show (ofB b).size ≤ _; rw [hof]; exact h1.2 b rfl⟩
  unfold node_Read.f strings_Cut.f
  rw [if_pos ⟨by unfold Tiny; omega, rfl⟩, Option.bind_some]
  have e : (bs (⟨#[64]⟩ : ByteArray)).headD 0 = 64 := by decide +kernel
  rw [e]
  generalize cutOut (cutAt 64 (bs s)) = p at hsz ⊢
  have hm := node_May_val k ⟨p.1, p.2.1⟩ (by unfold TinyN Tiny; simp only []; omega) (by simp only []; omega)
  simp only [] at hm
  rw [hm]
  simp only [Option.bind_some]
  split <;> rfl
theorem awake_val (k : Nat) (hk : 1100 ≤ k) : graftwoodlaw05_awake.f k = some true := by
  have b1 : Brief nA := by unfold Brief nA; decide
  have b2 : Brief nB := by unfold Brief nB; decide
  have b3 : Brief nC := by unfold Brief nC; decide
  have h1 := node_Cmp_val k nA nB b1 b2 (by omega)
  have h2 := node_Cmp_val k nB nC b2 b3 (by omega)
  have e1 : cmpM nA nB = (-1, 0) := by decide +kernel
  have e2 : cmpM nB nC = (-1, 0) := by decide +kernel
  rw [e1] at h1
  rw [e2] at h2
  have h3 : node_Set.f [nA, nA] = some ([nA], 0) := by
    unfold node_Set.f
    rw [if_pos ⟨by decide, fun x hx => by simp at hx; subst hx; exact b1.tiny⟩]
    have e3 : ([nA, nA] : List S32).all mayN = true := by decide +kernel
    rw [if_pos e3]
    rfl
  have h4 := readM_val k ⟨#[97, 64]⟩ (by decide) hk
  have e4 : (let p := cutOut (cutAt 64 (bs (⟨#[97, 64]⟩ : ByteArray))); if mayN ⟨p.1, p.2.1⟩ then (p.1, p.2.1, 0) else ((⟨#[]⟩ : ByteArray), (⟨#[]⟩ : ByteArray), (1 : Int))) = ((⟨#[]⟩ : ByteArray), (⟨#[]⟩ : ByteArray), 1) := by
    have : mayN ⟨(cutOut (cutAt 64 (bs (⟨#[97, 64]⟩ : ByteArray)))).1, (cutOut (cutAt 64 (bs (⟨#[97, 64]⟩ : ByteArray)))).2.1⟩ = false := by decide +kernel
    simp only [this]
    rfl
  rw [e4] at h4
  unfold graftwoodlaw05_awake.f
  unfold nA nB nC at *
  simp only [] at h1 h2
  rw [h1, Option.bind_some, h2, Option.bind_some, h3, Option.bind_some, h4, Option.bind_some]
  rfl
end Go.Proofs.YtnknjhdpjjddeaaGreatDoor.Q
end

section
namespace Go.Proofs.YtnknjhdpjjddeaaGreatDoor.Q
open Go.RowKit Go.Proofs.YtnknjhdpjjddeaaGreatDoorW.PrintWords Go.Proofs.YtnknjhdpjjddeaaGreatDoorW.PrintLast Go.Proofs.YtnknjhdpjjddeaaGreatDoorW.PrintMore Gw
set_option linter.unusedVariables false
def cutFrom (l : List Nat) (n : Nat) : Nat := n + (cutDash (l.drop n)).1.length
abbrev V4 := ByteArray × ByteArray × ByteArray × List ByteArray × Bool
def zeroV : V4 := (⟨#[]⟩, ⟨#[]⟩, ⟨#[]⟩, [], false)
def SplitPost (v : V4) (w : World) (e : Ending) (w' : World) : Prop := ∃ u : Value, e = .returned (.tuple #[.agg #[.string v.1, .string v.2.1, .string v.2.2.1, u], .bool v.2.2.2.2]) ∧ Kd.R Kd.string 9 w' w.heap.size (fun _ => True) u v.2.2.2.1 ∧ Below w.heap.size w w'
theorem parts_any (s : ByteArray) (hs : Small s) (sep : Nat) (w : World) : Calls Tryz.prog 36 #[.string s, .int .u8 (sep : Int)] w fun e w' => ∃ v, e = .returned v ∧ Kd.R Kd.string 9 w' w.heap.size (fun _ => True) v ((parts sep (bs s)).map ofB) ∧ Below w.heap.size w w' :=
  graftwoodref01_Parts.calls (s.size + 1) s sep _ w (Parts_tot s hs sep _ (by omega))
theorem cutFrom_step {l : List Nat} {n c : Nat} {r : List Nat} (h : l.drop n = c :: r) : cutFrom l n = if c = 45 then n else cutFrom l (n + 1) := by
  have h2 : l.drop (n + 1) = r := by rw [← List.drop_drop, h]; rfl
  unfold cutFrom
  rw [h, h2]
  by_cases hc : c = 45
  · simp [cutDash, hc]
  · simp [cutDash, hc]; omega
theorem may_any (s : ByteArray) (hs : Small s) (w : World) : Calls Tryz.prog 51 #[.string s] w fun e w' => e = .returned (.bool (isNum (bs s))) ∧ Drawn0 w w' :=
  graftwoodref02_May.calls (s.size + 1) s _ w (ref2May_tot s hs _ (by omega))
theorem word_any (s : ByteArray) (hs : Small s) (w : World) : Calls Tryz.prog 52 #[.string s] w fun e w' => e = .returned (.bool (isWord (bs s))) ∧ Drawn0 w w' :=
  graftwoodref03_Word.calls (2 * s.size + 7) s _ w (Word_tot s hs _ (by omega))
theorem parts46 (s : ByteArray) (hs : Small s) (w : World) : Calls Tryz.prog 36 #[.string s, .int .u8 46] w fun e w' => ∃ v, e = .returned v ∧ Kd.R Kd.string 9 w' w.heap.size (fun _ => True) v ((parts 46 (bs s)).map ofB) ∧ Below w.heap.size w w' := parts_any s hs 46 w
theorem R_cells {w : World} {base : Nat} {ok : Nat → Prop} {v : Value} {xs : List ByteArray} (h : Kd.R Kd.string 9 w base ok v xs) (hp : 0 < xs.length) : ∃ g c, v = .slice (some ⟨g, 0, none⟩) xs.length c ∧ base ≤ g ∧ g < w.heap.size ∧ ∀ i (hi : i < xs.length), w.cell? ⟨g, i, none⟩ = some (.string (xs[i])) := by
  obtain ⟨g, cap, rfl, h1, h2, _⟩ := Kd.R_form h hp
  refine ⟨g, cap, rfl, h1, h2, fun i hi => ?_⟩
  obtain ⟨ad, he, hc⟩ := Kd.at_string (Kd.R_reads' h).2.2 (i : Int) (by omega) (by omega)
  injection he with he
  subst he
  rw [add_plain, Int.toNat_natCast] at hc
  rw [hc]
  simp [rdOf, List.getD_eq_getElem?_getD, List.getElem?_eq_getElem hi]
theorem two_blocks {w w1 : World} {A B : Array Value} {t u : TypeId} (hb : Below ((w.alloc (.cells A t)).alloc (.cells B u)).heap.size ((w.alloc (.cells A t)).alloc (.cells B u)) w1) :
    (∀ i, w1.cell? ⟨w.heap.size, i, none⟩ = A[i]?) ∧ (∀ i, w1.cell? ⟨w.heap.size + 1, i, none⟩ = B[i]?) ∧ (∀ i, w1.frozen? ⟨w.heap.size, i, none⟩ = false) ∧ (∀ i, w1.frozen? ⟨w.heap.size + 1, i, none⟩ = false) ∧ w.heap.size + 1 < w1.heap.size := by
  have h1 := (hb.block w.heap.size (by simp; omega)).trans (heap_alloc2_old w (.cells A t) (.cells B u))
  have h2 := (hb.block (w.heap.size + 1) (by simp)).trans (heap_alloc2_new w (.cells A t) (.cells B u))
  exact ⟨blk_cell h1, blk_cell h2, blk_frozen h1, blk_frozen h2, by have := hb.size; simp at this; omega⟩
def splitOf (s : ByteArray) (cut : Nat) : List ByteArray → V4
  | [a, b, c] => if isNum (bs a) && isNum (bs b) && isNum (bs c) then
      if cut = s.size then (a, b, c, [], true)
      else if (parts 46 ((bs s).drop (cut + 1))).all isWord then (a, b, c, (parts 46 ((bs s).drop (cut + 1))).map ofB, true) else zeroV
    else zeroV
  | _ => zeroV
def splitS (s : ByteArray) : V4 := splitOf s (cutFrom (bs s) 0) ((parts 46 (((bs s).take (cutFrom (bs s) 0)).drop 1)).map ofB)
set_option maxHeartbeats 2000000 in
theorem split_go (s : ByteArray) (hs : Small s) (h0 : 0 < s.size) (h1 : bt s 0 = 118) (cut : Nat) (hcut : cutFrom (bs s) 0 = cut) (hc1 : 1 ≤ cut) (hc2 : cut ≤ s.size) (v : V4) (hv : splitS s = v) (w : World) : Calls Tryz.prog 38 #[.string s] w (SplitPost v w) := by
  have hu49 := Tryz.underlying63
  have Hv := Aside0.mk hv
  clear hv
  have hd : ((s.size : Int) == 0) = false := beq_eq_false_iff_ne.2 (by omega)
  have hx9 : ∀ h : 0 < s.size, ((s[0]'h).toNat : Int) = 118 := fun h => by rw [← h1]; exact bt_at s 0 h
  have hq : decide (0 < s.size) = true := decide_eq_true h0
  have hsz : s.size ≤ 4398046511104 := hs
  have Hcut := Aside0.mk hcut
  clear h1 hcut
  go_enter Tryz.func38, Tryz.ntmps38
  go_wp2
  go_loop [5, 6] (fun v5 v6 => ∃ j : Int, -1 ≤ j ∧ j < s.size ∧ v5 = .int .i64 (cutFrom (bs s) (j + 1).toNat : Nat) ∧ v6 = .int .i64 j) (fun _ v6 => (intOf v6 + 1).toNat)
  case atStart =>
    have e : cutFrom (bs s) ((s.size : Int) - 1 + 1).toNat = s.size := by
      rw [show ((s.size : Int) - 1 + 1).toNat = s.size from by omega]
      unfold cutFrom
      rw [List.drop_eq_nil_of_le (by rw [bs_length]; omega)]
      rfl
    exact ⟨(s.size : Int) - 1, by omega, by omega, by rw [e], rfl⟩
  case round =>
    obtain ⟨j, hj1, hj2, rfl, rfl⟩ := hrel
    by_cases hj : 0 ≤ j
    · obtain ⟨m, rfl⟩ := Int.eq_ofNat_of_zero_le hj
      have hm : m < s.size := by omega
      have hdr : (bs s).drop m = (bs s)[m]'(by rw [bs_length]; exact hm) :: (bs s).drop (m + 1) := List.drop_eq_getElem_cons _
      have hst := cutFrom_step hdr
      have hbt := (bt_drop hdr).2.1
      obtain ⟨c, hc⟩ : ∃ c, c = (bs s)[m]'(by rw [bs_length]; exact hm) := ⟨_, rfl⟩
      rw [← hc] at hst hbt
      have hxm : ∀ h : m < s.size, ((s[m]'h).toNat : Int) = (c : Int) := fun h => by rw [← hbt]; exact bt_at s m h
      have Hst := Aside0.mk hst
      have hqm : decide (m < s.size) = true := decide_eq_true hm
      clear hc hst hbt hdr hj1 hj2
      have hj3 : (-1 : Int) ≤ (m : Int) - 1 := by omega
      by_cases h45 : c = 45
      · have hb : ((c : Int) == 45) = true := beq_iff_eq.2 (by omega)
        have H45 := Aside0.mk h45
        clear h45
        go_wp2
        go_round
        case rel => exact ⟨(m : Int) - 1, by omega, by omega, by rw [show ((m : Int) - 1 + 1).toNat = m from by omega, Hst.out, if_pos H45.out], rfl⟩
        case measure => simp [intOf]
      · have hb : ((c : Int) == 45) = false := beq_eq_false_iff_ne.2 (by omega)
        have H45 := Aside0.mk h45
        clear h45
        go_wp2
        go_round
        case rel => exact ⟨(m : Int) - 1, by omega, by omega, by rw [show ((m : Int) - 1 + 1).toNat = m from by omega, Hst.out, if_neg H45.out, show ((m : Int) + 1).toNat = m + 1 from by omega], rfl⟩
        case measure => simp [intOf]
    · obtain rfl : j = -1 := by omega
      rw [show ((-1 : Int) + 1).toNat = 0 from rfl, Hcut.out]
      clear hj1 hj2 hj
      have hc1' : (1 : Int) ≤ (cut : Int) := by omega
      have hc2' : (cut : Int) ≤ (s.size : Int) := by omega
      go_wp2_with fail
      refine (parts46 _ ?_ _).mono ?_
      · unfold Small; simp only [ByteArray.size_extract]; omega
      rintro e w1 ⟨u, rfl, hR, hb⟩
      rw [bs_extract] at hR
      obtain ⟨xs, hxs⟩ : ∃ xs, xs = (parts 46 (((bs s).take cut).drop 1)).map ofB := ⟨_, rfl⟩
      rw [← hxs] at hR
      have hsp : splitS s = splitOf s cut xs := by unfold splitS; rw [Hcut.out, ← hxs]
      rw [Hv.out] at hsp
      have hxl : ∀ x ∈ xs, Small x := fun x hx => by
        rw [hxs, ← bs_extract] at hx
        refine ((parts_small (s := s.extract 1 cut) ?_ 46).2 x hx).1
        unfold Small; simp only [ByteArray.size_extract]; omega
      clear hxs Hcut Hv
      obtain ⟨kc2, kc4, kf2, kf4, hz⟩ := two_blocks hb
      have hB : Below w.heap.size w w1 := ((((Below.refl _ _).alloc (Nat.le_refl _) _).alloc (by simp) _).trans (hb.mono (by simp; omega)))
      have HB := Aside0.mk hB
      clear hB hb
      by_cases h3 : xs.length = 3
      · obtain ⟨x0, x1, x2, rfl⟩ : ∃ a b c, xs = [a, b, c] := by
          match xs, h3 with
          | [a, b, c], _ => exact ⟨a, b, c, rfl⟩
        obtain ⟨g, cap, rfl, hg1, hg2, hcs⟩ := R_cells hR (by simp)
        have hcx0 : w1.cell? ⟨g, 0, none⟩ = some (.string x0) := hcs 0 (by simp)
        have hcx1 : w1.cell? ⟨g, 1, none⟩ = some (.string x1) := hcs 1 (by simp)
        have hcx2 : w1.cell? ⟨g, 2, none⟩ = some (.string x2) := hcs 2 (by simp)
        have hs0 : Small x0 := hxl x0 (by simp)
        have hs1 : Small x1 := hxl x1 (by simp)
        have hs2 : Small x2 := hxl x2 (by simp)
        simp only [splitOf] at hsp
        generalize hb0 : isNum (bs x0) = b0 at hsp
        generalize hb1 : isNum (bs x1) = b1 at hsp
        generalize hb2 : isNum (bs x2) = b2 at hsp
        have B0 := Aside0.mk hb0
        have B1 := Aside0.mk hb1
        have B2 := Aside0.mk hb2
        have Hsp := Aside0.mk hsp
        clear hsp h3 hxl hcs hb0 hb1 hb2
        go_wp2_with fail
        refine (may_any x0 hs0 _).mono ?_
        rintro e w2 ⟨rfl, ⟨n2, rfl⟩⟩
        rw [B0.out]
        cases b0
        · have hvz : v = zeroV := Hsp.out
          subst hvz
          go_wp2
          exact bodyPost_ret (v := .tuple #[.agg #[.string ⟨#[]⟩, .string ⟨#[]⟩, .string ⟨#[]⟩, .slice none 0 0], .bool false]) (by simp [results, Tryz.results38, go_sem, kc2]) rfl ⟨_, rfl, Kd.R_nil _ _ _ _ _, by repeat (with_reducible first | exact HB.out | refine below_set ?_ (by omega) | refine pw_below_drewN ?_ _ | refine below_drew ?_)⟩
        go_wp2_with fail
        refine (may_any x1 hs1 _).mono ?_
        rintro e w3 ⟨rfl, ⟨n3, rfl⟩⟩
        rw [B1.out]
        cases b1
        · have hvz : v = zeroV := Hsp.out
          subst hvz
          go_wp2
          exact bodyPost_ret (v := .tuple #[.agg #[.string ⟨#[]⟩, .string ⟨#[]⟩, .string ⟨#[]⟩, .slice none 0 0], .bool false]) (by simp [results, Tryz.results38, go_sem, kc2]) rfl ⟨_, rfl, Kd.R_nil _ _ _ _ _, by repeat (with_reducible first | exact HB.out | refine below_set ?_ (by omega) | refine pw_below_drewN ?_ _ | refine below_drew ?_)⟩
        go_wp2_with fail
        refine (may_any x2 hs2 _).mono ?_
        rintro e w4 ⟨rfl, ⟨n4, rfl⟩⟩
        rw [B2.out]
        cases b2
        · have hvz : v = zeroV := Hsp.out
          subst hvz
          go_wp2
          exact bodyPost_ret (v := .tuple #[.agg #[.string ⟨#[]⟩, .string ⟨#[]⟩, .string ⟨#[]⟩, .slice none 0 0], .bool false]) (by simp [results, Tryz.results38, go_sem, kc2]) rfl ⟨_, rfl, Kd.R_nil _ _ _ _ _, by repeat (with_reducible first | exact HB.out | refine below_set ?_ (by omega) | refine pw_below_drewN ?_ _ | refine below_drew ?_)⟩
        by_cases hcs : cut = s.size
        · have e77 : ((cut : Int) == (s.size : Int)) = true := beq_iff_eq.2 (by omega)
          have hvz : v = (x0, x1, x2, [], true) := Hsp.out.trans (if_pos hcs)
          subst hvz
          clear hcs
          go_wp2_with fail
          go_region
          go_wp2_with fail
          exact bodyPost_ret (v := .tuple #[.agg #[.string x0, .string x1, .string x2, .slice none 0 0], .bool true]) (by simp [results, Tryz.results38, go_sem, kc2]) rfl ⟨_, rfl, Kd.R_nil _ _ _ _ _, by repeat (with_reducible first | exact HB.out | refine below_set ?_ (by omega) | refine pw_below_drewN ?_ _ | refine below_drew ?_)⟩
        have e77 : ((cut : Int) == (s.size : Int)) = false := beq_eq_false_iff_ne.2 (by omega)
        have hv2 : v = if (parts 46 ((bs s).drop (cut + 1))).all isWord then (x0, x1, x2, (parts 46 ((bs s).drop (cut + 1))).map ofB, true) else zeroV := Hsp.out.trans (if_neg hcs)
        have HV2 := Aside0.mk hv2
        have hlt : (cut : Int) + 1 ≤ (s.size : Int) := by omega
        have hle : cut + 1 ≤ s.size := by omega
        clear hcs hv2 Hsp
        go_wp2_with fail
        go_region
        go_wp2_with fail
        refine (parts46 _ ?_ _).mono ?_
        · unfold Small; simp only [ByteArray.size_extract]; omega
        rintro e w5 ⟨u5, rfl, hR5, hb5⟩
        have e5 : bs (s.extract (cut + 1) s.size) = (bs s).drop (cut + 1) := by rw [bs_extract, List.take_of_length_le (by rw [bs_length]; omega)]
        rw [e5] at hR5
        have hss : ∀ x ∈ (parts 46 ((bs s).drop (cut + 1))).map ofB, Small x := fun x hx => by
          rw [← e5] at hx
          refine ((parts_small (s := s.extract (cut + 1) s.size) ?_ 46).2 x hx).1
          unfold Small; simp only [ByteArray.size_extract]; omega
        have hall : ((parts 46 ((bs s).drop (cut + 1))).map ofB).all (fun x => isWord (bs x)) = (parts 46 ((bs s).drop (cut + 1))).all isWord := by rw [← e5]; exact parts_all _ _ _
        obtain ⟨q, qs, hq2⟩ := parts_cons 46 ((bs s).drop (cut + 1))
        have hne : 0 < ((parts 46 ((bs s).drop (cut + 1))).map ofB).length := by rw [hq2]; simp
        have hyl : ((parts 46 ((bs s).drop (cut + 1))).map ofB).length ≤ 8796093022208 := by
          have := (parts_small (s := s.extract (cut + 1) s.size) (by unfold Small; simp only [ByteArray.size_extract]; omega) 46).1
          rw [← e5]; simp only [ByteArray.size_extract] at this; omega
        generalize (parts 46 ((bs s).drop (cut + 1))).map ofB = ys at hR5 hss hall HV2 hne hyl
        clear hq2 e5
        obtain ⟨g5, cap5, rfl, hg51, hg52, hc5⟩ := R_cells hR5 hne
        have hz5 : w.heap.size + 1 < w5.heap.size := by have := hb5.size; simp at this; omega
        have hg5 : w.heap.size + 1 < g5 := by simp at hg51; omega
        have m40 : w5.cell? ⟨w.heap.size + 1, 0, none⟩ = some (.string x0) := (hb5.cell (p := ⟨w.heap.size + 1, 0, none⟩) (by simp; omega)).trans (by simp [go_sem, kc4])
        have m41 : w5.cell? ⟨w.heap.size + 1, 1, none⟩ = some (.string x1) := (hb5.cell (p := ⟨w.heap.size + 1, 1, none⟩) (by simp; omega)).trans (by simp [go_sem, kc4])
        have m42 : w5.cell? ⟨w.heap.size + 1, 2, none⟩ = some (.string x2) := (hb5.cell (p := ⟨w.heap.size + 1, 2, none⟩) (by simp; omega)).trans (by simp [go_sem, kc4])
        have m43 : w5.cell? ⟨w.heap.size + 1, 3, none⟩ = some (.slice none 0 0) := (hb5.cell (p := ⟨w.heap.size + 1, 3, none⟩) (by simp; omega)).trans (by simp [go_sem, kc4])
        have m20 : w5.cell? ⟨w.heap.size, 0, none⟩ = some (.string ⟨#[]⟩) := (hb5.cell (p := ⟨w.heap.size, 0, none⟩) (by simp; omega)).trans (by simp [go_sem, kc2])
        have m21 : w5.cell? ⟨w.heap.size, 1, none⟩ = some (.string ⟨#[]⟩) := (hb5.cell (p := ⟨w.heap.size, 1, none⟩) (by simp; omega)).trans (by simp [go_sem, kc2])
        have m22 : w5.cell? ⟨w.heap.size, 2, none⟩ = some (.string ⟨#[]⟩) := (hb5.cell (p := ⟨w.heap.size, 2, none⟩) (by simp; omega)).trans (by simp [go_sem, kc2])
        have m23 : w5.cell? ⟨w.heap.size, 3, none⟩ = some (.slice none 0 0) := (hb5.cell (p := ⟨w.heap.size, 3, none⟩) (by simp; omega)).trans (by simp [go_sem, kc2])
        have f43 := (hb5.frozen (p := ⟨w.heap.size + 1, 3, none⟩) (by simp; omega)).trans (show _ = false by simp [kf4])
        have f20 := (hb5.frozen (p := ⟨w.heap.size, 0, none⟩) (by simp; omega)).trans (show _ = false by simp [kf2])
        have f21 := (hb5.frozen (p := ⟨w.heap.size, 1, none⟩) (by simp; omega)).trans (show _ = false by simp [kf2])
        have f22 := (hb5.frozen (p := ⟨w.heap.size, 2, none⟩) (by simp; omega)).trans (show _ = false by simp [kf2])
        have f23 := (hb5.frozen (p := ⟨w.heap.size, 3, none⟩) (by simp; omega)).trans (show _ = false by simp [kf2])
        have HB5 := Aside0.mk ((by repeat (with_reducible first | exact HB.out | refine below_set ?_ (by omega) | refine pw_below_drewN ?_ _ | refine below_drew ?_) : Below w.heap.size w _).trans (hb5.mono (by simp; omega)))
        have HR5 := Aside0.mk (Kd.R_lower hR5 (by simp; omega : w.heap.size ≤ _))
        clear hb5 hR5 hg51 kc2 kc4 kf2 kf4 HB hcx0 hcx1 hcx2 hz hg1 hg2
        have hyl2 : (ys.length : Int) ≤ 8796093022208 := by omega
        go_wp2_with fail
        generalize hw6 : w5.setCell ⟨w.heap.size + 1, 3, none⟩ (.slice (some ⟨g5, 0, none⟩) ys.length cap5) = w6
        have q43 : w6.cell? ⟨w.heap.size + 1, 3, none⟩ = some (.slice (some ⟨g5, 0, none⟩) ys.length cap5) := by rw [← hw6]; simp [go_sem, m43]
        have q40 : w6.cell? ⟨w.heap.size + 1, 0, none⟩ = some (.string x0) := by rw [← hw6]; simp [go_sem, m40]
        have q41 : w6.cell? ⟨w.heap.size + 1, 1, none⟩ = some (.string x1) := by rw [← hw6]; simp [go_sem, m41]
        have q42 : w6.cell? ⟨w.heap.size + 1, 2, none⟩ = some (.string x2) := by rw [← hw6]; simp [go_sem, m42]
        have q20 : w6.cell? ⟨w.heap.size, 0, none⟩ = some (.string ⟨#[]⟩) := by rw [← hw6]; simp [go_sem, m20]
        have q21 : w6.cell? ⟨w.heap.size, 1, none⟩ = some (.string ⟨#[]⟩) := by rw [← hw6]; simp [go_sem, m21]
        have q22 : w6.cell? ⟨w.heap.size, 2, none⟩ = some (.string ⟨#[]⟩) := by rw [← hw6]; simp [go_sem, m22]
        have q23 : w6.cell? ⟨w.heap.size, 3, none⟩ = some (.slice none 0 0) := by rw [← hw6]; simp [go_sem, m23]
        have g20 : w6.frozen? ⟨w.heap.size, 0, none⟩ = false := by rw [← hw6]; simp [go_sem, f20]
        have g21 : w6.frozen? ⟨w.heap.size, 1, none⟩ = false := by rw [← hw6]; simp [go_sem, f21]
        have g22 : w6.frozen? ⟨w.heap.size, 2, none⟩ = false := by rw [← hw6]; simp [go_sem, f22]
        have g23 : w6.frozen? ⟨w.heap.size, 3, none⟩ = false := by rw [← hw6]; simp [go_sem, f23]
        have hz6 : w.heap.size + 1 < w6.heap.size := by rw [← hw6]; simp; exact hz5
        have q5 : ∀ i (hi : i < ys.length), w6.cell? ⟨g5, i, none⟩ = some (.string (ys[i])) := fun i hi => by rw [← hw6, World.cell?_setCell_other _ _ _ _ (by first | (simp; done) | (simp; omega))]; exact hc5 i hi
        have HB6 : Aside0 (Below w.heap.size w w6) := ⟨by rw [← hw6]; exact below_set HB5.out (by omega)⟩
        have HR6 : Aside0 (Kd.R Kd.string 9 w6 w.heap.size (fun k => some k = (Value.slice (some ⟨g5, 0, none⟩) ys.length cap5).ownBlock) (.slice (some ⟨g5, 0, none⟩) ys.length cap5) ys) := ⟨by
          rw [← hw6]
          exact Kd.R_far (p := ⟨w.heap.size + 1, 3, none⟩) (Kd.R_tight rfl HR5.out) (fun k hk => by simp [Value.ownBlock] at hk; simp; omega) _⟩
        have Q5 := Aside0.mk q5
        clear q5 hw6 m40 m41 m42 m43 m20 m21 m22 m23 f43 f20 f21 f22 f23 HB5 HR5 hc5 hz5
        go_loopw [8] (fun v8 wr => ∃ i n : Nat, i ≤ ys.length ∧ v8 = .int .i64 (i : Int) ∧ wr = w6.drewN n ∧ Aside0 ((ys.take i).all (fun x => isWord (bs x)) = true)) (fun v8 _ => ys.length - (intOf v8).toNat)
        case atStart => exact ⟨0, 0, Nat.zero_le _, rfl, rfl, ⟨rfl⟩⟩
        case round =>
          obtain ⟨i, n, hi, rfl, rfl, hA⟩ := hrel
          by_cases hil : i < ys.length
          · have hce := Q5.out i hil
            have hsx := hss _ (List.getElem_mem hil)
            have hi0 : (i : Int) < (ys.length : Int) := by omega
            have hi1 : decide ((i : Int) < (ys.length : Int)) = true := decide_eq_true hi0
            have htk : ys.take (i + 1) = ys.take i ++ [ys[i]] := List.take_succ_eq_append_getElem hil
            have hmem : ys[i] ∈ ys := List.getElem_mem hil
            have Hmem := Aside0.mk hmem
            have Htk := Aside0.mk htk
            obtain ⟨y, hy⟩ : ∃ y, y = ys[i] := ⟨_, rfl⟩
            rw [← hy] at hce hsx Htk Hmem
            clear hmem htk hy
            go_wp2_with fail
            refine (word_any y hsx _).mono ?_
            rintro e w7 ⟨rfl, ⟨n7, rfl⟩⟩
            generalize hwy : isWord (bs y) = b7
            have Hwy := Aside0.mk hwy
            clear hwy
            cases b7
            · have hvz : v = zeroV := by
                have hno : ys.all (fun x => isWord (bs x)) = false := by
                  rw [List.all_eq_false]
                  exact ⟨y, Hmem.out, by rw [Hwy.out]; decide⟩
                have := HV2.out
                rw [← hall, hno] at this
                exact this
              subst hvz
              go_wp2
              exact bodyPost_ret (v := .tuple #[.agg #[.string ⟨#[]⟩, .string ⟨#[]⟩, .string ⟨#[]⟩, .slice none 0 0], .bool false]) (by simp [results, Tryz.results38, go_sem, q20, q21, q22, q23]) rfl ⟨_, rfl, Kd.R_nil _ _ _ _ _, by repeat (with_reducible first | exact HB6.out | refine below_set ?_ (by omega) | refine pw_below_drewN ?_ _ | refine below_drew ?_)⟩
            · go_wp2
              go_roundw
              case rel => exact ⟨i + 1, n + n7, by omega, by go_num, by simp, ⟨by rw [Htk.out, List.all_append, hA.out]; simp [Hwy.out]⟩⟩
              case measure => simp [intOf]; omega
          · obtain rfl : i = ys.length := by omega
            have hi1 : decide ((ys.length : Int) < (ys.length : Int)) = false := decide_eq_false (by omega)
            have hvz : v = (x0, x1, x2, ys, true) := by
              have h2 := hA.out
              rw [List.take_length] at h2
              have := HV2.out
              rw [← hall, h2] at this
              exact this
            subst hvz
            have hk : ∀ k, some k = (Value.slice (some ⟨g5, 0, none⟩) ys.length cap5).ownBlock → k ≠ w.heap.size := fun k hk => by simp [Value.ownBlock] at hk; omega
            have Hk := Aside0.mk hk
            clear hk
            go_wp2
            exact bodyPost_ret (v := .tuple #[.agg #[.string x0, .string x1, .string x2, .slice (some ⟨g5, 0, none⟩) ys.length cap5], .bool true]) (by simp [results, Tryz.results38, go_sem, q20, q21, q22, q23]) rfl ⟨_, rfl, Kd.R_mono (Kd.R_far (p := ⟨w.heap.size, 3, none⟩) (Kd.R_far (p := ⟨w.heap.size, 2, none⟩) (Kd.R_far (p := ⟨w.heap.size, 1, none⟩) (Kd.R_far (p := ⟨w.heap.size, 0, none⟩) (Kd.R_drewN HR6.out _) Hk.out _) Hk.out _) Hk.out _) Hk.out _) (fun _ _ => trivial), by repeat (with_reducible first | exact HB6.out | refine below_set ?_ (by omega) | refine pw_below_drewN ?_ _ | refine below_drew ?_)⟩
      · have hl3 : ((xs.length : Int) != 3) = true := bne_iff_ne.2 (by omega)
        have hvz : v = zeroV := by
          rw [hsp]
          match xs, h3 with
          | [], _ => rfl
          | [_], _ => rfl
          | [_, _], _ => rfl
          | [_, _, _], h => exact absurd rfl h
          | _ :: _ :: _ :: _ :: _, _ => rfl
        subst hvz
        obtain ⟨A, c, rfl⟩ := Kd.R_slice hR
        clear hsp h3 hxl hR
        go_wp2
        exact bodyPost_ret (v := .tuple #[.agg #[.string ⟨#[]⟩, .string ⟨#[]⟩, .string ⟨#[]⟩, .slice none 0 0], .bool false]) (by simp [results, Tryz.results38, go_sem, kc2]) rfl ⟨_, rfl, Kd.R_nil _ _ _ _ _, by repeat (with_reducible first | exact HB.out | refine below_set ?_ (by omega) | refine pw_below_drewN ?_ _ | refine below_drew ?_)⟩
set_option maxHeartbeats 1000000 in
theorem split_empty (s : ByteArray) (h0 : s.size = 0) (w : World) : Calls Tryz.prog 38 #[.string s] w (SplitPost zeroV w) := by
  have hu49 := Tryz.underlying63
  have hd : ((s.size : Int) == 0) = true := by rw [h0]; rfl
  have Hh := Aside0.mk h0
  clear h0
  go_enter Tryz.func38, Tryz.ntmps38
  go_wp2
  exact bodyPost_ret (v := .tuple #[.agg #[.string ⟨#[]⟩, .string ⟨#[]⟩, .string ⟨#[]⟩, .slice none 0 0], .bool false]) (by simp [results, Tryz.results38, go_sem]) rfl ⟨_, rfl, Kd.R_nil _ _ _ _ _, ((Below.refl _ _).alloc (Nat.le_refl _) _).alloc (by simp) _⟩
set_option maxHeartbeats 1000000 in
theorem split_other (s : ByteArray) (h0 : 0 < s.size) (c : Int) (hc : bt s 0 = c) (h1 : (c != 118) = true) (w : World) : Calls Tryz.prog 38 #[.string s] w (SplitPost zeroV w) := by
  have hu49 := Tryz.underlying63
  have hd : ((s.size : Int) == 0) = false := beq_eq_false_iff_ne.2 (by omega)
  have hx9 : ∀ h : 0 < s.size, ((s[0]'h).toNat : Int) = c := fun h => by rw [← hc]; exact bt_at s 0 h
  clear hc
  go_enter Tryz.func38, Tryz.ntmps38
  go_wp2
  exact bodyPost_ret (v := .tuple #[.agg #[.string ⟨#[]⟩, .string ⟨#[]⟩, .string ⟨#[]⟩, .slice none 0 0], .bool false]) (by simp [results, Tryz.results38, go_sem]) rfl ⟨_, rfl, Kd.R_nil _ _ _ _ _, ((Below.refl _ _).alloc (Nat.le_refl _) _).alloc (by simp) _⟩
def splitV (s : ByteArray) : V4 := if bs s = [] then zeroV else if (bs s).head? = some 118 then splitS s else zeroV
theorem cutFrom_le (l : List Nat) : cutFrom l 0 ≤ l.length := by
  unfold cutFrom
  simp only [Nat.zero_add, List.drop_zero]
  induction l with
  | nil => simp [cutDash]
  | cons c r ih =>
    by_cases hc : c = 45
    · simp [cutDash, hc]
    · simp [cutDash, hc]; exact ih
theorem Split_any (s : ByteArray) (hs : Small s) (w : World) : Calls Tryz.prog 38 #[.string s] w (SplitPost (splitV s) w) := by
  unfold splitV
  cases hb : bs s with
  | nil =>
    have h0 : s.size = 0 := by rw [← bs_length, hb]; rfl
    rw [if_pos rfl]
    exact split_empty s h0 w
  | cons c r =>
    have h0 : s.size = r.length + 1 := by rw [← bs_length, hb]; rfl
    have hd : (bs s).drop 0 = c :: r := by simpa using hb
    have hc := (bt_drop hd).2.1
    rw [show ((0 : Nat) : Int) = 0 from rfl] at hc
    rw [if_neg (by simp)]
    by_cases h : c = 118
    · subst h
      rw [if_pos (by simp)]
      refine split_go s hs (by omega) hc _ rfl ?_ ?_ _ rfl w
      · rw [cutFrom_step hd, if_neg (by decide)]; unfold cutFrom; omega
      · have := cutFrom_le (bs s); rw [bs_length] at this; exact this
    · rw [if_neg (by simp; exact h)]
      exact split_other s (by omega) c hc (by rw [bne_iff_ne]; omega) w
def graftwoodref03_Split.f (a0 : ByteArray) : Option V4 := if Small a0 then some (splitV a0) else none
theorem graftwoodref03_Split.calls (a0 : ByteArray) (r1 : ByteArray) (r2 : ByteArray) (r3 : ByteArray) (r4 : List ByteArray) (r5 : Bool) (w : World) (h : graftwoodref03_Split.f a0 = some (r1, r2, r3, r4, r5)) :
    Calls Tryz.prog 38 #[.string a0] w fun e w' => ∃ v3_ : Value, e = .returned (.tuple #[.agg #[.string r1, .string r2, .string r3, v3_], .bool r5]) ∧ Kd.R Kd.string 9 w' w.heap.size (fun _ => True) v3_ r4 ∧ Below w.heap.size w w' := by
  unfold graftwoodref03_Split.f at h
  by_cases hs : Small a0
  · rw [if_pos hs] at h
    have := Split_any a0 hs w
    rw [Option.some.inj h] at this
    exact this
  · rw [if_neg hs] at h
    cases h
end Go.Proofs.YtnknjhdpjjddeaaGreatDoor.Q
end

section
namespace Go.Proofs.YtnknjhdpjjddeaaGreatDoor.Q
open Go.RowKit Go.Proofs.YtnknjhdpjjddeaaGreatDoorW.PrintWords Go.Proofs.YtnknjhdpjjddeaaGreatDoorW.PrintLast Go.Proofs.YtnknjhdpjjddeaaGreatDoorW.PrintMore
attribute [local go_sem] max2_int min2_int max_two min_two max_three min_three max_four min_four   -- for this text's walks alone
set_option linter.unusedVariables false
set_option linter.unusedSimpArgs false
/-! ### graftwoodref03_May: function 26 -/
def graftwoodref03_May.f (a0 : ByteArray) : Option (Bool) := (graftwoodref03_Split.f a0).bind fun bt184 => (some bt184.2.2.2.2)
set_option maxHeartbeats 8000000 in
set_option maxRecDepth 100000 in
theorem graftwoodref03_May.calls (a0 : ByteArray) (r : Bool) (w : World) (h : graftwoodref03_May.f a0 = some r) :
    Calls Tryz.prog 26 #[.string a0] w fun e w' => e = .returned (.bool r) ∧ Below w.heap.size w w' := by
  have hu63 := Tryz.underlying63
  have HB := Aside0.mk (Below.refl w.heap.size w)
  have H : ((graftwoodref03_Split.f a0).bind fun bt184 => (some bt184.2.2.2.2)) = some r := h
  clear h
  replace H := Option.bind_eq_some_iff.mp H
  obtain ⟨⟨t184, t185, t186, t187, t190⟩, A20, H⟩ := H
  replace H : (some t190) = some r := H
  have A2 := Aside0.mk A20
  clear A20
  obtain rfl := Option.some.inj H
  go_enter Tryz.func26, Tryz.ntmps26
  go_wp2_with (first | ((with_reducible refine gate_callee (f := 38) rfl ?_); refine goesL_ (some 7) rfl rfl Tryz.func38 (by kernel_rfl) rfl #[.string a0] rfl (by (try simp only [List.map_toArray, List.map_cons, List.map_nil]); first | done | rfl | (simp only [List.length_drop, List.length_take]; rfl)) ?_; (with_reducible refine (graftwoodref03_Split.calls a0 t184 t185 t186 t187 t190 _ A2.out).mono ?_); rintro e w3 ⟨v188, rfl, ho0, hb⟩; refine ⟨_, rfl, ?_⟩; have n0_ := Aside0.mk (Kd.R_lower ho0 (below_size (by repeat (first | (with_reducible first | exact HB.out | apply below_alloc | apply pw_below_drewN | apply below_drew1) | exact HB.out)))); have n1_ := Aside0.mk (below_step (by repeat (first | (with_reducible first | exact HB.out | apply below_alloc | apply pw_below_drewN | apply below_drew1) | exact HB.out)) hb); clear HB; have HO189 := n0_; have HB := n1_; clear n0_ n1_; (try clear hb); (try clear hb2); (try clear hk); (try clear hi); (try clear ho0)) | ((with_reducible refine gate_dst (N := 3) rfl ?_); refine box_event ?hg (N := 3) ?hd (cs := #[.string (⟨#[]⟩ : ByteArray), .string (⟨#[]⟩ : ByteArray), .string (⟨#[]⟩ : ByteArray), .slice none 0 0]) (t := 63) ?hr ?_; (case hd => rfl); (case hg => rfl); (case hr => first | (go_simp; done) | (go_simp; rfl)); intro gb191 hg w4 hbox hb; have n0_ := Aside0.mk (Kd.R_below (by (with_reducible repeat (first | apply Kd.R_alloc | apply Kd.R_drewN | apply Kd.R_drew)); exact HO189.out) hb); have n1_ := Aside0.mk (below_step (by repeat (first | (with_reducible first | exact HB.out | apply below_alloc | apply pw_below_drewN | apply below_drew1) | exact HB.out)) hb); have n2_ := Aside0.mk (hbox); have n3_ := Aside0.mk ((by rw [hg]; exact (below_size (by repeat (first | (with_reducible first | exact HB.out | apply below_alloc | apply pw_below_drewN | apply below_drew1) | exact HB.out))) : w.heap.size ≤ gb191)); have n4_ := Aside0.mk ((by rw [hg]; exact (below_size (by repeat (first | (with_reducible first | exact HB.out | apply below_alloc | apply pw_below_drewN | apply below_drew1) | exact HB.out))) : w.heap.size ≤ gb191)); clear HO189; clear HB; have HO189 := n0_; have HB := n1_; have BK191 := n2_; have GW191 := n3_; have GE191 := n4_; clear n0_ n1_ n2_ n3_ n4_; clear hb hbox hg; have hcz5_0 : w4.cell? ⟨gb191, 0, none⟩ = some (.string (⟨#[]⟩ : ByteArray)) := (blk_cell BK191.out 0).trans rfl; have hcz5_1 : w4.cell? ⟨gb191, 1, none⟩ = some (.string (⟨#[]⟩ : ByteArray)) := (blk_cell BK191.out 1).trans rfl; have hcz5_2 : w4.cell? ⟨gb191, 2, none⟩ = some (.string (⟨#[]⟩ : ByteArray)) := (blk_cell BK191.out 2).trans rfl; have hcz5_3 : w4.cell? ⟨gb191, 3, none⟩ = some (.slice none 0 0) := (blk_cell BK191.out 3).trans rfl; have hfz5_0 := blk_frozen BK191.out 0; have hfz5_1 := blk_frozen BK191.out 1; have hfz5_2 := blk_frozen BK191.out 2; have hfz5_3 := blk_frozen BK191.out 3; obtain ⟨Ao6, co6, eo6⟩ := Kd.R_slice HO189.out; subst eo6))
  go_ret
  exact ⟨by first | rfl | (simp [errW_none, errW_some] <;> rfl) | (simp [*, errW_none, errW_some] <;> rfl), by repeat (first | (with_reducible first | exact HB.out | apply below_alloc | apply pw_below_drewN | apply below_drew1 | refine below_set ?_ GE191.out) | exact HB.out)⟩
end Go.Proofs.YtnknjhdpjjddeaaGreatDoor.Q
end
