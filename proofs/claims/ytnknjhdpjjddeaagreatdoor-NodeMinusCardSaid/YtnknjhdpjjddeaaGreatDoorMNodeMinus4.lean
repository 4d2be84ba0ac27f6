/- Part 4 of this claim: several texts one behind the other: Fgraftwoodlaw05awake, Fgraftwoodlaw01Few, Fgraftwoodlaw05One, LOne, NOrd, NCmp, Aw05, Fgraftwoodlaw05Few. What each shows stands in its theorems; conditions: sizes of texts and lists, as the functions' definitions say. -/
import Derived.Test.YtnknjhdpjjddeaaGreatDoorMNodeMinus0
import Derived.Test.YtnknjhdpjjddeaaGreatDoorMNodeMinus3
import Derived.Test.YtnknjhdpjjddeaaGreatDoorMNodeMinus2
section
namespace Go.Proofs.YtnknjhdpjjddeaaGreatDoor.Q
open Go.RowKit Go.Proofs.YtnknjhdpjjddeaaGreatDoorW.PrintWords Go.Proofs.YtnknjhdpjjddeaaGreatDoorW.PrintLast Go.Proofs.YtnknjhdpjjddeaaGreatDoorW.PrintMore
attribute [local go_sem] max2_int min2_int max_two min_two max_three min_three max_four min_four   -- for this text's walks alone
set_option linter.unusedVariables false
set_option linter.unusedSimpArgs false

attribute [local go_sem high] eqA32

/-! ### graftwoodlaw05_awake: function 8 -/
def graftwoodlaw05_awake.f (k : Nat)  : Option (Bool) := (node_Cmp.f k (⟨#[97]⟩ : ByteArray) (⟨#[118, 49, 46, 57, 46, 48]⟩ : ByteArray) (⟨#[97]⟩ : ByteArray) (⟨#[118, 49, 46, 49, 48, 46, 48]⟩ : ByteArray)).bind fun bt224 => ((node_Cmp.f k (⟨#[97]⟩ : ByteArray) (⟨#[118, 49, 46, 49, 48, 46, 48]⟩ : ByteArray) (⟨#[97, 47, 98]⟩ : ByteArray) (⟨#[118, 48, 46, 48, 46, 49]⟩ : ByteArray)).bind fun bt226 => ((node_Set.f (([(⟨(⟨#[97]⟩ : ByteArray), (⟨#[118, 49, 46, 57, 46, 48]⟩ : ByteArray)⟩ : S32), (⟨(⟨#[97]⟩ : ByteArray), (⟨#[118, 49, 46, 57, 46, 48]⟩ : ByteArray)⟩ : S32)] : List (S32)))).bind fun bt231 => ((node_Read.f k (⟨#[97, 64]⟩ : ByteArray)).bind fun bt235 => (if bt224.1 = (-1) then (if bt224.2 = 0 then (if bt226.1 = (-1) then (if bt226.2 = 0 then (if (bt231.1.length : Int) = 1 then (if bt231.2 = 0 then (some (bt235.2.2 == 1)) else (some false)) else (some false)) else (some false)) else (some false)) else (some false)) else (some false)))))
theorem graftwoodlaw05_awake.mono : ∀ k, LeO (graftwoodlaw05_awake.f k ) (graftwoodlaw05_awake.f (k + 1) ) := by
  intro  k
  unfold graftwoodlaw05_awake.f
  repeat' first
      | (with_reducible exact node_Cmp.mono _ _ _ _ _)
      | (with_reducible exact node_Read.mono _ _)
      | (with_reducible exact LeO.refl _)
      | (with_reducible exact LeO.none _)
      | (with_reducible refine LeO.ite ?_ ?_)
      | (with_reducible refine LeO.bind ?_ (fun _ => ?_))
      | exact node_Cmp.mono _ _ _ _ _
      | exact node_Read.mono _ _
      | exact LeO.none _
      | refine LeO.ite ?_ ?_
      | refine LeO.bind ?_ (fun _ => ?_)
set_option maxHeartbeats 8000000 in
set_option maxRecDepth 100000 in
theorem graftwoodlaw05_awake.calls (k : Nat)  (r : Bool) (w : World) (h : graftwoodlaw05_awake.f k  = some r) :
    Calls Tryz.prog 8 #[] w fun e w' => e = .returned (.bool r) ∧ Below w.heap.size w w' := by
  have hu32 := Tryz.underlying32
  have HB := Aside0.mk (Below.refl w.heap.size w)
  have H : ((node_Cmp.f k (⟨#[97]⟩ : ByteArray) (⟨#[118, 49, 46, 57, 46, 48]⟩ : ByteArray) (⟨#[97]⟩ : ByteArray) (⟨#[118, 49, 46, 49, 48, 46, 48]⟩ : ByteArray)).bind fun bt224 => ((node_Cmp.f k (⟨#[97]⟩ : ByteArray) (⟨#[118, 49, 46, 49, 48, 46, 48]⟩ : ByteArray) (⟨#[97, 47, 98]⟩ : ByteArray) (⟨#[118, 48, 46, 48, 46, 49]⟩ : ByteArray)).bind fun bt226 => ((node_Set.f (([(⟨(⟨#[97]⟩ : ByteArray), (⟨#[118, 49, 46, 57, 46, 48]⟩ : ByteArray)⟩ : S32), (⟨(⟨#[97]⟩ : ByteArray), (⟨#[118, 49, 46, 57, 46, 48]⟩ : ByteArray)⟩ : S32)] : List (S32)))).bind fun bt231 => ((node_Read.f k (⟨#[97, 64]⟩ : ByteArray)).bind fun bt235 => (if bt224.1 = (-1) then (if bt224.2 = 0 then (if bt226.1 = (-1) then (if bt226.2 = 0 then (if (bt231.1.length : Int) = 1 then (if bt231.2 = 0 then (some (bt235.2.2 == 1)) else (some false)) else (some false)) else (some false)) else (some false)) else (some false)) else (some false)))))) = some r := h
  clear h
  replace H := Option.bind_eq_some_iff.mp H
  obtain ⟨⟨t224, t225⟩, A10, H⟩ := H
  replace H : ((node_Cmp.f k (⟨#[97]⟩ : ByteArray) (⟨#[118, 49, 46, 49, 48, 46, 48]⟩ : ByteArray) (⟨#[97, 47, 98]⟩ : ByteArray) (⟨#[118, 48, 46, 48, 46, 49]⟩ : ByteArray)).bind fun bt226 => ((node_Set.f (([(⟨(⟨#[97]⟩ : ByteArray), (⟨#[118, 49, 46, 57, 46, 48]⟩ : ByteArray)⟩ : S32), (⟨(⟨#[97]⟩ : ByteArray), (⟨#[118, 49, 46, 57, 46, 48]⟩ : ByteArray)⟩ : S32)] : List (S32)))).bind fun bt231 => ((node_Read.f k (⟨#[97, 64]⟩ : ByteArray)).bind fun bt235 => (if t224 = (-1) then (if t225 = 0 then (if bt226.1 = (-1) then (if bt226.2 = 0 then (if (bt231.1.length : Int) = 1 then (if bt231.2 = 0 then (some (bt235.2.2 == 1)) else (some false)) else (some false)) else (some false)) else (some false)) else (some false)) else (some false))))) = some r := H
  have A1 := Aside0.mk A10
  clear A10
  replace H := Option.bind_eq_some_iff.mp H
  obtain ⟨⟨t226, t227⟩, A20, H⟩ := H
  replace H : ((node_Set.f (([(⟨(⟨#[97]⟩ : ByteArray), (⟨#[118, 49, 46, 57, 46, 48]⟩ : ByteArray)⟩ : S32), (⟨(⟨#[97]⟩ : ByteArray), (⟨#[118, 49, 46, 57, 46, 48]⟩ : ByteArray)⟩ : S32)] : List (S32)))).bind fun bt231 => ((node_Read.f k (⟨#[97, 64]⟩ : ByteArray)).bind fun bt235 => (if t224 = (-1) then (if t225 = 0 then (if t226 = (-1) then (if t227 = 0 then (if (bt231.1.length : Int) = 1 then (if bt231.2 = 0 then (some (bt235.2.2 == 1)) else (some false)) else (some false)) else (some false)) else (some false)) else (some false)) else (some false)))) = some r := H
  have A2 := Aside0.mk A20
  clear A20
  obtain ⟨y228, hy228⟩ : ∃ y_ : List (S32), y_ = (([(⟨(⟨#[97]⟩ : ByteArray), (⟨#[118, 49, 46, 57, 46, 48]⟩ : ByteArray)⟩ : S32), (⟨(⟨#[97]⟩ : ByteArray), (⟨#[118, 49, 46, 57, 46, 48]⟩ : ByteArray)⟩ : S32)] : List (S32))) := ⟨_, rfl⟩
  replace H : ((node_Set.f y228).bind fun bt231 => ((node_Read.f k (⟨#[97, 64]⟩ : ByteArray)).bind fun bt235 => (if t224 = (-1) then (if t225 = 0 then (if t226 = (-1) then (if t227 = 0 then (if (bt231.1.length : Int) = 1 then (if bt231.2 = 0 then (some (bt235.2.2 == 1)) else (some false)) else (some false)) else (some false)) else (some false)) else (some false)) else (some false)))) = some r := by first | (rw [hy228]; with_reducible exact H) | (have H2_ := (Option.bind_some _ _).symm.trans H; rw [hy228]; with_reducible exact H2_) | (have H2_ := (Option.bind_some _ _).symm.trans H; with_reducible exact H2_) | with_reducible exact H | (rw [hy228]; exact H) | exact H
  have Ny228 := Aside0.mk hy228
  clear hy228
  replace H := Option.bind_eq_some_iff.mp H
  obtain ⟨⟨t231, t232⟩, A30, H⟩ := H
  replace H : ((node_Read.f k (⟨#[97, 64]⟩ : ByteArray)).bind fun bt235 => (if t224 = (-1) then (if t225 = 0 then (if t226 = (-1) then (if t227 = 0 then (if (t231.length : Int) = 1 then (if t232 = 0 then (some (bt235.2.2 == 1)) else (some false)) else (some false)) else (some false)) else (some false)) else (some false)) else (some false))) = some r := H
  have A3 := Aside0.mk A30
  clear A30
  replace H := Option.bind_eq_some_iff.mp H
  obtain ⟨⟨t235, t236, t237⟩, A40, H⟩ := H
  replace H : (if t224 = (-1) then (if t225 = 0 then (if t226 = (-1) then (if t227 = 0 then (if (t231.length : Int) = 1 then (if t232 = 0 then (some (t237 == 1)) else (some false)) else (some false)) else (some false)) else (some false)) else (some false)) else (some false)) = some r := H
  have A4 := Aside0.mk A40
  clear A40
  by_cases c5 : t224 = (-1)
  · rw [if_pos c5] at H
    have c5b0 : (t224 == (-1)) = true := beq_iff_eq.mpr c5
    have c5b1 : (t224 != (-1)) = false := bne_eq_false_iff_eq.mpr c5
    clear c5
    by_cases c6 : t225 = 0
    · rw [if_pos c6] at H
      have c6b0 : (t225 == 0) = true := beq_iff_eq.mpr c6
      have c6b1 : (t225 != 0) = false := bne_eq_false_iff_eq.mpr c6
      clear c6
      by_cases c7 : t226 = (-1)
      · rw [if_pos c7] at H
        have c7b0 : (t226 == (-1)) = true := beq_iff_eq.mpr c7
        have c7b1 : (t226 != (-1)) = false := bne_eq_false_iff_eq.mpr c7
        clear c7
        by_cases c8 : t227 = 0
        · rw [if_pos c8] at H
          have c8b0 : (t227 == 0) = true := beq_iff_eq.mpr c8
          have c8b1 : (t227 != 0) = false := bne_eq_false_iff_eq.mpr c8
          clear c8
          by_cases c9 : (t231.length : Int) = 1
          · rw [if_pos c9] at H
            have c9b0 : ((t231.length : Int) == 1) = true := beq_iff_eq.mpr c9
            have c9b1 : ((t231.length : Int) != 1) = false := bne_eq_false_iff_eq.mpr c9
            clear c9
            by_cases c10 : t232 = 0
            · rw [if_pos c10] at H
              have c10b0 : (t232 == 0) = true := beq_iff_eq.mpr c10
              have c10b1 : (t232 != 0) = false := bne_eq_false_iff_eq.mpr c10
              clear c10
              obtain rfl := Option.some.inj H
              go_enter Tryz.func8, Tryz.ntmps8
              go_wp2_with (first | ((with_reducible refine gate_callee (f := 22) rfl ?_); refine goesL_ (some 12) rfl rfl Tryz.func22 (by kernel_rfl) rfl #[.agg #[.string (⟨#[97]⟩ : ByteArray), .string (⟨#[118, 49, 46, 57, 46, 48]⟩ : ByteArray)], .agg #[.string (⟨#[97]⟩ : ByteArray), .string (⟨#[118, 49, 46, 49, 48, 46, 48]⟩ : ByteArray)]] rfl (by (try simp only [List.map_toArray, List.map_cons, List.map_nil]); first | done | rfl | (simp only [List.length_drop, List.length_take]; rfl)) ?_; (with_reducible refine (node_Cmp.calls k (⟨#[97]⟩ : ByteArray) (⟨#[118, 49, 46, 57, 46, 48]⟩ : ByteArray) (⟨#[97]⟩ : ByteArray) (⟨#[118, 49, 46, 49, 48, 46, 48]⟩ : ByteArray) t224 t225 _ A1.out).mono ?_); rintro e w11 ⟨rfl, hb⟩; refine ⟨_, rfl, ?_⟩; have n0_ := Aside0.mk (below_step (by repeat (first | (with_reducible first | exact HB.out | apply below_alloc | apply pw_below_drewN | apply below_drew1) | exact HB.out)) hb); clear HB; have HB := n0_; clear n0_; (try clear hb); (try clear hb2); (try clear hk); (try clear hi)) | ((with_reducible refine gate_callee (f := 22) rfl ?_); refine goesL_ (some 18) rfl rfl Tryz.func22 (by kernel_rfl) rfl #[.agg #[.string (⟨#[97]⟩ : ByteArray), .string (⟨#[118, 49, 46, 49, 48, 46, 48]⟩ : ByteArray)], .agg #[.string (⟨#[97, 47, 98]⟩ : ByteArray), .string (⟨#[118, 48, 46, 48, 46, 49]⟩ : ByteArray)]] rfl (by (try simp only [List.map_toArray, List.map_cons, List.map_nil]); first | done | rfl | (simp only [List.length_drop, List.length_take]; rfl)) ?_; (with_reducible refine (node_Cmp.calls k (⟨#[97]⟩ : ByteArray) (⟨#[118, 49, 46, 49, 48, 46, 48]⟩ : ByteArray) (⟨#[97, 47, 98]⟩ : ByteArray) (⟨#[118, 48, 46, 48, 46, 49]⟩ : ByteArray) t226 t227 _ A2.out).mono ?_); rintro e w12 ⟨rfl, hb⟩; refine ⟨_, rfl, ?_⟩; have n0_ := Aside0.mk (below_step (by repeat (first | (with_reducible first | exact HB.out | apply below_alloc | apply pw_below_drewN | apply below_drew1) | exact HB.out)) hb); clear HB; have HB := n0_; clear n0_; (try clear hb); (try clear hb2); (try clear hk); (try clear hi)) | ((with_reducible refine gate_dst (N := 24) rfl ?_); (try (refine gate_guard (by rfl) ?_; dsimp only)); refine Kd.R_lit k32 _ 32 ?hg (N := 24) ?hd (xs := ([(⟨(⟨#[97]⟩ : ByteArray), (⟨#[118, 49, 46, 57, 46, 48]⟩ : ByteArray)⟩ : S32), (⟨(⟨#[97]⟩ : ByteArray), (⟨#[118, 49, 46, 57, 46, 48]⟩ : ByteArray)⟩ : S32)] : List (S32))) (inner := [.string (⟨#[97]⟩ : ByteArray), .string (⟨#[118, 49, 46, 57, 46, 48]⟩ : ByteArray), .string (⟨#[97]⟩ : ByteArray), .string (⟨#[118, 49, 46, 57, 46, 48]⟩ : ByteArray)]) (ok := fun _ => True) (okp := fun _ => True) ?hr ?hp (fun _ hk => hk) trivial (Below.refl _ _) (Nat.le_refl _) (by simp) ?_; (case hd => rfl); (case hg => rfl); (case hr => first | (go_simp; done) | (go_simp; rfl)); (case hp => exact (Reps.c2 (show Kd.M k32 _ _ _ (⟨(⟨#[97]⟩ : ByteArray), (⟨#[118, 49, 46, 57, 46, 48]⟩ : ByteArray)⟩ : S32) [.string (⟨#[97]⟩ : ByteArray), .string (⟨#[118, 49, 46, 57, 46, 48]⟩ : ByteArray)] from (k32_mkM _ _ _ (⟨(⟨#[97]⟩ : ByteArray), (⟨#[118, 49, 46, 57, 46, 48]⟩ : ByteArray)⟩ : S32) )) (Reps.c2 (show Kd.M k32 _ _ _ (⟨(⟨#[97]⟩ : ByteArray), (⟨#[118, 49, 46, 57, 46, 48]⟩ : ByteArray)⟩ : S32) [.string (⟨#[97]⟩ : ByteArray), .string (⟨#[118, 49, 46, 57, 46, 48]⟩ : ByteArray)] from (k32_mkM _ _ _ (⟨(⟨#[97]⟩ : ByteArray), (⟨#[118, 49, 46, 57, 46, 48]⟩ : ByteArray)⟩ : S32) )) (Reps.none _ _)))); intro v229 w13 ho14 hb hg_ hnew_; clear hg_ hnew_; (first | rw [← Ny228.out] at ho14 | (simp only [Int.reduceToNat] at ho14; rw [← Ny228.out] at ho14)); have n0_ := Aside0.mk (Kd.R_lower ho14 (below_size (by repeat (first | (with_reducible first | exact HB.out | apply below_alloc | apply pw_below_drewN | apply below_drew1) | exact HB.out)))); have n1_ := Aside0.mk (below_step (by repeat (first | (with_reducible first | exact HB.out | apply below_alloc | apply pw_below_drewN | apply below_drew1) | exact HB.out)) hb); clear HB; have HO230 := n0_; have HB := n1_; clear n0_ n1_; clear hb ho14; obtain ⟨Ao15, co15, eo15⟩ := Kd.R_slice HO230.out; subst eo15) | ((with_reducible refine gate_callee (f := 13) rfl ?_); refine goesL_ (some 25) rfl rfl Tryz.func13 (by kernel_rfl) rfl #[.slice Ao15 y228.length co15] rfl (by (try simp only [List.map_toArray, List.map_cons, List.map_nil]); first | done | rfl | (simp only [List.length_drop, List.length_take]; rfl)) ?_; (with_reducible refine (node_Set.calls _ _ y228 t231 t232 _ ?side1 ?side2 A3.out).mono ?_); (case side1 => repeat (first | exact (Kd.R_reads' HO230.out).2.2 | (with_reducible refine Kd.C_alloc ?_ _) | (with_reducible refine Kd.C_drewN ?_ _) | (with_reducible refine Kd.C_drew ?_))); (case side2 => exact (Kd.R_reads' HO230.out).2.1); rintro e w16 ⟨v233, rfl, ho0, hb⟩; refine ⟨_, rfl, ?_⟩; have n0_ := Aside0.mk (Kd.R_elder' (by (with_reducible repeat (first | apply Kd.R_alloc | apply Kd.R_drewN | apply Kd.R_drew)); exact HO230.out) (Kd.R_base ho0) hb); have n1_ := Aside0.mk (Kd.R_lower (Kd.R_new' ho0 (Kd.R_lt (by (with_reducible repeat (first | apply Kd.R_alloc | apply Kd.R_drewN | apply Kd.R_drew)); exact HO230.out))) (below_size (by repeat (first | (with_reducible first | exact HB.out | apply below_alloc | apply pw_below_drewN | apply below_drew1) | exact HB.out)))); have n2_ := Aside0.mk (below_step (by repeat (first | (with_reducible first | exact HB.out | apply below_alloc | apply pw_below_drewN | apply below_drew1) | exact HB.out)) hb); clear HO230; clear HB; have HO230 := n0_; have HO234 := n1_; have HB := n2_; clear n0_ n1_ n2_; (try clear hb); (try clear hb2); (try clear hk); (try clear hi); (try clear ho0)) | ((with_reducible refine gate_callee (f := 23) rfl ?_); refine goesL_ (some 29) rfl rfl Tryz.func23 (by kernel_rfl) rfl #[.string (⟨#[97, 64]⟩ : ByteArray)] rfl (by (try simp only [List.map_toArray, List.map_cons, List.map_nil]); first | done | rfl | (simp only [List.length_drop, List.length_take]; rfl)) ?_; (with_reducible refine (node_Read.calls k (⟨#[97, 64]⟩ : ByteArray) t235 t236 t237 _ A4.out).mono ?_); rintro e w17 ⟨rfl, hb⟩; refine ⟨_, rfl, ?_⟩; have n0_ := Aside0.mk (Kd.R_below (by (with_reducible repeat (first | apply Kd.R_alloc | apply Kd.R_drewN | apply Kd.R_drew)); exact HO230.out) hb); have n1_ := Aside0.mk (Kd.R_below (by (with_reducible repeat (first | apply Kd.R_alloc | apply Kd.R_drewN | apply Kd.R_drew)); exact HO234.out) hb); have n2_ := Aside0.mk (below_step (by repeat (first | (with_reducible first | exact HB.out | apply below_alloc | apply pw_below_drewN | apply below_drew1) | exact HB.out)) hb); clear HO230; clear HO234; clear HB; have HO230 := n0_; have HO234 := n1_; have HB := n2_; clear n0_ n1_ n2_; (try clear hb); (try clear hb2); (try clear hk); (try clear hi)) | ((with_reducible refine gate_dst (N := 7) rfl ?_); (try (refine gate_guard (by rfl) ?_; dsimp only)); refine box_event ?hg (N := 7) ?hd (cs := #[.string (⟨#[]⟩ : ByteArray), .string (⟨#[]⟩ : ByteArray)]) (t := 32) ?hr ?_; (case hd => rfl); (case hg => rfl); (case hr => first | (go_simp; done) | (go_simp; rfl)); intro gb238 hg w18 hbox hb; have n0_ := Aside0.mk (Kd.R_below (Kd.R_elderB (by (with_reducible repeat (first | apply Kd.R_alloc | apply Kd.R_drewN | apply Kd.R_drew)); exact HO230.out) gb238 (Nat.le_of_eq hg.symm)) hb); have n1_ := Aside0.mk (Kd.R_below (Kd.R_elderB (by (with_reducible repeat (first | apply Kd.R_alloc | apply Kd.R_drewN | apply Kd.R_drew)); exact HO234.out) gb238 (Nat.le_of_eq hg.symm)) hb); have n2_ := Aside0.mk (below_step (by repeat (first | (with_reducible first | exact HB.out | apply below_alloc | apply pw_below_drewN | apply below_drew1) | exact HB.out)) hb); have n3_ := Aside0.mk (hbox); have n4_ := Aside0.mk ((by rw [hg]; exact (below_size (by repeat (first | (with_reducible first | exact HB.out | apply below_alloc | apply pw_below_drewN | apply below_drew1) | exact HB.out))) : w.heap.size ≤ gb238)); have n5_ := Aside0.mk ((by rw [hg]; exact (below_size (by repeat (first | (with_reducible first | exact HB.out | apply below_alloc | apply pw_below_drewN | apply below_drew1) | exact HB.out))) : w.heap.size ≤ gb238)); clear HO230; clear HO234; clear HB; have HO230 := n0_; have HO234 := n1_; have HB := n2_; have BK238 := n3_; have GW238 := n4_; have GE238 := n5_; clear n0_ n1_ n2_ n3_ n4_ n5_; clear hb hbox hg; have hcz19_0 : w18.cell? ⟨gb238, 0, none⟩ = some (.string (⟨#[]⟩ : ByteArray)) := (blk_cell BK238.out 0).trans rfl; have hcz19_1 : w18.cell? ⟨gb238, 1, none⟩ = some (.string (⟨#[]⟩ : ByteArray)) := (blk_cell BK238.out 1).trans rfl; have hfz19_0 := blk_frozen BK238.out 0; have hfz19_1 := blk_frozen BK238.out 1; obtain ⟨Ao20, co20, eo20⟩ := Kd.R_slice HO234.out; subst eo20))
              go_ret
              exact ⟨by first | rfl | (simp [errW_none, errW_some] <;> rfl) | (simp [*, errW_none, errW_some] <;> rfl), by repeat (first | (with_reducible first | exact HB.out | apply below_alloc | apply pw_below_drewN | apply below_drew1 | refine below_set ?_ GE238.out) | exact HB.out)⟩
            · rw [if_neg c10] at H
              have c10b0 : (t232 == 0) = false := beq_eq_false_iff_ne.mpr c10
              have c10b1 : (t232 != 0) = true := bne_iff_ne.mpr c10
              obtain rfl := Option.some.inj H
              go_enter Tryz.func8, Tryz.ntmps8
              go_wp2_with (first | ((with_reducible refine gate_callee (f := 22) rfl ?_); refine goesL_ (some 12) rfl rfl Tryz.func22 (by kernel_rfl) rfl #[.agg #[.string (⟨#[97]⟩ : ByteArray), .string (⟨#[118, 49, 46, 57, 46, 48]⟩ : ByteArray)], .agg #[.string (⟨#[97]⟩ : ByteArray), .string (⟨#[118, 49, 46, 49, 48, 46, 48]⟩ : ByteArray)]] rfl (by (try simp only [List.map_toArray, List.map_cons, List.map_nil]); first | done | rfl | (simp only [List.length_drop, List.length_take]; rfl)) ?_; (with_reducible refine (node_Cmp.calls k (⟨#[97]⟩ : ByteArray) (⟨#[118, 49, 46, 57, 46, 48]⟩ : ByteArray) (⟨#[97]⟩ : ByteArray) (⟨#[118, 49, 46, 49, 48, 46, 48]⟩ : ByteArray) t224 t225 _ A1.out).mono ?_); rintro e w21 ⟨rfl, hb⟩; refine ⟨_, rfl, ?_⟩; have n0_ := Aside0.mk (below_step (by repeat (first | (with_reducible first | exact HB.out | apply below_alloc | apply pw_below_drewN | apply below_drew1) | exact HB.out)) hb); clear HB; have HB := n0_; clear n0_; (try clear hb); (try clear hb2); (try clear hk); (try clear hi)) | ((with_reducible refine gate_callee (f := 22) rfl ?_); refine goesL_ (some 18) rfl rfl Tryz.func22 (by kernel_rfl) rfl #[.agg #[.string (⟨#[97]⟩ : ByteArray), .string (⟨#[118, 49, 46, 49, 48, 46, 48]⟩ : ByteArray)], .agg #[.string (⟨#[97, 47, 98]⟩ : ByteArray), .string (⟨#[118, 48, 46, 48, 46, 49]⟩ : ByteArray)]] rfl (by (try simp only [List.map_toArray, List.map_cons, List.map_nil]); first | done | rfl | (simp only [List.length_drop, List.length_take]; rfl)) ?_; (with_reducible refine (node_Cmp.calls k (⟨#[97]⟩ : ByteArray) (⟨#[118, 49, 46, 49, 48, 46, 48]⟩ : ByteArray) (⟨#[97, 47, 98]⟩ : ByteArray) (⟨#[118, 48, 46, 48, 46, 49]⟩ : ByteArray) t226 t227 _ A2.out).mono ?_); rintro e w22 ⟨rfl, hb⟩; refine ⟨_, rfl, ?_⟩; have n0_ := Aside0.mk (below_step (by repeat (first | (with_reducible first | exact HB.out | apply below_alloc | apply pw_below_drewN | apply below_drew1) | exact HB.out)) hb); clear HB; have HB := n0_; clear n0_; (try clear hb); (try clear hb2); (try clear hk); (try clear hi)) | ((with_reducible refine gate_dst (N := 24) rfl ?_); (try (refine gate_guard (by rfl) ?_; dsimp only)); refine Kd.R_lit k32 _ 32 ?hg (N := 24) ?hd (xs := ([(⟨(⟨#[97]⟩ : ByteArray), (⟨#[118, 49, 46, 57, 46, 48]⟩ : ByteArray)⟩ : S32), (⟨(⟨#[97]⟩ : ByteArray), (⟨#[118, 49, 46, 57, 46, 48]⟩ : ByteArray)⟩ : S32)] : List (S32))) (inner := [.string (⟨#[97]⟩ : ByteArray), .string (⟨#[118, 49, 46, 57, 46, 48]⟩ : ByteArray), .string (⟨#[97]⟩ : ByteArray), .string (⟨#[118, 49, 46, 57, 46, 48]⟩ : ByteArray)]) (ok := fun _ => True) (okp := fun _ => True) ?hr ?hp (fun _ hk => hk) trivial (Below.refl _ _) (Nat.le_refl _) (by simp) ?_; (case hd => rfl); (case hg => rfl); (case hr => first | (go_simp; done) | (go_simp; rfl)); (case hp => exact (Reps.c2 (show Kd.M k32 _ _ _ (⟨(⟨#[97]⟩ : ByteArray), (⟨#[118, 49, 46, 57, 46, 48]⟩ : ByteArray)⟩ : S32) [.string (⟨#[97]⟩ : ByteArray), .string (⟨#[118, 49, 46, 57, 46, 48]⟩ : ByteArray)] from (k32_mkM _ _ _ (⟨(⟨#[97]⟩ : ByteArray), (⟨#[118, 49, 46, 57, 46, 48]⟩ : ByteArray)⟩ : S32) )) (Reps.c2 (show Kd.M k32 _ _ _ (⟨(⟨#[97]⟩ : ByteArray), (⟨#[118, 49, 46, 57, 46, 48]⟩ : ByteArray)⟩ : S32) [.string (⟨#[97]⟩ : ByteArray), .string (⟨#[118, 49, 46, 57, 46, 48]⟩ : ByteArray)] from (k32_mkM _ _ _ (⟨(⟨#[97]⟩ : ByteArray), (⟨#[118, 49, 46, 57, 46, 48]⟩ : ByteArray)⟩ : S32) )) (Reps.none _ _)))); intro v229 w23 ho24 hb hg_ hnew_; clear hg_ hnew_; (first | rw [← Ny228.out] at ho24 | (simp only [Int.reduceToNat] at ho24; rw [← Ny228.out] at ho24)); have n0_ := Aside0.mk (Kd.R_lower ho24 (below_size (by repeat (first | (with_reducible first | exact HB.out | apply below_alloc | apply pw_below_drewN | apply below_drew1) | exact HB.out)))); have n1_ := Aside0.mk (below_step (by repeat (first | (with_reducible first | exact HB.out | apply below_alloc | apply pw_below_drewN | apply below_drew1) | exact HB.out)) hb); clear HB; have HO230 := n0_; have HB := n1_; clear n0_ n1_; clear hb ho24; obtain ⟨Ao25, co25, eo25⟩ := Kd.R_slice HO230.out; subst eo25) | ((with_reducible refine gate_callee (f := 13) rfl ?_); refine goesL_ (some 25) rfl rfl Tryz.func13 (by kernel_rfl) rfl #[.slice Ao25 y228.length co25] rfl (by (try simp only [List.map_toArray, List.map_cons, List.map_nil]); first | done | rfl | (simp only [List.length_drop, List.length_take]; rfl)) ?_; (with_reducible refine (node_Set.calls _ _ y228 t231 t232 _ ?side1 ?side2 A3.out).mono ?_); (case side1 => repeat (first | exact (Kd.R_reads' HO230.out).2.2 | (with_reducible refine Kd.C_alloc ?_ _) | (with_reducible refine Kd.C_drewN ?_ _) | (with_reducible refine Kd.C_drew ?_))); (case side2 => exact (Kd.R_reads' HO230.out).2.1); rintro e w26 ⟨v233, rfl, ho0, hb⟩; refine ⟨_, rfl, ?_⟩; have n0_ := Aside0.mk (Kd.R_elder' (by (with_reducible repeat (first | apply Kd.R_alloc | apply Kd.R_drewN | apply Kd.R_drew)); exact HO230.out) (Kd.R_base ho0) hb); have n1_ := Aside0.mk (Kd.R_lower (Kd.R_new' ho0 (Kd.R_lt (by (with_reducible repeat (first | apply Kd.R_alloc | apply Kd.R_drewN | apply Kd.R_drew)); exact HO230.out))) (below_size (by repeat (first | (with_reducible first | exact HB.out | apply below_alloc | apply pw_below_drewN | apply below_drew1) | exact HB.out)))); have n2_ := Aside0.mk (below_step (by repeat (first | (with_reducible first | exact HB.out | apply below_alloc | apply pw_below_drewN | apply below_drew1) | exact HB.out)) hb); clear HO230; clear HB; have HO230 := n0_; have HO234 := n1_; have HB := n2_; clear n0_ n1_ n2_; (try clear hb); (try clear hb2); (try clear hk); (try clear hi); (try clear ho0)) | ((with_reducible refine gate_callee (f := 23) rfl ?_); refine goesL_ (some 29) rfl rfl Tryz.func23 (by kernel_rfl) rfl #[.string (⟨#[97, 64]⟩ : ByteArray)] rfl (by (try simp only [List.map_toArray, List.map_cons, List.map_nil]); first | done | rfl | (simp only [List.length_drop, List.length_take]; rfl)) ?_; (with_reducible refine (node_Read.calls k (⟨#[97, 64]⟩ : ByteArray) t235 t236 t237 _ A4.out).mono ?_); rintro e w27 ⟨rfl, hb⟩; refine ⟨_, rfl, ?_⟩; have n0_ := Aside0.mk (Kd.R_below (by (with_reducible repeat (first | apply Kd.R_alloc | apply Kd.R_drewN | apply Kd.R_drew)); exact HO230.out) hb); have n1_ := Aside0.mk (Kd.R_below (by (with_reducible repeat (first | apply Kd.R_alloc | apply Kd.R_drewN | apply Kd.R_drew)); exact HO234.out) hb); have n2_ := Aside0.mk (below_step (by repeat (first | (with_reducible first | exact HB.out | apply below_alloc | apply pw_below_drewN | apply below_drew1) | exact HB.out)) hb); clear HO230; clear HO234; clear HB; have HO230 := n0_; have HO234 := n1_; have HB := n2_; clear n0_ n1_ n2_; (try clear hb); (try clear hb2); (try clear hk); (try clear hi)) | ((with_reducible refine gate_dst (N := 7) rfl ?_); (try (refine gate_guard (by rfl) ?_; dsimp only)); refine box_event ?hg (N := 7) ?hd (cs := #[.string (⟨#[]⟩ : ByteArray), .string (⟨#[]⟩ : ByteArray)]) (t := 32) ?hr ?_; (case hd => rfl); (case hg => rfl); (case hr => first | (go_simp; done) | (go_simp; rfl)); intro gb238 hg w28 hbox hb; have n0_ := Aside0.mk (Kd.R_below (Kd.R_elderB (by (with_reducible repeat (first | apply Kd.R_alloc | apply Kd.R_drewN | apply Kd.R_drew)); exact HO230.out) gb238 (Nat.le_of_eq hg.symm)) hb); have n1_ := Aside0.mk (Kd.R_below (Kd.R_elderB (by (with_reducible repeat (first | apply Kd.R_alloc | apply Kd.R_drewN | apply Kd.R_drew)); exact HO234.out) gb238 (Nat.le_of_eq hg.symm)) hb); have n2_ := Aside0.mk (below_step (by repeat (first | (with_reducible first | exact HB.out | apply below_alloc | apply pw_below_drewN | apply below_drew1) | exact HB.out)) hb); have n3_ := Aside0.mk (hbox); have n4_ := Aside0.mk ((by rw [hg]; exact (below_size (by repeat (first | (with_reducible first | exact HB.out | apply below_alloc | apply pw_below_drewN | apply below_drew1) | exact HB.out))) : w.heap.size ≤ gb238)); have n5_ := Aside0.mk ((by rw [hg]; exact (below_size (by repeat (first | (with_reducible first | exact HB.out | apply below_alloc | apply pw_below_drewN | apply below_drew1) | exact HB.out))) : w.heap.size ≤ gb238)); clear HO230; clear HO234; clear HB; have HO230 := n0_; have HO234 := n1_; have HB := n2_; have BK238 := n3_; have GW238 := n4_; have GE238 := n5_; clear n0_ n1_ n2_ n3_ n4_ n5_; clear hb hbox hg; have hcz29_0 : w28.cell? ⟨gb238, 0, none⟩ = some (.string (⟨#[]⟩ : ByteArray)) := (blk_cell BK238.out 0).trans rfl; have hcz29_1 : w28.cell? ⟨gb238, 1, none⟩ = some (.string (⟨#[]⟩ : ByteArray)) := (blk_cell BK238.out 1).trans rfl; have hfz29_0 := blk_frozen BK238.out 0; have hfz29_1 := blk_frozen BK238.out 1; obtain ⟨Ao30, co30, eo30⟩ := Kd.R_slice HO234.out; subst eo30))
              go_ret
              exact ⟨by first | rfl | (simp [errW_none, errW_some] <;> rfl) | (simp [*, errW_none, errW_some] <;> rfl), by repeat (first | (with_reducible first | exact HB.out | apply below_alloc | apply pw_below_drewN | apply below_drew1 | refine below_set ?_ GE238.out) | exact HB.out)⟩
          · rw [if_neg c9] at H
            have c9b0 : ((t231.length : Int) == 1) = false := beq_eq_false_iff_ne.mpr c9
            have c9b1 : ((t231.length : Int) != 1) = true := bne_iff_ne.mpr c9
            obtain rfl := Option.some.inj H
            go_enter Tryz.func8, Tryz.ntmps8
            go_wp2_with (first | ((with_reducible refine gate_callee (f := 22) rfl ?_); refine goesL_ (some 12) rfl rfl Tryz.func22 (by kernel_rfl) rfl #[.agg #[.string (⟨#[97]⟩ : ByteArray), .string (⟨#[118, 49, 46, 57, 46, 48]⟩ : ByteArray)], .agg #[.string (⟨#[97]⟩ : ByteArray), .string (⟨#[118, 49, 46, 49, 48, 46, 48]⟩ : ByteArray)]] rfl (by (try simp only [List.map_toArray, List.map_cons, List.map_nil]); first | done | rfl | (simp only [List.length_drop, List.length_take]; rfl)) ?_; (with_reducible refine (node_Cmp.calls k (⟨#[97]⟩ : ByteArray) (⟨#[118, 49, 46, 57, 46, 48]⟩ : ByteArray) (⟨#[97]⟩ : ByteArray) (⟨#[118, 49, 46, 49, 48, 46, 48]⟩ : ByteArray) t224 t225 _ A1.out).mono ?_); rintro e w31 ⟨rfl, hb⟩; refine ⟨_, rfl, ?_⟩; have n0_ := Aside0.mk (below_step (by repeat (first | (with_reducible first | exact HB.out | apply below_alloc | apply pw_below_drewN | apply below_drew1) | exact HB.out)) hb); clear HB; have HB := n0_; clear n0_; (try clear hb); (try clear hb2); (try clear hk); (try clear hi)) | ((with_reducible refine gate_callee (f := 22) rfl ?_); refine goesL_ (some 18) rfl rfl Tryz.func22 (by kernel_rfl) rfl #[.agg #[.string (⟨#[97]⟩ : ByteArray), .string (⟨#[118, 49, 46, 49, 48, 46, 48]⟩ : ByteArray)], .agg #[.string (⟨#[97, 47, 98]⟩ : ByteArray), .string (⟨#[118, 48, 46, 48, 46, 49]⟩ : ByteArray)]] rfl (by (try simp only [List.map_toArray, List.map_cons, List.map_nil]); first | done | rfl | (simp only [List.length_drop, List.length_take]; rfl)) ?_; (with_reducible refine (node_Cmp.calls k (⟨#[97]⟩ : ByteArray) (⟨#[118, 49, 46, 49, 48, 46, 48]⟩ : ByteArray) (⟨#[97, 47, 98]⟩ : ByteArray) (⟨#[118, 48, 46, 48, 46, 49]⟩ : ByteArray) t226 t227 _ A2.out).mono ?_); rintro e w32 ⟨rfl, hb⟩; refine ⟨_, rfl, ?_⟩; have n0_ := Aside0.mk (below_step (by repeat (first | (with_reducible first | exact HB.out | apply below_alloc | apply pw_below_drewN | apply below_drew1) | exact HB.out)) hb); clear HB; have HB := n0_; clear n0_; (try clear hb); (try clear hb2); (try clear hk); (try clear hi)) | ((with_reducible refine gate_dst (N := 24) rfl ?_); (try (refine gate_guard (by rfl) ?_; dsimp only)); refine Kd.R_lit k32 _ 32 ?hg (N := 24) ?hd (xs := ([(⟨(⟨#[97]⟩ : ByteArray), (⟨#[118, 49, 46, 57, 46, 48]⟩ : ByteArray)⟩ : S32), (⟨(⟨#[97]⟩ : ByteArray), (⟨#[118, 49, 46, 57, 46, 48]⟩ : ByteArray)⟩ : S32)] : List (S32))) (inner := [.string (⟨#[97]⟩ : ByteArray), .string (⟨#[118, 49, 46, 57, 46, 48]⟩ : ByteArray), .string (⟨#[97]⟩ : ByteArray), .string (⟨#[118, 49, 46, 57, 46, 48]⟩ : ByteArray)]) (ok := fun _ => True) (okp := fun _ => True) ?hr ?hp (fun _ hk => hk) trivial (Below.refl _ _) (Nat.le_refl _) (by simp) ?_; (case hd => rfl); (case hg => rfl); (case hr => first | (go_simp; done) | (go_simp; rfl)); (case hp => exact (Reps.c2 (show Kd.M k32 _ _ _ (⟨(⟨#[97]⟩ : ByteArray), (⟨#[118, 49, 46, 57, 46, 48]⟩ : ByteArray)⟩ : S32) [.string (⟨#[97]⟩ : ByteArray), .string (⟨#[118, 49, 46, 57, 46, 48]⟩ : ByteArray)] from (k32_mkM _ _ _ (⟨(⟨#[97]⟩ : ByteArray), (⟨#[118, 49, 46, 57, 46, 48]⟩ : ByteArray)⟩ : S32) )) (Reps.c2 (show Kd.M k32 _ _ _ (⟨(⟨#[97]⟩ : ByteArray), (⟨#[118, 49, 46, 57, 46, 48]⟩ : ByteArray)⟩ : S32) [.string (⟨#[97]⟩ : ByteArray), .string (⟨#[118, 49, 46, 57, 46, 48]⟩ : ByteArray)] from (k32_mkM _ _ _ (⟨(⟨#[97]⟩ : ByteArray), (⟨#[118, 49, 46, 57, 46, 48]⟩ : ByteArray)⟩ : S32) )) (Reps.none _ _)))); intro v229 w33 ho34 hb hg_ hnew_; clear hg_ hnew_; (first | rw [← Ny228.out] at ho34 | (simp only [Int.reduceToNat] at ho34; rw [← Ny228.out] at ho34)); have n0_ := Aside0.mk (Kd.R_lower ho34 (below_size (by repeat (first | (with_reducible first | exact HB.out | apply below_alloc | apply pw_below_drewN | apply below_drew1) | exact HB.out)))); have n1_ := Aside0.mk (below_step (by repeat (first | (with_reducible first | exact HB.out | apply below_alloc | apply pw_below_drewN | apply below_drew1) | exact HB.out)) hb); clear HB; have HO230 := n0_; have HB := n1_; clear n0_ n1_; clear hb ho34; obtain ⟨Ao35, co35, eo35⟩ := Kd.R_slice HO230.out; subst eo35) | ((with_reducible refine gate_callee (f := 13) rfl ?_); refine goesL_ (some 25) rfl rfl Tryz.func13 (by kernel_rfl) rfl #[.slice Ao35 y228.length co35] rfl (by (try simp only [List.map_toArray, List.map_cons, List.map_nil]); first | done | rfl | (simp only [List.length_drop, List.length_take]; rfl)) ?_; (with_reducible refine (node_Set.calls _ _ y228 t231 t232 _ ?side1 ?side2 A3.out).mono ?_); (case side1 => repeat (first | exact (Kd.R_reads' HO230.out).2.2 | (with_reducible refine Kd.C_alloc ?_ _) | (with_reducible refine Kd.C_drewN ?_ _) | (with_reducible refine Kd.C_drew ?_))); (case side2 => exact (Kd.R_reads' HO230.out).2.1); rintro e w36 ⟨v233, rfl, ho0, hb⟩; refine ⟨_, rfl, ?_⟩; have n0_ := Aside0.mk (Kd.R_elder' (by (with_reducible repeat (first | apply Kd.R_alloc | apply Kd.R_drewN | apply Kd.R_drew)); exact HO230.out) (Kd.R_base ho0) hb); have n1_ := Aside0.mk (Kd.R_lower (Kd.R_new' ho0 (Kd.R_lt (by (with_reducible repeat (first | apply Kd.R_alloc | apply Kd.R_drewN | apply Kd.R_drew)); exact HO230.out))) (below_size (by repeat (first | (with_reducible first | exact HB.out | apply below_alloc | apply pw_below_drewN | apply below_drew1) | exact HB.out)))); have n2_ := Aside0.mk (below_step (by repeat (first | (with_reducible first | exact HB.out | apply below_alloc | apply pw_below_drewN | apply below_drew1) | exact HB.out)) hb); clear HO230; clear HB; have HO230 := n0_; have HO234 := n1_; have HB := n2_; clear n0_ n1_ n2_; (try clear hb); (try clear hb2); (try clear hk); (try clear hi); (try clear ho0)) | ((with_reducible refine gate_callee (f := 23) rfl ?_); refine goesL_ (some 29) rfl rfl Tryz.func23 (by kernel_rfl) rfl #[.string (⟨#[97, 64]⟩ : ByteArray)] rfl (by (try simp only [List.map_toArray, List.map_cons, List.map_nil]); first | done | rfl | (simp only [List.length_drop, List.length_take]; rfl)) ?_; (with_reducible refine (node_Read.calls k (⟨#[97, 64]⟩ : ByteArray) t235 t236 t237 _ A4.out).mono ?_); rintro e w37 ⟨rfl, hb⟩; refine ⟨_, rfl, ?_⟩; have n0_ := Aside0.mk (Kd.R_below (by (with_reducible repeat (first | apply Kd.R_alloc | apply Kd.R_drewN | apply Kd.R_drew)); exact HO230.out) hb); have n1_ := Aside0.mk (Kd.R_below (by (with_reducible repeat (first | apply Kd.R_alloc | apply Kd.R_drewN | apply Kd.R_drew)); exact HO234.out) hb); have n2_ := Aside0.mk (below_step (by repeat (first | (with_reducible first | exact HB.out | apply below_alloc | apply pw_below_drewN | apply below_drew1) | exact HB.out)) hb); clear HO230; clear HO234; clear HB; have HO230 := n0_; have HO234 := n1_; have HB := n2_; clear n0_ n1_ n2_; (try clear hb); (try clear hb2); (try clear hk); (try clear hi)) | ((with_reducible refine gate_dst (N := 7) rfl ?_); (try (refine gate_guard (by rfl) ?_; dsimp only)); refine box_event ?hg (N := 7) ?hd (cs := #[.string (⟨#[]⟩ : ByteArray), .string (⟨#[]⟩ : ByteArray)]) (t := 32) ?hr ?_; (case hd => rfl); (case hg => rfl); (case hr => first | (go_simp; done) | (go_simp; rfl)); intro gb238 hg w38 hbox hb; have n0_ := Aside0.mk (Kd.R_below (Kd.R_elderB (by (with_reducible repeat (first | apply Kd.R_alloc | apply Kd.R_drewN | apply Kd.R_drew)); exact HO230.out) gb238 (Nat.le_of_eq hg.symm)) hb); have n1_ := Aside0.mk (Kd.R_below (Kd.R_elderB (by (with_reducible repeat (first | apply Kd.R_alloc | apply Kd.R_drewN | apply Kd.R_drew)); exact HO234.out) gb238 (Nat.le_of_eq hg.symm)) hb); have n2_ := Aside0.mk (below_step (by repeat (first | (with_reducible first | exact HB.out | apply below_alloc | apply pw_below_drewN | apply below_drew1) | exact HB.out)) hb); have n3_ := Aside0.mk (hbox); have n4_ := Aside0.mk ((by rw [hg]; exact (below_size (by repeat (first | (with_reducible first | exact HB.out | apply below_alloc | apply pw_below_drewN | apply below_drew1) | exact HB.out))) : w.heap.size ≤ gb238)); have n5_ := Aside0.mk ((by rw [hg]; exact (below_size (by repeat (first | (with_reducible first | exact HB.out | apply below_alloc | apply pw_below_drewN | apply below_drew1) | exact HB.out))) : w.heap.size ≤ gb238)); clear HO230; clear HO234; clear HB; have HO230 := n0_; have HO234 := n1_; have HB := n2_; have BK238 := n3_; have GW238 := n4_; have GE238 := n5_; clear n0_ n1_ n2_ n3_ n4_ n5_; clear hb hbox hg; have hcz39_0 : w38.cell? ⟨gb238, 0, none⟩ = some (.string (⟨#[]⟩ : ByteArray)) := (blk_cell BK238.out 0).trans rfl; have hcz39_1 : w38.cell? ⟨gb238, 1, none⟩ = some (.string (⟨#[]⟩ : ByteArray)) := (blk_cell BK238.out 1).trans rfl; have hfz39_0 := blk_frozen BK238.out 0; have hfz39_1 := blk_frozen BK238.out 1; obtain ⟨Ao40, co40, eo40⟩ := Kd.R_slice HO234.out; subst eo40))
            go_ret
            exact ⟨by first | rfl | (simp [errW_none, errW_some] <;> rfl) | (simp [*, errW_none, errW_some] <;> rfl), by repeat (first | (with_reducible first | exact HB.out | apply below_alloc | apply pw_below_drewN | apply below_drew1 | refine below_set ?_ GE238.out) | exact HB.out)⟩
        · rw [if_neg c8] at H
          have c8b0 : (t227 == 0) = false := beq_eq_false_iff_ne.mpr c8
          have c8b1 : (t227 != 0) = true := bne_iff_ne.mpr c8
          obtain rfl := Option.some.inj H
          go_enter Tryz.func8, Tryz.ntmps8
          go_wp2_with (first | ((with_reducible refine gate_callee (f := 22) rfl ?_); refine goesL_ (some 12) rfl rfl Tryz.func22 (by kernel_rfl) rfl #[.agg #[.string (⟨#[97]⟩ : ByteArray), .string (⟨#[118, 49, 46, 57, 46, 48]⟩ : ByteArray)], .agg #[.string (⟨#[97]⟩ : ByteArray), .string (⟨#[118, 49, 46, 49, 48, 46, 48]⟩ : ByteArray)]] rfl (by (try simp only [List.map_toArray, List.map_cons, List.map_nil]); first | done | rfl | (simp only [List.length_drop, List.length_take]; rfl)) ?_; (with_reducible refine (node_Cmp.calls k (⟨#[97]⟩ : ByteArray) (⟨#[118, 49, 46, 57, 46, 48]⟩ : ByteArray) (⟨#[97]⟩ : ByteArray) (⟨#[118, 49, 46, 49, 48, 46, 48]⟩ : ByteArray) t224 t225 _ A1.out).mono ?_); rintro e w41 ⟨rfl, hb⟩; refine ⟨_, rfl, ?_⟩; have n0_ := Aside0.mk (below_step (by repeat (first | (with_reducible first | exact HB.out | apply below_alloc | apply pw_below_drewN | apply below_drew1) | exact HB.out)) hb); clear HB; have HB := n0_; clear n0_; (try clear hb); (try clear hb2); (try clear hk); (try clear hi)) | ((with_reducible refine gate_callee (f := 22) rfl ?_); refine goesL_ (some 18) rfl rfl Tryz.func22 (by kernel_rfl) rfl #[.agg #[.string (⟨#[97]⟩ : ByteArray), .string (⟨#[118, 49, 46, 49, 48, 46, 48]⟩ : ByteArray)], .agg #[.string (⟨#[97, 47, 98]⟩ : ByteArray), .string (⟨#[118, 48, 46, 48, 46, 49]⟩ : ByteArray)]] rfl (by (try simp only [List.map_toArray, List.map_cons, List.map_nil]); first | done | rfl | (simp only [List.length_drop, List.length_take]; rfl)) ?_; (with_reducible refine (node_Cmp.calls k (⟨#[97]⟩ : ByteArray) (⟨#[118, 49, 46, 49, 48, 46, 48]⟩ : ByteArray) (⟨#[97, 47, 98]⟩ : ByteArray) (⟨#[118, 48, 46, 48, 46, 49]⟩ : ByteArray) t226 t227 _ A2.out).mono ?_); rintro e w42 ⟨rfl, hb⟩; refine ⟨_, rfl, ?_⟩; have n0_ := Aside0.mk (below_step (by repeat (first | (with_reducible first | exact HB.out | apply below_alloc | apply pw_below_drewN | apply below_drew1) | exact HB.out)) hb); clear HB; have HB := n0_; clear n0_; (try clear hb); (try clear hb2); (try clear hk); (try clear hi)) | ((with_reducible refine gate_dst (N := 24) rfl ?_); (try (refine gate_guard (by rfl) ?_; dsimp only)); refine Kd.R_lit k32 _ 32 ?hg (N := 24) ?hd (xs := ([(⟨(⟨#[97]⟩ : ByteArray), (⟨#[118, 49, 46, 57, 46, 48]⟩ : ByteArray)⟩ : S32), (⟨(⟨#[97]⟩ : ByteArray), (⟨#[118, 49, 46, 57, 46, 48]⟩ : ByteArray)⟩ : S32)] : List (S32))) (inner := [.string (⟨#[97]⟩ : ByteArray), .string (⟨#[118, 49, 46, 57, 46, 48]⟩ : ByteArray), .string (⟨#[97]⟩ : ByteArray), .string (⟨#[118, 49, 46, 57, 46, 48]⟩ : ByteArray)]) (ok := fun _ => True) (okp := fun _ => True) ?hr ?hp (fun _ hk => hk) trivial (Below.refl _ _) (Nat.le_refl _) (by simp) ?_; (case hd => rfl); (case hg => rfl); (case hr => first | (go_simp; done) | (go_simp; rfl)); (case hp => exact (Reps.c2 (show Kd.M k32 _ _ _ (⟨(⟨#[97]⟩ : ByteArray), (⟨#[118, 49, 46, 57, 46, 48]⟩ : ByteArray)⟩ : S32) [.string (⟨#[97]⟩ : ByteArray), .string (⟨#[118, 49, 46, 57, 46, 48]⟩ : ByteArray)] from (k32_mkM _ _ _ (⟨(⟨#[97]⟩ : ByteArray), (⟨#[118, 49, 46, 57, 46, 48]⟩ : ByteArray)⟩ : S32) )) (Reps.c2 (show Kd.M k32 _ _ _ (⟨(⟨#[97]⟩ : ByteArray), (⟨#[118, 49, 46, 57, 46, 48]⟩ : ByteArray)⟩ : S32) [.string (⟨#[97]⟩ : ByteArray), .string (⟨#[118, 49, 46, 57, 46, 48]⟩ : ByteArray)] from (k32_mkM _ _ _ (⟨(⟨#[97]⟩ : ByteArray), (⟨#[118, 49, 46, 57, 46, 48]⟩ : ByteArray)⟩ : S32) )) (Reps.none _ _)))); intro v229 w43 ho44 hb hg_ hnew_; clear hg_ hnew_; (first | rw [← Ny228.out] at ho44 | (simp only [Int.reduceToNat] at ho44; rw [← Ny228.out] at ho44)); have n0_ := Aside0.mk (Kd.R_lower ho44 (below_size (by repeat (first | (with_reducible first | exact HB.out | apply below_alloc | apply pw_below_drewN | apply below_drew1) | exact HB.out)))); have n1_ := Aside0.mk (below_step (by repeat (first | (with_reducible first | exact HB.out | apply below_alloc | apply pw_below_drewN | apply below_drew1) | exact HB.out)) hb); clear HB; have HO230 := n0_; have HB := n1_; clear n0_ n1_; clear hb ho44; obtain ⟨Ao45, co45, eo45⟩ := Kd.R_slice HO230.out; subst eo45) | ((with_reducible refine gate_callee (f := 13) rfl ?_); refine goesL_ (some 25) rfl rfl Tryz.func13 (by kernel_rfl) rfl #[.slice Ao45 y228.length co45] rfl (by (try simp only [List.map_toArray, List.map_cons, List.map_nil]); first | done | rfl | (simp only [List.length_drop, List.length_take]; rfl)) ?_; (with_reducible refine (node_Set.calls _ _ y228 t231 t232 _ ?side1 ?side2 A3.out).mono ?_); (case side1 => repeat (first | exact (Kd.R_reads' HO230.out).2.2 | (with_reducible refine Kd.C_alloc ?_ _) | (with_reducible refine Kd.C_drewN ?_ _) | (with_reducible refine Kd.C_drew ?_))); (case side2 => exact (Kd.R_reads' HO230.out).2.1); rintro e w46 ⟨v233, rfl, ho0, hb⟩; refine ⟨_, rfl, ?_⟩; have n0_ := Aside0.mk (Kd.R_elder' (by (with_reducible repeat (first | apply Kd.R_alloc | apply Kd.R_drewN | apply Kd.R_drew)); exact HO230.out) (Kd.R_base ho0) hb); have n1_ := Aside0.mk (Kd.R_lower (Kd.R_new' ho0 (Kd.R_lt (by (with_reducible repeat (first | apply Kd.R_alloc | apply Kd.R_drewN | apply Kd.R_drew)); exact HO230.out))) (below_size (by repeat (first | (with_reducible first | exact HB.out | apply below_alloc | apply pw_below_drewN | apply below_drew1) | exact HB.out)))); have n2_ := Aside0.mk (below_step (by repeat (first | (with_reducible first | exact HB.out | apply below_alloc | apply pw_below_drewN | apply below_drew1) | exact HB.out)) hb); clear HO230; clear HB; have HO230 := n0_; have HO234 := n1_; have HB := n2_; clear n0_ n1_ n2_; (try clear hb); (try clear hb2); (try clear hk); (try clear hi); (try clear ho0)) | ((with_reducible refine gate_callee (f := 23) rfl ?_); refine goesL_ (some 29) rfl rfl Tryz.func23 (by kernel_rfl) rfl #[.string (⟨#[97, 64]⟩ : ByteArray)] rfl (by (try simp only [List.map_toArray, List.map_cons, List.map_nil]); first | done | rfl | (simp only [List.length_drop, List.length_take]; rfl)) ?_; (with_reducible refine (node_Read.calls k (⟨#[97, 64]⟩ : ByteArray) t235 t236 t237 _ A4.out).mono ?_); rintro e w47 ⟨rfl, hb⟩; refine ⟨_, rfl, ?_⟩; have n0_ := Aside0.mk (Kd.R_below (by (with_reducible repeat (first | apply Kd.R_alloc | apply Kd.R_drewN | apply Kd.R_drew)); exact HO230.out) hb); have n1_ := Aside0.mk (Kd.R_below (by (with_reducible repeat (first | apply Kd.R_alloc | apply Kd.R_drewN | apply Kd.R_drew)); exact HO234.out) hb); have n2_ := Aside0.mk (below_step (by repeat (first | (with_reducible first | exact HB.out | apply below_alloc | apply pw_below_drewN | apply below_drew1) | exact HB.out)) hb); clear HO230; clear HO234; clear HB; have HO230 := n0_; have HO234 := n1_; have HB := n2_; clear n0_ n1_ n2_; (try clear hb); (try clear hb2); (try clear hk); (try clear hi)) | ((with_reducible refine gate_dst (N := 7) rfl ?_); (try (refine gate_guard (by rfl) ?_; dsimp only)); refine box_event ?hg (N := 7) ?hd (cs := #[.string (⟨#[]⟩ : ByteArray), .string (⟨#[]⟩ : ByteArray)]) (t := 32) ?hr ?_; (case hd => rfl); (case hg => rfl); (case hr => first | (go_simp; done) | (go_simp; rfl)); intro gb238 hg w48 hbox hb; have n0_ := Aside0.mk (Kd.R_below (Kd.R_elderB (by (with_reducible repeat (first | apply Kd.R_alloc | apply Kd.R_drewN | apply Kd.R_drew)); exact HO230.out) gb238 (Nat.le_of_eq hg.symm)) hb); have n1_ := Aside0.mk (Kd.R_below (Kd.R_elderB (by (with_reducible repeat (first | apply Kd.R_alloc | apply Kd.R_drewN | apply Kd.R_drew)); exact HO234.out) gb238 (Nat.le_of_eq hg.symm)) hb); have n2_ := Aside0.mk (below_step (by repeat (first | (with_reducible first | exact HB.out | apply below_alloc | apply pw_below_drewN | apply below_drew1) | exact HB.out)) hb); have n3_ := Aside0.mk (hbox); have n4_ := Aside0.mk ((by rw [hg]; exact (below_size (by repeat (first | (with_reducible first | exact HB.out | apply below_alloc | apply pw_below_drewN | apply below_drew1) | exact HB.out))) : w.heap.size ≤ gb238)); have n5_ := Aside0.mk ((by rw [hg]; exact (below_size (by repeat (first | (with_reducible first | exact HB.out | apply below_alloc | apply pw_below_drewN | apply below_drew1) | exact HB.out))) : w.heap.size ≤ gb238)); clear HO230; clear HO234; clear HB; have HO230 := n0_; have HO234 := n1_; have HB := n2_; have BK238 := n3_; have GW238 := n4_; have GE238 := n5_; clear n0_ n1_ n2_ n3_ n4_ n5_; clear hb hbox hg; have hcz49_0 : w48.cell? ⟨gb238, 0, none⟩ = some (.string (⟨#[]⟩ : ByteArray)) := (blk_cell BK238.out 0).trans rfl; have hcz49_1 : w48.cell? ⟨gb238, 1, none⟩ = some (.string (⟨#[]⟩ : ByteArray)) := (blk_cell BK238.out 1).trans rfl; have hfz49_0 := blk_frozen BK238.out 0; have hfz49_1 := blk_frozen BK238.out 1))
          go_ret
          exact ⟨by first | rfl | (simp [errW_none, errW_some] <;> rfl) | (simp [*, errW_none, errW_some] <;> rfl), by repeat (first | (with_reducible first | exact HB.out | apply below_alloc | apply pw_below_drewN | apply below_drew1 | refine below_set ?_ GE238.out) | exact HB.out)⟩
      · rw [if_neg c7] at H
        have c7b0 : (t226 == (-1)) = false := beq_eq_false_iff_ne.mpr c7
        have c7b1 : (t226 != (-1)) = true := bne_iff_ne.mpr c7
        obtain rfl := Option.some.inj H
        go_enter Tryz.func8, Tryz.ntmps8
        go_wp2_with (first | ((with_reducible refine gate_callee (f := 22) rfl ?_); refine goesL_ (some 12) rfl rfl Tryz.func22 (by kernel_rfl) rfl #[.agg #[.string (⟨#[97]⟩ : ByteArray), .string (⟨#[118, 49, 46, 57, 46, 48]⟩ : ByteArray)], .agg #[.string (⟨#[97]⟩ : ByteArray), .string (⟨#[118, 49, 46, 49, 48, 46, 48]⟩ : ByteArray)]] rfl (by (try simp only [List.map_toArray, List.map_cons, List.map_nil]); first | done | rfl | (simp only [List.length_drop, List.length_take]; rfl)) ?_; (with_reducible refine (node_Cmp.calls k (⟨#[97]⟩ : ByteArray) (⟨#[118, 49, 46, 57, 46, 48]⟩ : ByteArray) (⟨#[97]⟩ : ByteArray) (⟨#[118, 49, 46, 49, 48, 46, 48]⟩ : ByteArray) t224 t225 _ A1.out).mono ?_); rintro e w50 ⟨rfl, hb⟩; refine ⟨_, rfl, ?_⟩; have n0_ := Aside0.mk (below_step (by repeat (first | (with_reducible first | exact HB.out | apply below_alloc | apply pw_below_drewN | apply below_drew1) | exact HB.out)) hb); clear HB; have HB := n0_; clear n0_; (try clear hb); (try clear hb2); (try clear hk); (try clear hi)) | ((with_reducible refine gate_callee (f := 22) rfl ?_); refine goesL_ (some 18) rfl rfl Tryz.func22 (by kernel_rfl) rfl #[.agg #[.string (⟨#[97]⟩ : ByteArray), .string (⟨#[118, 49, 46, 49, 48, 46, 48]⟩ : ByteArray)], .agg #[.string (⟨#[97, 47, 98]⟩ : ByteArray), .string (⟨#[118, 48, 46, 48, 46, 49]⟩ : ByteArray)]] rfl (by (try simp only [List.map_toArray, List.map_cons, List.map_nil]); first | done | rfl | (simp only [List.length_drop, List.length_take]; rfl)) ?_; (with_reducible refine (node_Cmp.calls k (⟨#[97]⟩ : ByteArray) (⟨#[118, 49, 46, 49, 48, 46, 48]⟩ : ByteArray) (⟨#[97, 47, 98]⟩ : ByteArray) (⟨#[118, 48, 46, 48, 46, 49]⟩ : ByteArray) t226 t227 _ A2.out).mono ?_); rintro e w51 ⟨rfl, hb⟩; refine ⟨_, rfl, ?_⟩; have n0_ := Aside0.mk (below_step (by repeat (first | (with_reducible first | exact HB.out | apply below_alloc | apply pw_below_drewN | apply below_drew1) | exact HB.out)) hb); clear HB; have HB := n0_; clear n0_; (try clear hb); (try clear hb2); (try clear hk); (try clear hi)) | ((with_reducible refine gate_dst (N := 24) rfl ?_); (try (refine gate_guard (by rfl) ?_; dsimp only)); refine Kd.R_lit k32 _ 32 ?hg (N := 24) ?hd (xs := ([(⟨(⟨#[97]⟩ : ByteArray), (⟨#[118, 49, 46, 57, 46, 48]⟩ : ByteArray)⟩ : S32), (⟨(⟨#[97]⟩ : ByteArray), (⟨#[118, 49, 46, 57, 46, 48]⟩ : ByteArray)⟩ : S32)] : List (S32))) (inner := [.string (⟨#[97]⟩ : ByteArray), .string (⟨#[118, 49, 46, 57, 46, 48]⟩ : ByteArray), .string (⟨#[97]⟩ : ByteArray), .string (⟨#[118, 49, 46, 57, 46, 48]⟩ : ByteArray)]) (ok := fun _ => True) (okp := fun _ => True) ?hr ?hp (fun _ hk => hk) trivial (Below.refl _ _) (Nat.le_refl _) (by simp) ?_; (case hd => rfl); (case hg => rfl); (case hr => first | (go_simp; done) | (go_simp; rfl)); (case hp => exact (Reps.c2 (show Kd.M k32 _ _ _ (⟨(⟨#[97]⟩ : ByteArray), (⟨#[118, 49, 46, 57, 46, 48]⟩ : ByteArray)⟩ : S32) [.string (⟨#[97]⟩ : ByteArray), .string (⟨#[118, 49, 46, 57, 46, 48]⟩ : ByteArray)] from (k32_mkM _ _ _ (⟨(⟨#[97]⟩ : ByteArray), (⟨#[118, 49, 46, 57, 46, 48]⟩ : ByteArray)⟩ : S32) )) (Reps.c2 (show Kd.M k32 _ _ _ (⟨(⟨#[97]⟩ : ByteArray), (⟨#[118, 49, 46, 57, 46, 48]⟩ : ByteArray)⟩ : S32) [.string (⟨#[97]⟩ : ByteArray), .string (⟨#[118, 49, 46, 57, 46, 48]⟩ : ByteArray)] from (k32_mkM _ _ _ (⟨(⟨#[97]⟩ : ByteArray), (⟨#[118, 49, 46, 57, 46, 48]⟩ : ByteArray)⟩ : S32) )) (Reps.none _ _)))); intro v229 w52 ho53 hb hg_ hnew_; clear hg_ hnew_; (first | rw [← Ny228.out] at ho53 | (simp only [Int.reduceToNat] at ho53; rw [← Ny228.out] at ho53)); have n0_ := Aside0.mk (Kd.R_lower ho53 (below_size (by repeat (first | (with_reducible first | exact HB.out | apply below_alloc | apply pw_below_drewN | apply below_drew1) | exact HB.out)))); have n1_ := Aside0.mk (below_step (by repeat (first | (with_reducible first | exact HB.out | apply below_alloc | apply pw_below_drewN | apply below_drew1) | exact HB.out)) hb); clear HB; have HO230 := n0_; have HB := n1_; clear n0_ n1_; clear hb ho53; obtain ⟨Ao54, co54, eo54⟩ := Kd.R_slice HO230.out; subst eo54) | ((with_reducible refine gate_callee (f := 13) rfl ?_); refine goesL_ (some 25) rfl rfl Tryz.func13 (by kernel_rfl) rfl #[.slice Ao54 y228.length co54] rfl (by (try simp only [List.map_toArray, List.map_cons, List.map_nil]); first | done | rfl | (simp only [List.length_drop, List.length_take]; rfl)) ?_; (with_reducible refine (node_Set.calls _ _ y228 t231 t232 _ ?side1 ?side2 A3.out).mono ?_); (case side1 => repeat (first | exact (Kd.R_reads' HO230.out).2.2 | (with_reducible refine Kd.C_alloc ?_ _) | (with_reducible refine Kd.C_drewN ?_ _) | (with_reducible refine Kd.C_drew ?_))); (case side2 => exact (Kd.R_reads' HO230.out).2.1); rintro e w55 ⟨v233, rfl, ho0, hb⟩; refine ⟨_, rfl, ?_⟩; have n0_ := Aside0.mk (Kd.R_elder' (by (with_reducible repeat (first | apply Kd.R_alloc | apply Kd.R_drewN | apply Kd.R_drew)); exact HO230.out) (Kd.R_base ho0) hb); have n1_ := Aside0.mk (Kd.R_lower (Kd.R_new' ho0 (Kd.R_lt (by (with_reducible repeat (first | apply Kd.R_alloc | apply Kd.R_drewN | apply Kd.R_drew)); exact HO230.out))) (below_size (by repeat (first | (with_reducible first | exact HB.out | apply below_alloc | apply pw_below_drewN | apply below_drew1) | exact HB.out)))); have n2_ := Aside0.mk (below_step (by repeat (first | (with_reducible first | exact HB.out | apply below_alloc | apply pw_below_drewN | apply below_drew1) | exact HB.out)) hb); clear HO230; clear HB; have HO230 := n0_; have HO234 := n1_; have HB := n2_; clear n0_ n1_ n2_; (try clear hb); (try clear hb2); (try clear hk); (try clear hi); (try clear ho0)) | ((with_reducible refine gate_callee (f := 23) rfl ?_); refine goesL_ (some 29) rfl rfl Tryz.func23 (by kernel_rfl) rfl #[.string (⟨#[97, 64]⟩ : ByteArray)] rfl (by (try simp only [List.map_toArray, List.map_cons, List.map_nil]); first | done | rfl | (simp only [List.length_drop, List.length_take]; rfl)) ?_; (with_reducible refine (node_Read.calls k (⟨#[97, 64]⟩ : ByteArray) t235 t236 t237 _ A4.out).mono ?_); rintro e w56 ⟨rfl, hb⟩; refine ⟨_, rfl, ?_⟩; have n0_ := Aside0.mk (Kd.R_below (by (with_reducible repeat (first | apply Kd.R_alloc | apply Kd.R_drewN | apply Kd.R_drew)); exact HO230.out) hb); have n1_ := Aside0.mk (Kd.R_below (by (with_reducible repeat (first | apply Kd.R_alloc | apply Kd.R_drewN | apply Kd.R_drew)); exact HO234.out) hb); have n2_ := Aside0.mk (below_step (by repeat (first | (with_reducible first | exact HB.out | apply below_alloc | apply pw_below_drewN | apply below_drew1) | exact HB.out)) hb); clear HO230; clear HO234; clear HB; have HO230 := n0_; have HO234 := n1_; have HB := n2_; clear n0_ n1_ n2_; (try clear hb); (try clear hb2); (try clear hk); (try clear hi)) | ((with_reducible refine gate_dst (N := 7) rfl ?_); (try (refine gate_guard (by rfl) ?_; dsimp only)); refine box_event ?hg (N := 7) ?hd (cs := #[.string (⟨#[]⟩ : ByteArray), .string (⟨#[]⟩ : ByteArray)]) (t := 32) ?hr ?_; (case hd => rfl); (case hg => rfl); (case hr => first | (go_simp; done) | (go_simp; rfl)); intro gb238 hg w57 hbox hb; have n0_ := Aside0.mk (Kd.R_below (Kd.R_elderB (by (with_reducible repeat (first | apply Kd.R_alloc | apply Kd.R_drewN | apply Kd.R_drew)); exact HO230.out) gb238 (Nat.le_of_eq hg.symm)) hb); have n1_ := Aside0.mk (Kd.R_below (Kd.R_elderB (by (with_reducible repeat (first | apply Kd.R_alloc | apply Kd.R_drewN | apply Kd.R_drew)); exact HO234.out) gb238 (Nat.le_of_eq hg.symm)) hb); have n2_ := Aside0.mk (below_step (by repeat (first | (with_reducible first | exact HB.out | apply below_alloc | apply pw_below_drewN | apply below_drew1) | exact HB.out)) hb); have n3_ := Aside0.mk (hbox); have n4_ := Aside0.mk ((by rw [hg]; exact (below_size (by repeat (first | (with_reducible first | exact HB.out | apply below_alloc | apply pw_below_drewN | apply below_drew1) | exact HB.out))) : w.heap.size ≤ gb238)); have n5_ := Aside0.mk ((by rw [hg]; exact (below_size (by repeat (first | (with_reducible first | exact HB.out | apply below_alloc | apply pw_below_drewN | apply below_drew1) | exact HB.out))) : w.heap.size ≤ gb238)); clear HO230; clear HO234; clear HB; have HO230 := n0_; have HO234 := n1_; have HB := n2_; have BK238 := n3_; have GW238 := n4_; have GE238 := n5_; clear n0_ n1_ n2_ n3_ n4_ n5_; clear hb hbox hg; have hcz58_0 : w57.cell? ⟨gb238, 0, none⟩ = some (.string (⟨#[]⟩ : ByteArray)) := (blk_cell BK238.out 0).trans rfl; have hcz58_1 : w57.cell? ⟨gb238, 1, none⟩ = some (.string (⟨#[]⟩ : ByteArray)) := (blk_cell BK238.out 1).trans rfl; have hfz58_0 := blk_frozen BK238.out 0; have hfz58_1 := blk_frozen BK238.out 1))
        go_ret
        exact ⟨by first | rfl | (simp [errW_none, errW_some] <;> rfl) | (simp [*, errW_none, errW_some] <;> rfl), by repeat (first | (with_reducible first | exact HB.out | apply below_alloc | apply pw_below_drewN | apply below_drew1 | refine below_set ?_ GE238.out) | exact HB.out)⟩
    · rw [if_neg c6] at H
      have c6b0 : (t225 == 0) = false := beq_eq_false_iff_ne.mpr c6
      have c6b1 : (t225 != 0) = true := bne_iff_ne.mpr c6
      obtain rfl := Option.some.inj H
      go_enter Tryz.func8, Tryz.ntmps8
      go_wp2_with (first | ((with_reducible refine gate_callee (f := 22) rfl ?_); refine goesL_ (some 12) rfl rfl Tryz.func22 (by kernel_rfl) rfl #[.agg #[.string (⟨#[97]⟩ : ByteArray), .string (⟨#[118, 49, 46, 57, 46, 48]⟩ : ByteArray)], .agg #[.string (⟨#[97]⟩ : ByteArray), .string (⟨#[118, 49, 46, 49, 48, 46, 48]⟩ : ByteArray)]] rfl (by (try simp only [List.map_toArray, List.map_cons, List.map_nil]); first | done | rfl | (simp only [List.length_drop, List.length_take]; rfl)) ?_; (with_reducible refine (node_Cmp.calls k (⟨#[97]⟩ : ByteArray) (⟨#[118, 49, 46, 57, 46, 48]⟩ : ByteArray) (⟨#[97]⟩ : ByteArray) (⟨#[118, 49, 46, 49, 48, 46, 48]⟩ : ByteArray) t224 t225 _ A1.out).mono ?_); rintro e w59 ⟨rfl, hb⟩; refine ⟨_, rfl, ?_⟩; have n0_ := Aside0.mk (below_step (by repeat (first | (with_reducible first | exact HB.out | apply below_alloc | apply pw_below_drewN | apply below_drew1) | exact HB.out)) hb); clear HB; have HB := n0_; clear n0_; (try clear hb); (try clear hb2); (try clear hk); (try clear hi)) | ((with_reducible refine gate_callee (f := 22) rfl ?_); refine goesL_ (some 18) rfl rfl Tryz.func22 (by kernel_rfl) rfl #[.agg #[.string (⟨#[97]⟩ : ByteArray), .string (⟨#[118, 49, 46, 49, 48, 46, 48]⟩ : ByteArray)], .agg #[.string (⟨#[97, 47, 98]⟩ : ByteArray), .string (⟨#[118, 48, 46, 48, 46, 49]⟩ : ByteArray)]] rfl (by (try simp only [List.map_toArray, List.map_cons, List.map_nil]); first | done | rfl | (simp only [List.length_drop, List.length_take]; rfl)) ?_; (with_reducible refine (node_Cmp.calls k (⟨#[97]⟩ : ByteArray) (⟨#[118, 49, 46, 49, 48, 46, 48]⟩ : ByteArray) (⟨#[97, 47, 98]⟩ : ByteArray) (⟨#[118, 48, 46, 48, 46, 49]⟩ : ByteArray) t226 t227 _ A2.out).mono ?_); rintro e w60 ⟨rfl, hb⟩; refine ⟨_, rfl, ?_⟩; have n0_ := Aside0.mk (below_step (by repeat (first | (with_reducible first | exact HB.out | apply below_alloc | apply pw_below_drewN | apply below_drew1) | exact HB.out)) hb); clear HB; have HB := n0_; clear n0_; (try clear hb); (try clear hb2); (try clear hk); (try clear hi)) | ((with_reducible refine gate_dst (N := 24) rfl ?_); (try (refine gate_guard (by rfl) ?_; dsimp only)); refine Kd.R_lit k32 _ 32 ?hg (N := 24) ?hd (xs := ([(⟨(⟨#[97]⟩ : ByteArray), (⟨#[118, 49, 46, 57, 46, 48]⟩ : ByteArray)⟩ : S32), (⟨(⟨#[97]⟩ : ByteArray), (⟨#[118, 49, 46, 57, 46, 48]⟩ : ByteArray)⟩ : S32)] : List (S32))) (inner := [.string (⟨#[97]⟩ : ByteArray), .string (⟨#[118, 49, 46, 57, 46, 48]⟩ : ByteArray), .string (⟨#[97]⟩ : ByteArray), .string (⟨#[118, 49, 46, 57, 46, 48]⟩ : ByteArray)]) (ok := fun _ => True) (okp := fun _ => True) ?hr ?hp (fun _ hk => hk) trivial (Below.refl _ _) (Nat.le_refl _) (by simp) ?_; (case hd => rfl); (case hg => rfl); (case hr => first | (go_simp; done) | (go_simp; rfl)); (case hp => exact (Reps.c2 (show Kd.M k32 _ _ _ (⟨(⟨#[97]⟩ : ByteArray), (⟨#[118, 49, 46, 57, 46, 48]⟩ : ByteArray)⟩ : S32) [.string (⟨#[97]⟩ : ByteArray), .string (⟨#[118, 49, 46, 57, 46, 48]⟩ : ByteArray)] from (k32_mkM _ _ _ (⟨(⟨#[97]⟩ : ByteArray), (⟨#[118, 49, 46, 57, 46, 48]⟩ : ByteArray)⟩ : S32) )) (Reps.c2 (show Kd.M k32 _ _ _ (⟨(⟨#[97]⟩ : ByteArray), (⟨#[118, 49, 46, 57, 46, 48]⟩ : ByteArray)⟩ : S32) [.string (⟨#[97]⟩ : ByteArray), .string (⟨#[118, 49, 46, 57, 46, 48]⟩ : ByteArray)] from (k32_mkM _ _ _ (⟨(⟨#[97]⟩ : ByteArray), (⟨#[118, 49, 46, 57, 46, 48]⟩ : ByteArray)⟩ : S32) )) (Reps.none _ _)))); intro v229 w61 ho62 hb hg_ hnew_; clear hg_ hnew_; (first | rw [← Ny228.out] at ho62 | (simp only [Int.reduceToNat] at ho62; rw [← Ny228.out] at ho62)); have n0_ := Aside0.mk (Kd.R_lower ho62 (below_size (by repeat (first | (with_reducible first | exact HB.out | apply below_alloc | apply pw_below_drewN | apply below_drew1) | exact HB.out)))); have n1_ := Aside0.mk (below_step (by repeat (first | (with_reducible first | exact HB.out | apply below_alloc | apply pw_below_drewN | apply below_drew1) | exact HB.out)) hb); clear HB; have HO230 := n0_; have HB := n1_; clear n0_ n1_; clear hb ho62; obtain ⟨Ao63, co63, eo63⟩ := Kd.R_slice HO230.out; subst eo63) | ((with_reducible refine gate_callee (f := 13) rfl ?_); refine goesL_ (some 25) rfl rfl Tryz.func13 (by kernel_rfl) rfl #[.slice Ao63 y228.length co63] rfl (by (try simp only [List.map_toArray, List.map_cons, List.map_nil]); first | done | rfl | (simp only [List.length_drop, List.length_take]; rfl)) ?_; (with_reducible refine (node_Set.calls _ _ y228 t231 t232 _ ?side1 ?side2 A3.out).mono ?_); (case side1 => repeat (first | exact (Kd.R_reads' HO230.out).2.2 | (with_reducible refine Kd.C_alloc ?_ _) | (with_reducible refine Kd.C_drewN ?_ _) | (with_reducible refine Kd.C_drew ?_))); (case side2 => exact (Kd.R_reads' HO230.out).2.1); rintro e w64 ⟨v233, rfl, ho0, hb⟩; refine ⟨_, rfl, ?_⟩; have n0_ := Aside0.mk (Kd.R_elder' (by (with_reducible repeat (first | apply Kd.R_alloc | apply Kd.R_drewN | apply Kd.R_drew)); exact HO230.out) (Kd.R_base ho0) hb); have n1_ := Aside0.mk (Kd.R_lower (Kd.R_new' ho0 (Kd.R_lt (by (with_reducible repeat (first | apply Kd.R_alloc | apply Kd.R_drewN | apply Kd.R_drew)); exact HO230.out))) (below_size (by repeat (first | (with_reducible first | exact HB.out | apply below_alloc | apply pw_below_drewN | apply below_drew1) | exact HB.out)))); have n2_ := Aside0.mk (below_step (by repeat (first | (with_reducible first | exact HB.out | apply below_alloc | apply pw_below_drewN | apply below_drew1) | exact HB.out)) hb); clear HO230; clear HB; have HO230 := n0_; have HO234 := n1_; have HB := n2_; clear n0_ n1_ n2_; (try clear hb); (try clear hb2); (try clear hk); (try clear hi); (try clear ho0)) | ((with_reducible refine gate_callee (f := 23) rfl ?_); refine goesL_ (some 29) rfl rfl Tryz.func23 (by kernel_rfl) rfl #[.string (⟨#[97, 64]⟩ : ByteArray)] rfl (by (try simp only [List.map_toArray, List.map_cons, List.map_nil]); first | done | rfl | (simp only [List.length_drop, List.length_take]; rfl)) ?_; (with_reducible refine (node_Read.calls k (⟨#[97, 64]⟩ : ByteArray) t235 t236 t237 _ A4.out).mono ?_); rintro e w65 ⟨rfl, hb⟩; refine ⟨_, rfl, ?_⟩; have n0_ := Aside0.mk (Kd.R_below (by (with_reducible repeat (first | apply Kd.R_alloc | apply Kd.R_drewN | apply Kd.R_drew)); exact HO230.out) hb); have n1_ := Aside0.mk (Kd.R_below (by (with_reducible repeat (first | apply Kd.R_alloc | apply Kd.R_drewN | apply Kd.R_drew)); exact HO234.out) hb); have n2_ := Aside0.mk (below_step (by repeat (first | (with_reducible first | exact HB.out | apply below_alloc | apply pw_below_drewN | apply below_drew1) | exact HB.out)) hb); clear HO230; clear HO234; clear HB; have HO230 := n0_; have HO234 := n1_; have HB := n2_; clear n0_ n1_ n2_; (try clear hb); (try clear hb2); (try clear hk); (try clear hi)) | ((with_reducible refine gate_dst (N := 7) rfl ?_); (try (refine gate_guard (by rfl) ?_; dsimp only)); refine box_event ?hg (N := 7) ?hd (cs := #[.string (⟨#[]⟩ : ByteArray), .string (⟨#[]⟩ : ByteArray)]) (t := 32) ?hr ?_; (case hd => rfl); (case hg => rfl); (case hr => first | (go_simp; done) | (go_simp; rfl)); intro gb238 hg w66 hbox hb; have n0_ := Aside0.mk (Kd.R_below (Kd.R_elderB (by (with_reducible repeat (first | apply Kd.R_alloc | apply Kd.R_drewN | apply Kd.R_drew)); exact HO230.out) gb238 (Nat.le_of_eq hg.symm)) hb); have n1_ := Aside0.mk (Kd.R_below (Kd.R_elderB (by (with_reducible repeat (first | apply Kd.R_alloc | apply Kd.R_drewN | apply Kd.R_drew)); exact HO234.out) gb238 (Nat.le_of_eq hg.symm)) hb); have n2_ := Aside0.mk (below_step (by repeat (first | (with_reducible first | exact HB.out | apply below_alloc | apply pw_below_drewN | apply below_drew1) | exact HB.out)) hb); have n3_ := Aside0.mk (hbox); have n4_ := Aside0.mk ((by rw [hg]; exact (below_size (by repeat (first | (with_reducible first | exact HB.out | apply below_alloc | apply pw_below_drewN | apply below_drew1) | exact HB.out))) : w.heap.size ≤ gb238)); have n5_ := Aside0.mk ((by rw [hg]; exact (below_size (by repeat (first | (with_reducible first | exact HB.out | apply below_alloc | apply pw_below_drewN | apply below_drew1) | exact HB.out))) : w.heap.size ≤ gb238)); clear HO230; clear HO234; clear HB; have HO230 := n0_; have HO234 := n1_; have HB := n2_; have BK238 := n3_; have GW238 := n4_; have GE238 := n5_; clear n0_ n1_ n2_ n3_ n4_ n5_; clear hb hbox hg; have hcz67_0 : w66.cell? ⟨gb238, 0, none⟩ = some (.string (⟨#[]⟩ : ByteArray)) := (blk_cell BK238.out 0).trans rfl; have hcz67_1 : w66.cell? ⟨gb238, 1, none⟩ = some (.string (⟨#[]⟩ : ByteArray)) := (blk_cell BK238.out 1).trans rfl; have hfz67_0 := blk_frozen BK238.out 0; have hfz67_1 := blk_frozen BK238.out 1))
      go_ret
      exact ⟨by first | rfl | (simp [errW_none, errW_some] <;> rfl) | (simp [*, errW_none, errW_some] <;> rfl), by repeat (first | (with_reducible first | exact HB.out | apply below_alloc | apply pw_below_drewN | apply below_drew1 | refine below_set ?_ GE238.out) | exact HB.out)⟩
  · rw [if_neg c5] at H
    have c5b0 : (t224 == (-1)) = false := beq_eq_false_iff_ne.mpr c5
    have c5b1 : (t224 != (-1)) = true := bne_iff_ne.mpr c5
    obtain rfl := Option.some.inj H
    go_enter Tryz.func8, Tryz.ntmps8
    go_wp2_with (first | ((with_reducible refine gate_callee (f := 22) rfl ?_); refine goesL_ (some 12) rfl rfl Tryz.func22 (by kernel_rfl) rfl #[.agg #[.string (⟨#[97]⟩ : ByteArray), .string (⟨#[118, 49, 46, 57, 46, 48]⟩ : ByteArray)], .agg #[.string (⟨#[97]⟩ : ByteArray), .string (⟨#[118, 49, 46, 49, 48, 46, 48]⟩ : ByteArray)]] rfl (by (try simp only [List.map_toArray, List.map_cons, List.map_nil]); first | done | rfl | (simp only [List.length_drop, List.length_take]; rfl)) ?_; (with_reducible refine (node_Cmp.calls k (⟨#[97]⟩ : ByteArray) (⟨#[118, 49, 46, 57, 46, 48]⟩ : ByteArray) (⟨#[97]⟩ : ByteArray) (⟨#[118, 49, 46, 49, 48, 46, 48]⟩ : ByteArray) t224 t225 _ A1.out).mono ?_); rintro e w68 ⟨rfl, hb⟩; refine ⟨_, rfl, ?_⟩; have n0_ := Aside0.mk (below_step (by repeat (first | (with_reducible first | exact HB.out | apply below_alloc | apply pw_below_drewN | apply below_drew1) | exact HB.out)) hb); clear HB; have HB := n0_; clear n0_; (try clear hb); (try clear hb2); (try clear hk); (try clear hi)) | ((with_reducible refine gate_callee (f := 22) rfl ?_); refine goesL_ (some 18) rfl rfl Tryz.func22 (by kernel_rfl) rfl #[.agg #[.string (⟨#[97]⟩ : ByteArray), .string (⟨#[118, 49, 46, 49, 48, 46, 48]⟩ : ByteArray)], .agg #[.string (⟨#[97, 47, 98]⟩ : ByteArray), .string (⟨#[118, 48, 46, 48, 46, 49]⟩ : ByteArray)]] rfl (by (try simp only [List.map_toArray, List.map_cons, List.map_nil]); first | done | rfl | (simp only [List.length_drop, List.length_take]; rfl)) ?_; (with_reducible refine (node_Cmp.calls k (⟨#[97]⟩ : ByteArray) (⟨#[118, 49, 46, 49, 48, 46, 48]⟩ : ByteArray) (⟨#[97, 47, 98]⟩ : ByteArray) (⟨#[118, 48, 46, 48, 46, 49]⟩ : ByteArray) t226 t227 _ A2.out).mono ?_); rintro e w69 ⟨rfl, hb⟩; refine ⟨_, rfl, ?_⟩; have n0_ := Aside0.mk (below_step (by repeat (first | (with_reducible first | exact HB.out | apply below_alloc | apply pw_below_drewN | apply below_drew1) | exact HB.out)) hb); clear HB; have HB := n0_; clear n0_; (try clear hb); (try clear hb2); (try clear hk); (try clear hi)) | ((with_reducible refine gate_dst (N := 24) rfl ?_); (try (refine gate_guard (by rfl) ?_; dsimp only)); refine Kd.R_lit k32 _ 32 ?hg (N := 24) ?hd (xs := ([(⟨(⟨#[97]⟩ : ByteArray), (⟨#[118, 49, 46, 57, 46, 48]⟩ : ByteArray)⟩ : S32), (⟨(⟨#[97]⟩ : ByteArray), (⟨#[118, 49, 46, 57, 46, 48]⟩ : ByteArray)⟩ : S32)] : List (S32))) (inner := [.string (⟨#[97]⟩ : ByteArray), .string (⟨#[118, 49, 46, 57, 46, 48]⟩ : ByteArray), .string (⟨#[97]⟩ : ByteArray), .string (⟨#[118, 49, 46, 57, 46, 48]⟩ : ByteArray)]) (ok := fun _ => True) (okp := fun _ => True) ?hr ?hp (fun _ hk => hk) trivial (Below.refl _ _) (Nat.le_refl _) (by simp) ?_; (case hd => rfl); (case hg => rfl); (case hr => first | (go_simp; done) | (go_simp; rfl)); (case hp => exact (Reps.c2 (show Kd.M k32 _ _ _ (⟨(⟨#[97]⟩ : ByteArray), (⟨#[118, 49, 46, 57, 46, 48]⟩ : ByteArray)⟩ : S32) [.string (⟨#[97]⟩ : ByteArray), .string (⟨#[118, 49, 46, 57, 46, 48]⟩ : ByteArray)] from (k32_mkM _ _ _ (⟨(⟨#[97]⟩ : ByteArray), (⟨#[118, 49, 46, 57, 46, 48]⟩ : ByteArray)⟩ : S32) )) (Reps.c2 (show Kd.M k32 _ _ _ (⟨(⟨#[97]⟩ : ByteArray), (⟨#[118, 49, 46, 57, 46, 48]⟩ : ByteArray)⟩ : S32) [.string (⟨#[97]⟩ : ByteArray), .string (⟨#[118, 49, 46, 57, 46, 48]⟩ : ByteArray)] from (k32_mkM _ _ _ (⟨(⟨#[97]⟩ : ByteArray), (⟨#[118, 49, 46, 57, 46, 48]⟩ : ByteArray)⟩ : S32) )) (Reps.none _ _)))); intro v229 w70 ho71 hb hg_ hnew_; clear hg_ hnew_; (first | rw [← Ny228.out] at ho71 | (simp only [Int.reduceToNat] at ho71; rw [← Ny228.out] at ho71)); have n0_ := Aside0.mk (Kd.R_lower ho71 (below_size (by repeat (first | (with_reducible first | exact HB.out | apply below_alloc | apply pw_below_drewN | apply below_drew1) | exact HB.out)))); have n1_ := Aside0.mk (below_step (by repeat (first | (with_reducible first | exact HB.out | apply below_alloc | apply pw_below_drewN | apply below_drew1) | exact HB.out)) hb); clear HB; have HO230 := n0_; have HB := n1_; clear n0_ n1_; clear hb ho71; obtain ⟨Ao72, co72, eo72⟩ := Kd.R_slice HO230.out; subst eo72) | ((with_reducible refine gate_callee (f := 13) rfl ?_); refine goesL_ (some 25) rfl rfl Tryz.func13 (by kernel_rfl) rfl #[.slice Ao72 y228.length co72] rfl (by (try simp only [List.map_toArray, List.map_cons, List.map_nil]); first | done | rfl | (simp only [List.length_drop, List.length_take]; rfl)) ?_; (with_reducible refine (node_Set.calls _ _ y228 t231 t232 _ ?side1 ?side2 A3.out).mono ?_); (case side1 => repeat (first | exact (Kd.R_reads' HO230.out).2.2 | (with_reducible refine Kd.C_alloc ?_ _) | (with_reducible refine Kd.C_drewN ?_ _) | (with_reducible refine Kd.C_drew ?_))); (case side2 => exact (Kd.R_reads' HO230.out).2.1); rintro e w73 ⟨v233, rfl, ho0, hb⟩; refine ⟨_, rfl, ?_⟩; have n0_ := Aside0.mk (Kd.R_elder' (by (with_reducible repeat (first | apply Kd.R_alloc | apply Kd.R_drewN | apply Kd.R_drew)); exact HO230.out) (Kd.R_base ho0) hb); have n1_ := Aside0.mk (Kd.R_lower (Kd.R_new' ho0 (Kd.R_lt (by (with_reducible repeat (first | apply Kd.R_alloc | apply Kd.R_drewN | apply Kd.R_drew)); exact HO230.out))) (below_size (by repeat (first | (with_reducible first | exact HB.out | apply below_alloc | apply pw_below_drewN | apply below_drew1) | exact HB.out)))); have n2_ := Aside0.mk (below_step (by repeat (first | (with_reducible first | exact HB.out | apply below_alloc | apply pw_below_drewN | apply below_drew1) | exact HB.out)) hb); clear HO230; clear HB; have HO230 := n0_; have HO234 := n1_; have HB := n2_; clear n0_ n1_ n2_; (try clear hb); (try clear hb2); (try clear hk); (try clear hi); (try clear ho0)) | ((with_reducible refine gate_callee (f := 23) rfl ?_); refine goesL_ (some 29) rfl rfl Tryz.func23 (by kernel_rfl) rfl #[.string (⟨#[97, 64]⟩ : ByteArray)] rfl (by (try simp only [List.map_toArray, List.map_cons, List.map_nil]); first | done | rfl | (simp only [List.length_drop, List.length_take]; rfl)) ?_; (with_reducible refine (node_Read.calls k (⟨#[97, 64]⟩ : ByteArray) t235 t236 t237 _ A4.out).mono ?_); rintro e w74 ⟨rfl, hb⟩; refine ⟨_, rfl, ?_⟩; have n0_ := Aside0.mk (Kd.R_below (by (with_reducible repeat (first | apply Kd.R_alloc | apply Kd.R_drewN | apply Kd.R_drew)); exact HO230.out) hb); have n1_ := Aside0.mk (Kd.R_below (by (with_reducible repeat (first | apply Kd.R_alloc | apply Kd.R_drewN | apply Kd.R_drew)); exact HO234.out) hb); have n2_ := Aside0.mk (below_step (by repeat (first | (with_reducible first | exact HB.out | apply below_alloc | apply pw_below_drewN | apply below_drew1) | exact HB.out)) hb); clear HO230; clear HO234; clear HB; have HO230 := n0_; have HO234 := n1_; have HB := n2_; clear n0_ n1_ n2_; (try clear hb); (try clear hb2); (try clear hk); (try clear hi)) | ((with_reducible refine gate_dst (N := 7) rfl ?_); (try (refine gate_guard (by rfl) ?_; dsimp only)); refine box_event ?hg (N := 7) ?hd (cs := #[.string (⟨#[]⟩ : ByteArray), .string (⟨#[]⟩ : ByteArray)]) (t := 32) ?hr ?_; (case hd => rfl); (case hg => rfl); (case hr => first | (go_simp; done) | (go_simp; rfl)); intro gb238 hg w75 hbox hb; have n0_ := Aside0.mk (Kd.R_below (Kd.R_elderB (by (with_reducible repeat (first | apply Kd.R_alloc | apply Kd.R_drewN | apply Kd.R_drew)); exact HO230.out) gb238 (Nat.le_of_eq hg.symm)) hb); have n1_ := Aside0.mk (Kd.R_below (Kd.R_elderB (by (with_reducible repeat (first | apply Kd.R_alloc | apply Kd.R_drewN | apply Kd.R_drew)); exact HO234.out) gb238 (Nat.le_of_eq hg.symm)) hb); have n2_ := Aside0.mk (below_step (by repeat (first | (with_reducible first | exact HB.out | apply below_alloc | apply pw_below_drewN | apply below_drew1) | exact HB.out)) hb); have n3_ := Aside0.mk (hbox); have n4_ := Aside0.mk ((by rw [hg]; exact (below_size (by repeat (first | (with_reducible first | exact HB.out | apply below_alloc | apply pw_below_drewN | apply below_drew1) | exact HB.out))) : w.heap.size ≤ gb238)); have n5_ := Aside0.mk ((by rw [hg]; exact (below_size (by repeat (first | (with_reducible first | exact HB.out | apply below_alloc | apply pw_below_drewN | apply below_drew1) | exact HB.out))) : w.heap.size ≤ gb238)); clear HO230; clear HO234; clear HB; have HO230 := n0_; have HO234 := n1_; have HB := n2_; have BK238 := n3_; have GW238 := n4_; have GE238 := n5_; clear n0_ n1_ n2_ n3_ n4_ n5_; clear hb hbox hg; have hcz76_0 : w75.cell? ⟨gb238, 0, none⟩ = some (.string (⟨#[]⟩ : ByteArray)) := (blk_cell BK238.out 0).trans rfl; have hcz76_1 : w75.cell? ⟨gb238, 1, none⟩ = some (.string (⟨#[]⟩ : ByteArray)) := (blk_cell BK238.out 1).trans rfl; have hfz76_0 := blk_frozen BK238.out 0; have hfz76_1 := blk_frozen BK238.out 1))
    go_ret
    exact ⟨by first | rfl | (simp [errW_none, errW_some] <;> rfl) | (simp [*, errW_none, errW_some] <;> rfl), by repeat (first | (with_reducible first | exact HB.out | apply below_alloc | apply pw_below_drewN | apply below_drew1 | refine below_set ?_ GE238.out) | exact HB.out)⟩

end Go.Proofs.YtnknjhdpjjddeaaGreatDoor.Q
end

section
namespace Go.Proofs.YtnknjhdpjjddeaaGreatDoor.Q
open Go.RowKit Go.Proofs.YtnknjhdpjjddeaaGreatDoorW.PrintWords Go.Proofs.YtnknjhdpjjddeaaGreatDoorW.PrintLast Go.Proofs.YtnknjhdpjjddeaaGreatDoorW.PrintMore
attribute [local go_sem] max2_int min2_int max_two min_two max_three min_three max_four min_four   -- for this text's walks alone
set_option linter.unusedVariables false
set_option linter.unusedSimpArgs false

/-! ### graftwoodlaw01_Few: function 24 -/
def graftwoodlaw01_Few.f (a0 : ByteArray) : Option (ByteArray) := if (a0.size : Int) > 400 then (if 0 ≤ 400 then (if 400 ≤ (a0.size : Int) then (some (a0.extract 0 400)) else (none)) else (none)) else (some a0)
set_option maxHeartbeats 8000000 in
set_option maxRecDepth 100000 in
theorem graftwoodlaw01_Few.calls (a0 : ByteArray) (r : ByteArray) (w : World) (h : graftwoodlaw01_Few.f a0 = some r) :
    Calls Tryz.prog 24 #[.string a0] w fun e w' => e = .returned (.string r) ∧ Drawn0 w w' := by
  have H : (if (a0.size : Int) > 400 then (if 0 ≤ 400 then (if 400 ≤ (a0.size : Int) then (some (a0.extract 0 400)) else (none)) else (none)) else (some a0)) = some r := h
  clear h
  by_cases c2 : (a0.size : Int) > 400
  · rw [if_pos c2] at H
    have c2b0 : decide (400 < (a0.size : Int)) = true := decide_eq_true c2
    have c2b1 : decide (400 < a0.size) = true := decide_eq_true (by omega)
    clear c2
    by_cases c3 : 0 ≤ 400
    · rw [if_pos c3] at H
      have c3b0 := eq_true c3
      have c3b1 : decide (0 ≤ 400) = true := decide_eq_true c3
      clear c3
      by_cases c4 : 400 ≤ (a0.size : Int)
      · rw [if_pos c4] at H
        have c4b0 := eq_true c4
        have c4b1 : decide (400 ≤ (a0.size : Int)) = true := decide_eq_true c4
        clear c4
        obtain rfl := Option.some.inj H
        go_enter Tryz.func24, Tryz.ntmps24
        go_wp2
        go_ret
        exact ⟨by first | rfl | (simp; done) | (simp [*]; done), by repeat (first | exact Drawn0.refl _ | apply Drawn0.step)⟩
      · rw [if_neg c4] at H
        exact absurd H (by simp)
    · rw [if_neg c3] at H
      exact absurd H (by simp)
  · rw [if_neg c2] at H
    have c2b0 : decide (400 < (a0.size : Int)) = false := decide_eq_false c2
    have c2b1 : decide (400 < a0.size) = false := decide_eq_false (by omega)
    clear c2
    obtain rfl := Option.some.inj H
    go_enter Tryz.func24, Tryz.ntmps24
    go_wp2
    go_ret
    exact ⟨by first | rfl | (simp; done) | (simp [*]; done), by repeat (first | exact Drawn0.refl _ | apply Drawn0.step)⟩

end Go.Proofs.YtnknjhdpjjddeaaGreatDoor.Q
end

section
namespace Go.Proofs.YtnknjhdpjjddeaaGreatDoor.Q
open Go.RowKit Go.Proofs.YtnknjhdpjjddeaaGreatDoorW.PrintWords Go.Proofs.YtnknjhdpjjddeaaGreatDoorW.PrintLast Go.Proofs.YtnknjhdpjjddeaaGreatDoorW.PrintMore
attribute [local go_sem] max2_int min2_int max_two min_two max_three min_three max_four min_four   -- for this text's walks alone
set_option linter.unusedVariables false
set_option linter.unusedSimpArgs false

/-! ### graftwoodlaw05_One: function 11 -/
def graftwoodlaw05_One.f (a0_0 : ByteArray) (a0_1 : ByteArray) : Option (ByteArray × ByteArray) := (graftwoodlaw01_Few.f a0_0).bind fun t103 => ((graftwoodlaw01_Few.f a0_1).bind fun t104 => (some (t103, t104)))
def graftwoodlaw05_One.T1 : Bool × List (List Nat × List Nat) := (true, [([], []), ([0], [0]), ([1], [1]), ([], []), ([3], [3]), ([4, 2], [4]), ([2, 5], [2, 5]), ([6, 5, 0, 1, 2, 3, 4, 5, 6], [6])])
def graftwoodlaw05_One.B1 : List Nat := [0, 1, 3, 0, 8, 31, 63, 127]
theorem graftwoodlaw05_One.tab1 : rtab .any (opsOf Tryz.f11 1) = graftwoodlaw05_One.T1 := by kernel_rfl
theorem graftwoodlaw05_One.bits1 : waitsOk graftwoodlaw05_One.T1.2 graftwoodlaw05_One.B1 = true := by kernel_rfl
set_option maxHeartbeats 8000000 in
set_option maxRecDepth 100000 in
theorem graftwoodlaw05_One.calls (a0_0 : ByteArray) (a0_1 : ByteArray) (r1 : ByteArray) (r2 : ByteArray) (w : World) (h : graftwoodlaw05_One.f a0_0 a0_1 = some (r1, r2)) :
    Calls Tryz.prog 11 #[.agg #[.string a0_0, .string a0_1]] w fun e w' => e = .returned (.agg #[.string r1, .string r2]) ∧ Below w.heap.size w w' := by
  have hu32 := Tryz.underlying32
  have HB := Aside0.mk (Below.refl w.heap.size w)
  have H : ((graftwoodlaw01_Few.f a0_0).bind fun t103 => ((graftwoodlaw01_Few.f a0_1).bind fun t104 => (some (t103, t104)))) = some (r1, r2) := h
  clear h
  replace H := Option.bind_eq_some_iff.mp H
  obtain ⟨t103, A20, H⟩ := H
  replace H : ((graftwoodlaw01_Few.f a0_1).bind fun t104 => (some (t103, t104))) = some (r1, r2) := H
  have A2 := Aside0.mk A20
  clear A20
  replace H := Option.bind_eq_some_iff.mp H
  obtain ⟨t104, A30, H⟩ := H
  replace H : (some (t103, t104)) = some (r1, r2) := H
  have A3 := Aside0.mk A30
  clear A30
  simp only [Option.some.injEq, Prod.mk.injEq] at H
  obtain ⟨rfl, rfl⟩ := H
  go_enter Tryz.func11, Tryz.ntmps11
  try go_wp2_with (first | ((with_reducible refine gate_dst (N := 1) rfl ?_); refine box_event ?hg (N := 1) ?hd (cs := #[.string a0_0, .string a0_1]) (t := 32) ?hr ?_; (case hd => rfl); (case hg => rfl); (case hr => first | (go_simp; done) | (go_simp; rfl)); intro gb101 hg w4 hbox hb; have n0_ := Aside0.mk (below_step (by repeat (first | (with_reducible first | exact HB.out | apply below_alloc | apply pw_below_drewN | apply below_drew1) | exact HB.out)) hb); have n1_ := Aside0.mk (hbox); have n2_ := Aside0.mk ((by rw [hg]; exact (below_size (by repeat (first | (with_reducible first | exact HB.out | apply below_alloc | apply pw_below_drewN | apply below_drew1) | exact HB.out))) : w.heap.size ≤ gb101)); have n3_ := Aside0.mk ((by rw [hg]; exact (below_size (by repeat (first | (with_reducible first | exact HB.out | apply below_alloc | apply pw_below_drewN | apply below_drew1) | exact HB.out))) : w.heap.size ≤ gb101)); clear HB; have HB := n0_; have BK101 := n1_; have GW101 := n2_; have GE101 := n3_; clear n0_ n1_ n2_ n3_; clear hb hbox hg) | ((with_reducible refine gate_dst (N := 2) rfl ?_); refine box_event ?hg (N := 2) ?hd (cs := #[.string (⟨#[]⟩ : ByteArray), .string (⟨#[]⟩ : ByteArray)]) (t := 32) ?hr ?_; (case hd => rfl); (case hg => rfl); (case hr => first | (go_simp; done) | (go_simp; rfl)); intro gb102 hg w5 hbox hb; have n0_ := Aside0.mk (blk_below (g := gb101) (o := .cells #[.string a0_0, .string a0_1] 32 (0, 0)) (by (with_reducible repeat (first | refine blk_drewN ?_ _ | refine blk_drew ?_ | refine blk_alloc ?_ _)); exact BK101.out) hb); have n1_ := Aside0.mk (below_step (by repeat (first | (with_reducible first | exact HB.out | apply below_alloc | apply pw_below_drewN | apply below_drew1 | refine below_set ?_ GE101.out) | exact HB.out)) hb); have n2_ := Aside0.mk (hbox); have n3_ := Aside0.mk ((by rw [hg]; exact (below_size (by repeat (first | (with_reducible first | exact HB.out | apply below_alloc | apply pw_below_drewN | apply below_drew1 | refine below_set ?_ GE101.out) | exact HB.out))) : w.heap.size ≤ gb102)); have n4_ := Aside0.mk ((by rw [hg]; exact (below_size (by repeat (first | (with_reducible first | exact HB.out | apply below_alloc | apply pw_below_drewN | apply below_drew1 | refine below_set ?_ GE101.out) | exact HB.out))) : w.heap.size ≤ gb102)); have n5_ := Aside0.mk ((by rw [hg]; exact Nat.ne_of_lt (blk_lt (g := gb101) (o := .cells #[.string a0_0, .string a0_1] 32 (0, 0)) (by (with_reducible repeat (first | refine blk_drewN ?_ _ | refine blk_drew ?_ | refine blk_alloc ?_ _)); exact BK101.out)) : gb101 ≠ gb102)); have n6_ := Aside0.mk ((by rw [hg]; exact Nat.ne_of_gt (blk_lt (g := gb101) (o := .cells #[.string a0_0, .string a0_1] 32 (0, 0)) (by (with_reducible repeat (first | refine blk_drewN ?_ _ | refine blk_drew ?_ | refine blk_alloc ?_ _)); exact BK101.out)) : gb102 ≠ gb101)); clear BK101; clear HB; have BK101 := n0_; have HB := n1_; have BK102 := n2_; have GW102 := n3_; have GE102 := n4_; have NB101_102 := n5_; have NB102_101 := n6_; clear n0_ n1_ n2_ n3_ n4_ n5_ n6_; clear hb hbox hg))
  have n0_ := Aside0.mk (blk_drew BK101.out)
  have n1_ := Aside0.mk (blk_drew BK102.out)
  have n2_ := Aside0.mk (below_drew1 HB.out)
  clear BK101
  clear BK102
  clear HB
  have BK101 := n0_
  have BK102 := n1_
  have HB := n2_
  clear n0_ n1_ n2_
  refine start_ (n := 8) (S := fun w' => w'.cell? ⟨gb101, 0, none⟩ = some (.string a0_0) ∧ w'.cell? ⟨gb101, 1, none⟩ = some (.string a0_1)) (ds := []) #[false, false, false, false, false, false, false, false] (by kernel_rfl) rfl rfl ⟨(blk_cell BK101.out 0).trans rfl, (blk_cell BK101.out 1).trans rfl⟩ (fun hHeld => ?_); refine with_tabW graftwoodlaw05_One.tab1 graftwoodlaw05_One.bits1 (fun HT_ HW_ => ?_)
  generalize w5.drew = w6 at BK101 BK102 HB hHeld ⊢
  refine pure_ (i := 0) (N := some 3) (v := ?_) (a' := ?_) #[true, false, false, false, false, false, false, false] rfl rfl (any_of HT_.out (by kernel_rfl)) (fun _ _ _ h => h) (Or.inl ⟨by rfl, ?_⟩) ?_ ?_
  rotate_left
  · intro w'
    go_simp
    with_reducible rfl
  rotate_left
  · simp only [Act.put, List.setIfInBounds_toArray, List.set_cons_zero, List.set_cons_succ, i64_w, i32_w]
    rfl
  refine pure_ (i := 3) (N := some 6) (v := ?_) (a' := ?_) #[true, false, false, true, false, false, false, false] rfl rfl (any_of HT_.out (by kernel_rfl)) (fun _ _ _ h => h) (Or.inl ⟨by rfl, ?_⟩) ?_ ?_
  rotate_left
  · intro w'
    go_simp
    with_reducible rfl
  rotate_left
  · simp only [Act.put, List.setIfInBounds_toArray, List.set_cons_zero, List.set_cons_succ, i64_w, i32_w]
    rfl
  refine take_ (i := 1) (N := some 4) (v := ?_) (a' := ?_) #[true, true, false, true, false, false, false, false] rfl rfl (take_ofW HT_.out HW_.out (by kernel_rfl)) (fun _ _ _ h => h) (Or.inl ⟨by rfl, ?_⟩) hHeld ?_ ?_
  rotate_left
  · rintro w' ⟨s0, s1⟩
    go_simp
    with_reducible rfl
  rotate_left
  · simp only [Act.put, List.setIfInBounds_toArray, List.set_cons_zero, List.set_cons_succ, i64_w, i32_w]
    rfl
  refine take_ (i := 4) (N := some 7) (v := ?_) (a' := ?_) #[true, true, false, true, true, false, false, false] rfl rfl (take_ofW HT_.out HW_.out (by kernel_rfl)) (fun _ _ _ h => h) (Or.inl ⟨by rfl, ?_⟩) hHeld ?_ ?_
  rotate_left
  · rintro w' ⟨s0, s1⟩
    go_simp
    with_reducible rfl
  rotate_left
  · simp only [Act.put, List.setIfInBounds_toArray, List.set_cons_zero, List.set_cons_succ, i64_w, i32_w]
    rfl
  refine one_ (i := 2) (N := some 5) #[true, true, true, true, true, false, false, false] rfl rfl (one_of HT_.out (by kernel_rfl)) (by decide) (fun K hK => ?_)
  refine goes_ Tryz.func24 (by kernel_rfl) rfl #[.string a0_0] (by rfl) rfl rfl (by (try simp only [List.map_toArray, List.map_cons, List.map_nil]); first | done | rfl | (simp only [List.length_drop, List.length_take]; rfl)) ?_
  with_reducible refine (graftwoodlaw01_Few.calls a0_0 t103 _ A2.out).mono ?_
  rintro e w' ⟨rfl, ⟨nd, rfl⟩⟩
  refine ⟨_, rfl, ?_⟩
  refine hK.out _ _ ⟨(blk_cell BK101.out 0).trans rfl, (blk_cell BK101.out 1).trans rfl⟩ (fun hHeld => ?_)
  clear hK K
  refine norm_ (a' := ?_) ?_ ?_
  rotate_left
  · show Act.put _ (some 5) _ = _
    simp only [Act.put, List.setIfInBounds_toArray, List.set_cons_zero, List.set_cons_succ, i64_w, i32_w]
    rfl
  refine one_ (i := 5) (N := some 8) #[true, true, true, true, true, true, false, false] rfl rfl (one_of HT_.out (by kernel_rfl)) (by decide) (fun K hK => ?_)
  refine goes_ Tryz.func24 (by kernel_rfl) rfl #[.string a0_1] (by rfl) rfl rfl (by (try simp only [List.map_toArray, List.map_cons, List.map_nil]); first | done | rfl | (simp only [List.length_drop, List.length_take]; rfl)) ?_
  with_reducible refine (graftwoodlaw01_Few.calls a0_1 t104 _ A3.out).mono ?_
  rintro e w' ⟨rfl, ⟨nd, rfl⟩⟩
  refine ⟨_, rfl, ?_⟩
  refine hK.out _ _ ⟨(blk_cell BK101.out 0).trans rfl, (blk_cell BK101.out 1).trans rfl⟩ (fun hHeld => ?_)
  clear hK K
  refine norm_ (a' := ?_) ?_ ?_
  rotate_left
  · show Act.put _ (some 8) _ = _
    simp only [Act.put, List.setIfInBounds_toArray, List.set_cons_zero, List.set_cons_succ, i64_w, i32_w]
    rfl
  refine pure_ (i := 6) (N := some 9) (v := ?_) (a' := ?_) #[true, true, true, true, true, true, true, false] rfl rfl (any_of HT_.out (by kernel_rfl)) (fun _ _ _ h => h) (Or.inl ⟨by rfl, ?_⟩) ?_ ?_
  rotate_left
  · intro w'
    go_simp
    with_reducible rfl
  rotate_left
  · simp only [Act.put, List.setIfInBounds_toArray, List.set_cons_zero, List.set_cons_succ, i64_w, i32_w]
    rfl
  refine one_ (i := 7) (N := none) #[true, true, true, true, true, true, true, true] rfl rfl (one_of HT_.out (by kernel_rfl)) (by decide) (fun K hK => ?_)
  have hs7 : w6.cell? ⟨gb102, 0, none⟩ = some (.string (⟨#[]⟩ : ByteArray)) := (blk_cell BK102.out 0).trans rfl
  have hfs7 := blk_frozen BK102.out 0
  have hns7_0 := NB101_102.out
  have hms7_0 := NB102_101.out
  have hs8 : w6.cell? ⟨gb102, 1, none⟩ = some (.string (⟨#[]⟩ : ByteArray)) := (blk_cell BK102.out 1).trans rfl
  have hfs8 := blk_frozen BK102.out 1
  have hns8_0 := NB101_102.out
  have hms8_0 := NB102_101.out
  refine skip_ (w1 := ?_) (by rfl) rfl ?_ ?_
  rotate_left
  · go_simp
    rfl
  refine hK.out _ _ ⟨((cell_far (p := ⟨gb102, _, none⟩) NB101_102.out _).trans (((cell_far (p := ⟨gb102, _, none⟩) NB101_102.out _).trans (hHeld.1)))), ((cell_far (p := ⟨gb102, _, none⟩) NB101_102.out _).trans (((cell_far (p := ⟨gb102, _, none⟩) NB101_102.out _).trans (hHeld.2))))⟩ (fun hHeld => ?_)
  clear hK K
  refine done_ (done_of HT_.out (by kernel_rfl)) ?_
  try go_wp2
  refine bodyPost_ret (results_cell_row rfl _ _ gb102 32 #[.string t103, .string t104] (0, 0) _ rfl (by (with_reducible repeat (first | refine blk_drewN ?_ _ | refine blk_drew ?_ | refine blk_alloc ?_ _)); refine blk_put (cs := #[.string t103, .string (⟨#[]⟩ : ByteArray)]) ?_ 1 _ rfl; (with_reducible repeat (first | refine blk_drewN ?_ _ | refine blk_drew ?_ | refine blk_alloc ?_ _)); refine blk_put (cs := #[.string (⟨#[]⟩ : ByteArray), .string (⟨#[]⟩ : ByteArray)]) ?_ 0 _ rfl; (with_reducible repeat (first | refine blk_drewN ?_ _ | refine blk_drew ?_ | refine blk_alloc ?_ _)); exact BK102.out) Tryz.underlying32 rfl (by kernel_rfl)) rfl ?_
  exact ⟨by first | rfl | (simp [errW_none, errW_some] <;> rfl) | (simp [*, errW_none, errW_some] <;> rfl), by repeat (first | (with_reducible first | exact HB.out | apply below_alloc | apply pw_below_drewN | apply below_drew1 | refine below_set ?_ GE101.out | refine below_set ?_ GE102.out) | exact HB.out)⟩

end Go.Proofs.YtnknjhdpjjddeaaGreatDoor.Q
end

section
namespace Go.Proofs.YtnknjhdpjjddeaaGreatDoor.Q
open Go.Proofs.YtnknjhdpjjddeaaGreatDoor.QB.D
open Go Go.RowKit Go.Lib Go.Proofs.YtnknjhdpjjddeaaGreatDoorW.PrintWords Go.Proofs.YtnknjhdpjjddeaaGreatDoorW.PrintLast Go.Proofs.YtnknjhdpjjddeaaGreatDoorW.PrintMore Gw
set_option linter.unusedVariables false
set_option linter.unusedSimpArgs false
def few (s : ByteArray) : ByteArray := if (s.size : Int) > 400 then s.extract 0 400 else s
theorem few_size (s : ByteArray) : (few s).size ≤ 400 := by
  unfold few
  split
  · rw [ByteArray.size_extract]; omega
  · omega
theorem Few_val (s : ByteArray) : graftwoodlaw01_Few.f s = some (few s) := by
  unfold graftwoodlaw01_Few.f few
  split
  · rw [if_pos (by omega), if_pos (by omega)]
  · rfl
theorem One_val (a b : ByteArray) : graftwoodlaw05_One.f a b = some (few a, few b) := by
  unfold graftwoodlaw05_One.f
  rw [Few_val, Few_val]
  rfl
/-- A node of texts of no more than 400 octets. -/
abbrev Brief (x : S32) : Prop := x.f0.size ≤ 400 ∧ x.f1.size ≤ 400
theorem Brief.tiny {x : S32} (h : Brief x) : TinyN x := by unfold TinyN Tiny; omega
def oneN (x : S32) : S32 := ⟨few x.f0, few x.f1⟩
theorem oneN_brief (x : S32) : Brief (oneN x) := ⟨few_size _, few_size _⟩
end Go.Proofs.YtnknjhdpjjddeaaGreatDoor.Q
end

section
namespace Go.Proofs.YtnknjhdpjjddeaaGreatDoor.Q
open Go.Proofs.YtnknjhdpjjddeaaGreatDoor.QB.D
open Go Go.RowKit Go.Lib Go.Proofs.YtnknjhdpjjddeaaGreatDoorW.PrintWords Go.Proofs.YtnknjhdpjjddeaaGreatDoorW.PrintLast Go.Proofs.YtnknjhdpjjddeaaGreatDoorW.PrintMore Gw
set_option linter.unusedVariables false
set_option linter.unusedSimpArgs false
theorem order_val (k : Nat) (x y : S32) (hx : GoodN x) (hy : GoodN y) : node_order.f (k + 3) x.f0 x.f1 y.f0 y.f1 = some (ordN x y) := by
  unfold node_order.f
  by_cases h : (x.f0.toList == y.f0.toList && x.f1.toList == y.f1.toList) = true
  · rw [if_pos h]
    rw [str_eq, str_eq, Bool.and_eq_true, decide_eq_true_eq, decide_eq_true_eq] at h
    have e : x = y := by cases x; cases y; simp only at h; rw [h.1, h.2]
    subst e
    exact congrArg some ((ordN_to.eq x x hx hx).2 rfl).symm
  · rw [if_neg h]
    have hv : version_Cmp.f x.f1 y.f1 = some (verC (vOf (bs x.f1)) (vOf (bs y.f1)), 0) := by
      unfold version_Cmp.f
      rw [if_pos ⟨hx.2.1, hy.2.1⟩, vparts_of hx.2.2, vparts_of hy.2.2]
      rfl
    rw [hv, octcmp_val]
    simp only [Option.bind_some]
    rw [or2_val]
    rfl
end Go.Proofs.YtnknjhdpjjddeaaGreatDoor.Q
end

section
namespace Go.Proofs.YtnknjhdpjjddeaaGreatDoor.Q
open Go Go.RowKit Go.Lib Go.Proofs.YtnknjhdpjjddeaaGreatDoorW.PrintWords Go.Proofs.YtnknjhdpjjddeaaGreatDoorW.PrintLast Go.Proofs.YtnknjhdpjjddeaaGreatDoorW.PrintMore Gw
set_option linter.unusedVariables false
set_option linter.unusedSimpArgs false
def cmpM (x y : S32) : Int × Int := if mayN x && mayN y then (ordN x y, 0) else (0, 1)
theorem node_Cmp_val (k : Nat) (x y : S32) (hx : Brief x) (hy : Brief y) (hk : 500 ≤ k) : node_Cmp.f k x.f0 x.f1 y.f0 y.f1 = some (cmpM x y) := by
  obtain ⟨j, rfl⟩ : ∃ j, k = j + 3 := ⟨k - 3, by omega⟩
  unfold node_Cmp.f cmpM
  rw [node_May_val _ x hx.tiny (by have := hx.1; omega), node_May_val _ y hy.tiny (by have := hy.1; omega)]
  cases hmx : mayN x
  · rfl
  · cases hmy : mayN y
    · rfl
    · simp only [Option.bind_some, if_true, Bool.and_self]
      rw [order_val j x y (mayN_good hx.tiny hmx) (mayN_good hy.tiny hmy)]
      rfl
end Go.Proofs.YtnknjhdpjjddeaaGreatDoor.Q
end

section
namespace Go.Proofs.YtnknjhdpjjddeaaGreatDoor.Q
open Go.Proofs.YtnknjhdpjjddeaaGreatDoor.QB.D
open Go Go.RowKit Go.Lib Go.Proofs.YtnknjhdpjjddeaaGreatDoorW.PrintWords Go.Proofs.YtnknjhdpjjddeaaGreatDoorW.PrintLast Go.Proofs.YtnknjhdpjjddeaaGreatDoorW.PrintMore Gw
set_option linter.unusedVariables false
set_option linter.unusedSimpArgs false
/-- The texts @, and the nodes, of the chapter's examples. -/
def nA : S32 := ⟨⟨#[97]⟩, ⟨#[118, 49, 46, 57, 46, 48]⟩⟩
def nB : S32 := ⟨⟨#[97]⟩, ⟨#[118, 49, 46, 49, 48, 46, 48]⟩⟩
def nC : S32 := ⟨⟨#[97, 47, 98]⟩, ⟨#[118, 48, 46, 48, 46, 49]⟩⟩
theorem readM_val (k : Nat) (s : ByteArray) (hs : s.size ≤ 1000) (hk : 1100 ≤ k) : node_Read.f k s = some (let p := cutOut (cutAt 64 (bs s)); if mayN ⟨p.1, p.2.1⟩ then (p.1, p.2.1, 0) else ((⟨#[]⟩ : ByteArray), (⟨#[]⟩ : ByteArray), 1)) := by
  have hcs : ∀ l : List Nat, (cutAt 64 l).1.length ≤ l.length ∧ (∀ r, (cutAt 64 l).2 = some r → r.length ≤ l.length) := by
    intro l
    induction l with
    | nil => simp [cutAt]
    | cons x r ih =>
      unfold cutAt
      split
      · refine ⟨by simp, fun r' h => ?_⟩
        injection h with h
        subst h
        simp
      · exact ⟨by simp; exact ih.1, fun r' h => by have := ih.2 r' h; simp; omega⟩
  have hof : ∀ l : List Nat, (ofB l).size = l.length := fun l => by
    show (l.map UInt8.ofNat).toArray.size = l.length
    simp
  have h1 := hcs (bs s)
  rw [bs_length] at h1
  have hsz : (cutOut (cutAt 64 (bs s))).1.size ≤ s.size ∧ (cutOut (cutAt 64 (bs s))).2.1.size ≤ s.size := by
    rcases hc : cutAt 64 (bs s) with ⟨a, _ | b⟩
    · rw [hc] at h1
      exact ⟨by show (ofB a).size ≤ _; rw [hof]; exact h1.1, by show (⟨#[]⟩ : ByteArray).size ≤ _; exact Nat.zero_le _⟩
    · rw [hc] at h1
      exact ⟨by show (ofB a).size ≤ _; rw [hof]; exact h1.1, by show (ofB b).size ≤ _; rw [hof]; exact h1.2 b rfl⟩
  unfold node_Read.f strings_Cut.f
  rw [if_pos ⟨by unfold Tiny; omega, rfl⟩, Option.bind_some]
  have e : (bs (⟨#[64]⟩ : ByteArray)).headD 0 = 64 := by decide +kernel
  rw [e]
  generalize cutOut (cutAt 64 (bs s)) = p at hsz ⊢
  have hm := node_May_val k ⟨p.1, p.2.1⟩ (by unfold TinyN Tiny; simp only []; omega) (by simp only []; omega)
  simp only [] at hm
  rw [hm]
  simp only [Option.bind_some]
  split <;> rfl
theorem awake_val (k : Nat) (hk : 1100 ≤ k) : graftwoodlaw05_awake.f k = some true := by
  have b1 : Brief nA := by unfold Brief nA; decide
  have b2 : Brief nB := by unfold Brief nB; decide
  have b3 : Brief nC := by unfold Brief nC; decide
  have h1 := node_Cmp_val k nA nB b1 b2 (by omega)
  have h2 := node_Cmp_val k nB nC b2 b3 (by omega)
  have e1 : cmpM nA nB = (-1, 0) := by decide +kernel
  have e2 : cmpM nB nC = (-1, 0) := by decide +kernel
  rw [e1] at h1
  rw [e2] at h2
  have h3 : node_Set.f [nA, nA] = some ([nA], 0) := by
    unfold node_Set.f
    rw [if_pos ⟨by decide, fun x hx => by simp at hx; subst hx; exact b1.tiny⟩]
    have e3 : ([nA, nA] : List S32).all mayN = true := by decide +kernel
    rw [if_pos e3]
    rfl
  have h4 := readM_val k ⟨#[97, 64]⟩ (by decide) hk
  have e4 : (let p := cutOut (cutAt 64 (bs (⟨#[97, 64]⟩ : ByteArray))); if mayN ⟨p.1, p.2.1⟩ then (p.1, p.2.1, 0) else ((⟨#[]⟩ : ByteArray), (⟨#[]⟩ : ByteArray), (1 : Int))) = ((⟨#[]⟩ : ByteArray), (⟨#[]⟩ : ByteArray), 1) := by
    have : mayN ⟨(cutOut (cutAt 64 (bs (⟨#[97, 64]⟩ : ByteArray)))).1, (cutOut (cutAt 64 (bs (⟨#[97, 64]⟩ : ByteArray)))).2.1⟩ = false := by decide +kernel
    simp only [this]
    rfl
  rw [e4] at h4
  unfold graftwoodlaw05_awake.f
  unfold nA nB nC at *
  simp only [] at h1 h2
  rw [h1, Option.bind_some, h2, Option.bind_some, h3, Option.bind_some, h4, Option.bind_some]
  rfl
end Go.Proofs.YtnknjhdpjjddeaaGreatDoor.Q
end

section
namespace Go.Proofs.YtnknjhdpjjddeaaGreatDoor.Q
open Go.RowKit Go.Proofs.YtnknjhdpjjddeaaGreatDoorW.PrintWords Go.Proofs.YtnknjhdpjjddeaaGreatDoorW.PrintLast Go.Proofs.YtnknjhdpjjddeaaGreatDoorW.PrintMore
attribute [local go_sem] max2_int min2_int max_two min_two max_three min_three max_four min_four   -- for this text's walks alone
set_option linter.unusedVariables false
set_option linter.unusedSimpArgs false

/-! ### graftwoodlaw05_Few: function 5 -/
def graftwoodlaw05_Few.l0 : Nat → List (S32) → List (S32) → Int → Option ((List (S32)))
  | 0, _, _, _ => none
  | k + 1, x0, x3, x4 => if x4 < (x0.length : Int) then (if x4 < 24 then (if 0 ≤ x4 then ((graftwoodlaw05_One.f ((rd_T32 x0 x4).f0) ((rd_T32 x0 x4).f1)).bind fun bt106 => (if x3.length < 4398046511104 then (graftwoodlaw05_Few.l0 k x0 (x3 ++ [(⟨bt106.1, bt106.2⟩ : S32)]) (wrap64 (x4 + 1))) else (none))) else (none)) else (some x3)) else (some x3)
def graftwoodlaw05_Few.f (k : Nat) (l0 : List (S32)) : Option ((List (S32))) := graftwoodlaw05_Few.l0 k l0 ([] : List (S32)) 0
theorem graftwoodlaw05_Few.mono_l : ∀ k, (∀ y0 y1 y2, LeO (graftwoodlaw05_Few.l0 k y0 y1 y2) (graftwoodlaw05_Few.l0 (k + 1) y0 y1 y2))
  | 0 => fun _ _ _ r h => by simp [graftwoodlaw05_Few.l0] at h
  | k + 1 => by
    have ih0 := graftwoodlaw05_Few.mono_l k
    · intro y0 y1 y2
      unfold graftwoodlaw05_Few.l0
      repeat' first
      | (with_reducible exact ih0 _ _ _)
      | (with_reducible exact LeO.refl _)
      | (with_reducible exact LeO.none _)
      | (with_reducible refine LeO.ite ?_ ?_)
      | (with_reducible refine LeO.bind ?_ (fun _ => ?_))
      | exact ih0 _ _ _
      | exact LeO.none _
      | refine LeO.ite ?_ ?_
      | refine LeO.bind ?_ (fun _ => ?_)
theorem graftwoodlaw05_Few.mono : ∀ a0 k, LeO (graftwoodlaw05_Few.f k a0) (graftwoodlaw05_Few.f (k + 1) a0) := by
  intro a0 k
  have ih0 := graftwoodlaw05_Few.mono_l k
  unfold graftwoodlaw05_Few.f
  repeat' first
      | (with_reducible exact ih0 _ _ _)
      | (with_reducible exact LeO.refl _)
      | (with_reducible exact LeO.none _)
      | (with_reducible refine LeO.ite ?_ ?_)
      | (with_reducible refine LeO.bind ?_ (fun _ => ?_))
      | exact ih0 _ _ _
      | exact LeO.none _
      | refine LeO.ite ?_ ?_
      | refine LeO.bind ?_ (fun _ => ?_)
set_option maxHeartbeats 8000000 in
set_option maxRecDepth 100000 in
theorem graftwoodlaw05_Few.calls (k : Nat) (A0 : Option Addr) (c0 : Nat) (l0 : List (S32)) (r : List (S32)) (w : World) (hr0 : Kd.C k32 w A0 l0.length l0) (hc0 : l0.length ≤ c0) (h : graftwoodlaw05_Few.f k l0 = some r) :
    Calls Tryz.prog 5 #[.slice A0 l0.length c0] w fun e w' => ∃ v0_ : Value, e = .returned (v0_) ∧ Kd.R k32 32 w' w.heap.size (fun _ => True) v0_ r ∧ Below w.heap.size w w' := by
  have hu32 := Tryz.underlying32
  have HR0 := Aside0.mk hr0
  have HC0 := Aside0.mk hc0
  clear hr0 hc0
  have HB := Aside0.mk (Below.refl w.heap.size w)
  have H : (graftwoodlaw05_Few.l0 k l0 ([] : List (S32)) 0) = some r := h
  clear h
  have H' := Aside0.mk H
  clear H
  go_enter Tryz.func5, Tryz.ntmps5
  go_wp2
  go_loopg [3, 4] k (fun kq v3 v4 w' => ∃ (x3_1 : List (S32)) (x4_1 : Int), v4 = .int .i64 x4_1 ∧ Aside0 (graftwoodlaw05_Few.l0 kq l0 x3_1 x4_1 = some r) ∧ Aside0 (kq ≤ k) ∧ Aside0 (Kd.R k32 32 w' w.heap.size (fun _ => True) v3 x3_1) ∧ Aside0 (Below w.heap.size w w'))
  case atStart => exact ⟨(([] : List (S32))), (0), (by first | rfl | (simp; done) | (simp [*]; done)), H', ⟨Nat.le_refl _⟩, ⟨by first | exact Kd.R_nil _ _ _ _ _ | exact Kd.N_nil _ _ _ _ _ | exact Kd.V_nil _ _ _ _ _ | exact Kd.Q_nil _ _ _ _ _ | exact Kd.S_nil _ _ _ _ _⟩, ⟨by repeat (first | (with_reducible first | exact HB.out | apply below_alloc | apply pw_below_drewN | apply below_drew1) | exact HB.out)⟩⟩
  case round =>
    clear H'
    obtain ⟨x3_1, x4_1, rfl, HA, HK1, HO_3, HB⟩ := hrel
    cases gk with
    | zero => exact absurd HA.out (by simp [graftwoodlaw05_Few.l0])
    | succ k1 =>
      have H := HA.out
      clear HA
      simp only [graftwoodlaw05_Few.l0] at H
      by_cases c2 : x4_1 < (l0.length : Int)
      · rw [if_pos c2] at H
        have c2b0 : decide (x4_1 < (l0.length : Int)) = true := decide_eq_true c2
        clear c2
        by_cases c3 : x4_1 < 24
        · rw [if_pos c3] at H
          have c3b0 : decide (x4_1 < 24) = true := decide_eq_true c3
          clear c3
          by_cases c4 : 0 ≤ x4_1
          · rw [if_pos c4] at H
            have c4b0 : decide (0 ≤ x4_1) = true := decide_eq_true c4
            clear c4
            replace H := Option.bind_eq_some_iff.mp H
            obtain ⟨⟨t106, t107⟩, A50, H⟩ := H
            replace H : (if x3_1.length < 4398046511104 then (graftwoodlaw05_Few.l0 k1 l0 (x3_1 ++ [(⟨t106, t107⟩ : S32)]) (wrap64 (x4_1 + 1))) else (none)) = some r := H
            have A5 := Aside0.mk A50
            clear A50
            by_cases c6 : x3_1.length < 4398046511104
            · rw [if_pos c6] at H
              have LMc6 := Aside0.mk c6
              clear c6
              obtain ⟨y108, hy108⟩ : ∃ y_ : List (S32), y_ = (x3_1 ++ [(⟨t106, t107⟩ : S32)]) := ⟨_, rfl⟩
              replace H : (graftwoodlaw05_Few.l0 k1 l0 y108 (wrap64 (x4_1 + 1))) = some r := by first | (rw [hy108]; with_reducible exact H) | (have H2_ := (Option.bind_some _ _).symm.trans H; rw [hy108]; with_reducible exact H2_) | (have H2_ := (Option.bind_some _ _).symm.trans H; with_reducible exact H2_) | with_reducible exact H | (rw [hy108]; exact H) | exact H
              have Ny108 := Aside0.mk hy108
              clear hy108
              have H' := Aside0.mk H
              clear H
              have p105 : 0 ≤ (x4_1 : Int) := of_decide_eq_true (by first | (with_reducible assumption) | assumption)
              have q105 : x4_1 < (l0.length : Int) := of_decide_eq_true (by first | (with_reducible assumption) | assumption)
              obtain ⟨ad105, e105, hx105_0, hx105_1⟩ := at_T32 HR0.out x4_1 p105 q105
              cases e105
              replace hx105_0 := (HB.out.cell (World.block_lt_of_cell? w _ hx105_0)).trans hx105_0
              replace hx105_1 := (HB.out.cell (World.block_lt_of_cell? w _ hx105_1)).trans hx105_1
              replace p105 := eq_true p105
              replace q105 := eq_true q105
              go_wp2_with (first | ((with_reducible refine gate_callee (f := 11) rfl ?_); refine goesL_ (some 20) rfl rfl Tryz.func11 (by kernel_rfl) rfl #[.agg #[.string ((rd_T32 l0 x4_1).f0), .string ((rd_T32 l0 x4_1).f1)]] rfl (by (try simp only [List.map_toArray, List.map_cons, List.map_nil]); first | done | rfl | (simp only [List.length_drop, List.length_take]; rfl)) ?_; (with_reducible refine (graftwoodlaw05_One.calls ((rd_T32 l0 x4_1).f0) ((rd_T32 l0 x4_1).f1) t106 t107 _ A5.out).mono ?_); rintro e w7 ⟨rfl, hb⟩; refine ⟨_, rfl, ?_⟩; have n0_ := Aside0.mk (Kd.R_below (by (with_reducible repeat (first | apply Kd.R_alloc | apply Kd.R_drewN | apply Kd.R_drew)); exact HO_3.out) hb); have n1_ := Aside0.mk (below_step (by repeat (first | (with_reducible first | exact HB.out | apply below_alloc | apply pw_below_drewN | apply below_drew1) | exact HB.out)) hb); clear HO_3; clear HB; have HO_3 := n0_; have HB := n1_; clear n0_ n1_; (try clear hb); (try clear hb2); (try clear hk); (try clear hi)) | ((with_reducible refine gate_builtin (b := .append) (xs := #[.tmp 15, .tmp 21]) rfl ?_); at_builtin; refine Kd.R_append k32 (w0 := w) w.heap.size rfl (.tmp 15) (.tmp 21) 22 32 (.agg #[(.string ⟨#[]⟩), (.string ⟨#[]⟩)]) 32 rfl Tryz.underlying22 info32 rfl (by decide) (by omega) u3 x3_1 (⟨t106, t107⟩ : S32) [.string t106, .string t107] (fun _ => True) (fun _ => False) rfl rfl ?aP (fun _ hk => hk.elim) ?aF ?aO ?aB ?aS ?aL ?_; (case aP => exact k32_mkM _ _ _ (⟨t106, t107⟩ : S32)); (case aB => exact (by repeat (first | (with_reducible first | exact HB.out | apply below_alloc | apply pw_below_drewN | apply below_drew1) | exact HB.out))); (case aF => exact (fun _ _ => trivial)); (case aO => exact (by (with_reducible repeat (first | apply Kd.R_alloc | apply Kd.R_drewN | apply Kd.R_drew)); exact HO_3.out)); (case aS => exact (below_size (by repeat (first | (with_reducible first | exact HB.out | apply below_alloc | apply pw_below_drewN | apply below_drew1) | exact HB.out)))); (case aL => have := LMc6.out; omega); intro v109 w8 ho hb hg hat; rw [← Ny108.out] at ho; have n0_ := Aside0.mk (hb); have n1_ := Aside0.mk (ho); clear HB; clear HO_3; have HB := n0_; have HO110 := n1_; clear n0_ n1_; clear ho hb hg hat))
              go_roundg k1
              case measure => have := HK1.out; omega
              case rel => exact ⟨(y108), (wrap64 (x4_1 + 1)), (by first | rfl | (simp; done) | (simp [*]; done)), H', ⟨by have := HK1.out; omega⟩, ⟨by (with_reducible repeat (first | apply Kd.R_alloc | apply Kd.R_drewN | apply Kd.R_drew)); exact HO110.out⟩, ⟨by repeat (first | (with_reducible first | exact HB.out | apply below_alloc | apply pw_below_drewN | apply below_drew1) | exact HB.out)⟩⟩
            · rw [if_neg c6] at H
              exact absurd H (by simp)
          · rw [if_neg c4] at H
            exact absurd H (by simp)
        · rw [if_neg c3] at H
          have c3b0 : decide (x4_1 < 24) = false := decide_eq_false c3
          clear c3
          obtain rfl := Option.some.inj H
          go_wp2
          go_ret
          exact ⟨_, by first | rfl | (simp [errW_none, errW_some] <;> rfl) | (simp [*, errW_none, errW_some] <;> rfl), by (with_reducible repeat (first | apply Kd.R_alloc | apply Kd.R_drewN | apply Kd.R_drew)); exact HO_3.out, by repeat (first | (with_reducible first | exact HB.out | apply below_alloc | apply pw_below_drewN | apply below_drew1) | exact HB.out)⟩
      · rw [if_neg c2] at H
        have c2b0 : decide (x4_1 < (l0.length : Int)) = false := decide_eq_false c2
        clear c2
        obtain rfl := Option.some.inj H
        go_wp2
        go_ret
        exact ⟨_, by first | rfl | (simp [errW_none, errW_some] <;> rfl) | (simp [*, errW_none, errW_some] <;> rfl), by (with_reducible repeat (first | apply Kd.R_alloc | apply Kd.R_drewN | apply Kd.R_drew)); exact HO_3.out, by repeat (first | (with_reducible first | exact HB.out | apply below_alloc | apply pw_below_drewN | apply below_drew1) | exact HB.out)⟩

end Go.Proofs.YtnknjhdpjjddeaaGreatDoor.Q
end
