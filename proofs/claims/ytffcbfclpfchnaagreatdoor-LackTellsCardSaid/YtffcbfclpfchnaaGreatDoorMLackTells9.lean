/- Part 9 of this claim: several texts one behind the other: Fgraftwoodref05Check, RLess5, RMay5, RChk5, RMay18, Fgraftwoodref05With, Fgraftwoodref18By. What each shows stands in its theorems; conditions: sizes of texts and lists, as the functions' definitions say. -/
import Derived.Test.YtffcbfclpfchnaaGreatDoorMLackTells0
import Derived.Test.YtffcbfclpfchnaaGreatDoorMLackTells8
import Derived.Test.YtffcbfclpfchnaaGreatDoorMLackTells5
import Derived.Test.YtffcbfclpfchnaaGreatDoorMLackTells3
import Derived.Test.YtffcbfclpfchnaaGreatDoorMLackTells1
section
namespace Go.Proofs.YtffcbfclpfchnaaGreatDoor.Q
open Go.RowKit Go.Proofs.YtffcbfclpfchnaaGreatDoorW.PrintWords Go.Proofs.YtffcbfclpfchnaaGreatDoorW.PrintLast Go.Proofs.YtffcbfclpfchnaaGreatDoorW.PrintMore
attribute [local go_sem] max2_int min2_int max_two min_two max_three min_three max_four min_four   -- for this text's walks alone
set_option linter.unusedVariables false
set_option linter.unusedSimpArgs false
/-! ### graftwoodref05_Check: function 11 -/
def graftwoodref05_Check.l0 : Nat → List (S42) → Int → Option (Bool)
 | 0, _, _ => none
 | k + 1, x0, x3 => if x3 < (x0.length : Int) then (if 0 ≤ x3 then ((graftwoodref05_May.f k ((rd_T42 x0 x3).f0) ((rd_T42 x0 x3).f1)).bind fun t243 => (if t243 = true then (if x3 > 0 then (if 0 ≤ (wrap64 (x3 - 1)) then (if (wrap64 (x3 - 1)) < (x0.length : Int) then ((graftwoodref05_Less.f k ((rd_T42 x0 (wrap64 (x3 - 1))).f0) ((rd_T42 x0 (wrap64 (x3 - 1))).f1) ((rd_T42 x0 x3).f0) ((rd_T42 x0 x3).f1)).bind fun t246 => (if t246 = true then (graftwoodref05_Check.l0 k x0 (wrap64 (x3 + 1))) else (some false))) else (none)) else (none)) else (graftwoodref05_Check.l0 k x0 (wrap64 (x3 + 1)))) else (some false))) else (none)) else (some true)
def graftwoodref05_Check.f (k : Nat) (l0 : List (S42)) : Option (Bool) := graftwoodref05_Check.l0 k l0 0
def graftwoodref05_Check.T4 : Bool × List (List Nat × List Nat) := (true, [([], []), ([], []), ([0, 1], [0, 1]), ([2], [2]), ([3], [3]), ([4], [4]), ([5, 4], [5]), ([6], [6]), ([7, 6], [6, 7]), ([8, 6, 6], [6, 8]), ([9], [9]), ([9], [9]), ([11, 9], [9, 11]), ([10, 12, 9], [9, 10, 12]), ([13, 9], [9, 13]), ([9], [9]), ([9], [9]), ([15, 16, 9], [9, 15, 16]), ([17, 9], [9, 17]), ([14, 18, 9, 9], [9, 14, 18]), ([19, 9], [9, 19]), ([9, 20, 6], [6, 9, 20]), ([6, 21], [6, 21])])
def graftwoodref05_Check.B4 : List Nat := [0, 0, 3, 7, 15, 31, 63, 127, 255, 511, 1023, 1023, 3071, 8191, 16383, 1023, 1023, 99327, 230399, 524287, 1048575, 2097151, 4194303]
theorem graftwoodref05_Check.tab4 : rtab .any (opsOf Tryz.f11 4) = graftwoodref05_Check.T4 := by kernel_rfl
theorem graftwoodref05_Check.bits4 : waitsOk graftwoodref05_Check.T4.2 graftwoodref05_Check.B4 = true := by kernel_rfl
set_option maxHeartbeats 8000000 in
set_option maxRecDepth 100000 in
theorem graftwoodref05_Check.calls (k : Nat) (A0 : Option Addr) (c0 : Nat) (l0 : List (S42)) (r : Bool) (w : World) (hr0 : Kd.C k42 w A0 l0.length l0) (hc0 : l0.length ≤ c0) (h : graftwoodref05_Check.f k l0 = some r) :
  Calls Tryz.prog 11 #[.slice A0 l0.length c0] w fun e w' => e = .returned (.bool r) ∧ Below w.heap.size w w' := by
 have hu42 := Tryz.underlying42
 have HR0 := Aside0.mk hr0
 have HC0 := Aside0.mk hc0
 clear hr0 hc0
 have HB := Aside0.mk (Below.refl w.heap.size w)
 have H : (graftwoodref05_Check.l0 k l0 0) = some r := h
 clear h
 have H' := Aside0.mk H
 clear H
 go_enter Tryz.func11, Tryz.ntmps11
 go_wp2
 go_loopg [3] k (fun kq v3 w' => ∃ (x3_1 : Int), v3 = .int .i64 x3_1 ∧ Aside0 (graftwoodref05_Check.l0 kq l0 x3_1 = some r) ∧ Aside0 (kq ≤ k) ∧ Aside0 (Below w.heap.size w w'))
 case atStart => exact ⟨(0), (by first | rfl | (simp; done) | (simp [*]; done)), H', ⟨Nat.le_refl _⟩, ⟨by repeat (first | (with_reducible first | exact HB.out | apply below_alloc | apply pw_below_drewN | apply below_drew1) | exact HB.out)⟩⟩
 case round =>
  clear H'
  try clear c1
  obtain ⟨x3_1, rfl, HA, HK1, HB⟩ := hrel
  cases gk with
  | zero => exact absurd HA.out (by simp [graftwoodref05_Check.l0])
  | succ k1 =>
   have H := HA.out
   clear HA
   simp only [graftwoodref05_Check.l0] at H
   by_cases c2 : x3_1 < (l0.length : Int)
   ·rw [if_pos c2] at H
    have c2b0 : decide (x3_1 < (l0.length : Int)) = true := decide_eq_true c2
    clear c2
    by_cases c3 : 0 ≤ x3_1
    ·rw [if_pos c3] at H
     have c3b0 : decide (0 ≤ x3_1) = true := decide_eq_true c3
     clear c3
     replace H := Option.bind_eq_some_iff.mp H
     obtain ⟨t243, A40, H⟩ := H
     replace H : (if t243 = true then (if x3_1 > 0 then (if 0 ≤ (wrap64 (x3_1 - 1)) then (if (wrap64 (x3_1 - 1)) < (l0.length : Int) then ((graftwoodref05_Less.f k1 ((rd_T42 l0 (wrap64 (x3_1 - 1))).f0) ((rd_T42 l0 (wrap64 (x3_1 - 1))).f1) ((rd_T42 l0 x3_1).f0) ((rd_T42 l0 x3_1).f1)).bind fun t246 => (if t246 = true then (graftwoodref05_Check.l0 k1 l0 (wrap64 (x3_1 + 1))) else (some false))) else (none)) else (none)) else (graftwoodref05_Check.l0 k1 l0 (wrap64 (x3_1 + 1)))) else (some false)) = some r := H
     have A4 := Aside0.mk A40
     clear A40
     by_cases c5 : t243 = true
     ·subst c5
      have H1 : (if x3_1 > 0 then (if 0 ≤ (wrap64 (x3_1 - 1)) then (if (wrap64 (x3_1 - 1)) < (l0.length : Int) then ((graftwoodref05_Less.f k1 ((rd_T42 l0 (wrap64 (x3_1 - 1))).f0) ((rd_T42 l0 (wrap64 (x3_1 - 1))).f1) ((rd_T42 l0 x3_1).f0) ((rd_T42 l0 x3_1).f1)).bind fun t246 => (if t246 = true then (graftwoodref05_Check.l0 k1 l0 (wrap64 (x3_1 + 1))) else (some false))) else (none)) else (none)) else (graftwoodref05_Check.l0 k1 l0 (wrap64 (x3_1 + 1)))) = some r := by rw [if_pos rfl] at H; exact H
      clear H
      have H := H1
      clear H1
      by_cases c6 : x3_1 > 0
      ·rw [if_pos c6] at H
       have c6b0 : decide (0 < x3_1) = true := decide_eq_true c6
       clear c6
       obtain ⟨ji7, hji7⟩ : ∃ j_ : Int, (wrap64 (x3_1 - 1)) = j_ := ⟨_, rfl⟩
       replace H : (if 0 ≤ (ji7) then (if (ji7) < (l0.length : Int) then ((graftwoodref05_Less.f k1 ((rd_T42 l0 (ji7)).f0) ((rd_T42 l0 (ji7)).f1) ((rd_T42 l0 x3_1).f0) ((rd_T42 l0 x3_1).f1)).bind fun t246 => (if t246 = true then (graftwoodref05_Check.l0 k1 l0 (wrap64 (x3_1 + 1))) else (some false))) else (none)) else (none)) = some r := by first | (rw [hji7] at H; exact H) | (simp only [hji7] at H ⊢; exact H)
       (try rw [hji7] at A4)
       have hji7w : (IntKind.i64.wrap (x3_1 - 1)) = ji7 := (i64_w _).trans hji7
       by_cases c8 : 0 ≤ (ji7)
       ·rw [if_pos c8] at H
        have c8b0 : decide (0 ≤ (ji7)) = true := decide_eq_true c8
        clear c8
        by_cases c9 : (ji7) < (l0.length : Int)
        ·rw [if_pos c9] at H
         have c9b0 : decide ((ji7) < (l0.length : Int)) = true := decide_eq_true c9
         clear c9
         replace H := Option.bind_eq_some_iff.mp H
         obtain ⟨t246, A100, H⟩ := H
         replace H : (if t246 = true then (graftwoodref05_Check.l0 k1 l0 (wrap64 (x3_1 + 1))) else (some false)) = some r := H
         have A10 := Aside0.mk A100
         clear A100
         by_cases c11 : t246 = true
         ·subst c11
          have H1 : (graftwoodref05_Check.l0 k1 l0 (wrap64 (x3_1 + 1))) = some r := by rw [if_pos rfl] at H; exact H
          clear H
          have H := H1
          clear H1
          have H' := Aside0.mk H
          clear H
          try go_wp2
          have n0_ := Aside0.mk (below_drew1 HB.out)
          clear HB
          have HB := n0_
          clear n0_
          have p242 : 0 ≤ (x3_1 : Int) := of_decide_eq_true (by first | (with_reducible assumption) | assumption)
          have q242 : x3_1 < (l0.length : Int) := of_decide_eq_true (by first | (with_reducible assumption) | assumption)
          obtain ⟨ad242, e242, hx242_0, hx242_1⟩ := at_T42 HR0.out x3_1 p242 q242
          have hw242_1 := hx242_1
          have hw242_0 := hx242_0
          cases e242
          replace hx242_0 := (HB.out.cell (World.block_lt_of_cell? w _ hx242_0)).trans hx242_0
          replace hx242_1 := (HB.out.cell (World.block_lt_of_cell? w _ hx242_1)).trans hx242_1
          replace p242 := eq_true p242
          replace q242 := eq_true q242
          have p244 : 0 ≤ ((ji7) : Int) := of_decide_eq_true (by first | (with_reducible assumption) | assumption)
          have q244 : (ji7) < (l0.length : Int) := of_decide_eq_true (by first | (with_reducible assumption) | assumption)
          obtain ⟨ad244, e244, hx244_0, hx244_1⟩ := at_T42 HR0.out (ji7) p244 q244
          have hw244_1 := hx244_1
          have hw244_0 := hx244_0
          obtain rfl : ad242 = ad244 := (by injection e244)
          replace hx244_0 := (HB.out.cell (World.block_lt_of_cell? w _ hx244_0)).trans hx244_0
          replace hx244_1 := (HB.out.cell (World.block_lt_of_cell? w _ hx244_1)).trans hx244_1
          replace p244 := eq_true p244
          replace q244 := eq_true q244
          have p245 : 0 ≤ (x3_1 : Int) := of_decide_eq_true (by first | (with_reducible assumption) | assumption)
          have q245 : x3_1 < (l0.length : Int) := of_decide_eq_true (by first | (with_reducible assumption) | assumption)
          obtain ⟨ad245, e245, hx245_0, hx245_1⟩ := at_T42 HR0.out x3_1 p245 q245
          have hw245_1 := hx245_1
          have hw245_0 := hx245_0
          obtain rfl : ad242 = ad245 := (by injection e245)
          replace hx245_0 := (HB.out.cell (World.block_lt_of_cell? w _ hx245_0)).trans hx245_0
          replace hx245_1 := (HB.out.cell (World.block_lt_of_cell? w _ hx245_1)).trans hx245_1
          replace p245 := eq_true p245
          replace q245 := eq_true q245
          refine start_ (n := 23) (S := fun w' => w'.cell? (ad242.add ((x3_1).toNat * 2)) = some (.string ((rd_T42 l0 x3_1).f0)) ∧ w'.cell? ⟨(ad242.add ((x3_1).toNat * 2)).block, (ad242.add ((x3_1).toNat * 2)).off + 1, none⟩ = some (.string ((rd_T42 l0 x3_1).f1)) ∧ w'.cell? (ad242.add (((ji7)).toNat * 2)) = some (.string ((rd_T42 l0 (ji7)).f0)) ∧ w'.cell? ⟨(ad242.add (((ji7)).toNat * 2)).block, (ad242.add (((ji7)).toNat * 2)).off + 1, none⟩ = some (.string ((rd_T42 l0 (ji7)).f1)) ∧ w'.cell? (ad242.add ((x3_1).toNat * 2)) = some (.string ((rd_T42 l0 x3_1).f0)) ∧ w'.cell? ⟨(ad242.add ((x3_1).toNat * 2)).block, (ad242.add ((x3_1).toNat * 2)).off + 1, none⟩ = some (.string ((rd_T42 l0 x3_1).f1))) (ds := []) #[false, false, false, false, false, false, false, false, false, false, false, false, false, false, false, false, false, false, false, false, false, false, false] (by kernel_rfl) rfl rfl ⟨((HB.out.cell (World.block_lt_of_cell? w _ hw242_0)).trans hw242_0), ((HB.out.cell (World.block_lt_of_cell? w _ hw242_1)).trans hw242_1), ((HB.out.cell (World.block_lt_of_cell? w _ hw244_0)).trans hw244_0), ((HB.out.cell (World.block_lt_of_cell? w _ hw244_1)).trans hw244_1), ((HB.out.cell (World.block_lt_of_cell? w _ hw245_0)).trans hw245_0), ((HB.out.cell (World.block_lt_of_cell? w _ hw245_1)).trans hw245_1)⟩ (fun hHeld => ?_); refine with_tabW graftwoodref05_Check.tab4 graftwoodref05_Check.bits4 (fun HT_ HW_ => ?_)
          generalize wr.drew = w12 at HB hx242_0 hx242_1 hx244_0 hx244_1 hx245_0 hx245_1 hHeld ⊢
          refine pz_ 0 10 HT_.out ?_
          refine pz_ 1 11 HT_.out ?_
          refine pz_ 2 12 HT_.out ?_
          refine tz_ 3 13 HT_.out HW_.out hHeld ?_
          refine one_ (i := 4) (N := some 14) #[true, true, true, true, true, false, false, false, false, false, false, false, false, false, false, false, false, false, false, false, false, false, false] rfl rfl (one_of HT_.out (by kernel_rfl)) (by decide) (fun K hK => ?_)
          refine goes_ Tryz.func19 (by kernel_rfl) rfl #[.agg #[.string ((rd_T42 l0 x3_1).f0), .string ((rd_T42 l0 x3_1).f1)]] (by rfl) rfl rfl (by (try simp only [List.map_toArray, List.map_cons, List.map_nil]); first | done | rfl | (simp only [List.length_drop, List.length_take]; rfl)) ?_
          with_reducible refine (graftwoodref05_May.calls k1 ((rd_T42 l0 x3_1).f0) ((rd_T42 l0 x3_1).f1) true _ A4.out).mono ?_
          rintro e w13 ⟨rfl, hb⟩
          refine ⟨_, rfl, ?_⟩
          have n0_ := Aside0.mk (below_step (by repeat (first | (with_reducible first | exact HB.out | apply below_alloc | apply pw_below_drewN | apply below_drew1) | exact HB.out)) hb)
          clear HB
          have HB := n0_
          clear n0_
          (try clear hb)
          (try clear hb2)
          (try clear hk)
          (try clear hi)
          refine hK.out _ _ ⟨((HB.out.cell (World.block_lt_of_cell? w _ hw242_0)).trans hw242_0), ((HB.out.cell (World.block_lt_of_cell? w _ hw242_1)).trans hw242_1), ((HB.out.cell (World.block_lt_of_cell? w _ hw244_0)).trans hw244_0), ((HB.out.cell (World.block_lt_of_cell? w _ hw244_1)).trans hw244_1), ((HB.out.cell (World.block_lt_of_cell? w _ hw245_0)).trans hw245_0), ((HB.out.cell (World.block_lt_of_cell? w _ hw245_1)).trans hw245_1)⟩ (fun hHeld => ?_)
          clear hK K
          refine nz_ 14 ?_
          refine pz_ 5 15 HT_.out ?_
          refine pz_ 6 16 HT_.out ?_
          refine pz_ 7 17 HT_.out ?_
          refine pz_ 8 18 HT_.out ?_
          refine pz_ 9 19 HT_.out ?_
          refine pz_ 10 20 HT_.out ?_
          refine pz_ 11 21 HT_.out ?_
          refine pz_ 12 22 HT_.out ?_
          refine pz_ 13 23 HT_.out ?_
          refine pz_ 15 25 HT_.out ?_
          refine pz_ 16 26 HT_.out ?_
          refine pz_ 17 27 HT_.out ?_
          refine tz_ 14 24 HT_.out HW_.out hHeld ?_
          refine tz_ 18 28 HT_.out HW_.out hHeld ?_
          refine one_ (i := 19) (N := some 29) #[true, true, true, true, true, true, true, true, true, true, true, true, true, true, true, true, true, true, true, true, false, false, false] rfl rfl (one_of HT_.out (by kernel_rfl)) (by decide) (fun K hK => ?_)
          refine goes_ Tryz.func28 (by kernel_rfl) rfl #[.agg #[.string ((rd_T42 l0 (ji7)).f0), .string ((rd_T42 l0 (ji7)).f1)], .agg #[.string ((rd_T42 l0 x3_1).f0), .string ((rd_T42 l0 x3_1).f1)]] (by rfl) rfl rfl (by (try simp only [List.map_toArray, List.map_cons, List.map_nil]); first | done | (simp only [hji7]; rfl) | rfl | (simp only [List.length_drop, List.length_take]; rfl)) ?_
          with_reducible refine (graftwoodref05_Less.calls k1 ((rd_T42 l0 (ji7)).f0) ((rd_T42 l0 (ji7)).f1) ((rd_T42 l0 x3_1).f0) ((rd_T42 l0 x3_1).f1) true _ A10.out).mono ?_
          rintro e w14 ⟨rfl, hb⟩
          refine ⟨_, rfl, ?_⟩
          have n0_ := Aside0.mk (below_step (by repeat (first | (with_reducible first | exact HB.out | apply below_alloc | apply pw_below_drewN | apply below_drew1) | exact HB.out)) hb)
          clear HB
          have HB := n0_
          clear n0_
          (try clear hb)
          (try clear hb2)
          (try clear hk)
          (try clear hi)
          refine hK.out _ _ ⟨((HB.out.cell (World.block_lt_of_cell? w _ hw242_0)).trans hw242_0), ((HB.out.cell (World.block_lt_of_cell? w _ hw242_1)).trans hw242_1), ((HB.out.cell (World.block_lt_of_cell? w _ hw244_0)).trans hw244_0), ((HB.out.cell (World.block_lt_of_cell? w _ hw244_1)).trans hw244_1), ((HB.out.cell (World.block_lt_of_cell? w _ hw245_0)).trans hw245_0), ((HB.out.cell (World.block_lt_of_cell? w _ hw245_1)).trans hw245_1)⟩ (fun hHeld => ?_)
          clear hK K
          refine nz_ 29 ?_
          refine pz_ 20 30 HT_.out ?_
          refine pz_ 21 31 HT_.out ?_
          refine pz_ 22 32 HT_.out ?_
          refine done_ (done_of HT_.out (by kernel_rfl)) ?_
          try go_wp2
          go_roundg k1
          case measure => have := HK1.out; omega
          case rel => exact ⟨(wrap64 (x3_1 + 1)), (by first | rfl | (simp; done) | (simp [*]; done)), H', ⟨by have := HK1.out; omega⟩, ⟨by repeat (first | (with_reducible first | exact HB.out | apply below_alloc | apply pw_below_drewN | apply below_drew1) | exact HB.out)⟩⟩
         ·replace c11 := Bool.eq_false_iff.mpr c11
          subst c11
          have H1 : (some false) = some r := by rw [if_neg (show ¬ (false = true) by decide)] at H; exact H
          clear H
          have H := H1
          clear H1
          obtain rfl := Option.some.inj H
          try go_wp2
          have n0_ := Aside0.mk (below_drew1 HB.out)
          clear HB
          have HB := n0_
          clear n0_
          have p242 : 0 ≤ (x3_1 : Int) := of_decide_eq_true (by first | (with_reducible assumption) | assumption)
          have q242 : x3_1 < (l0.length : Int) := of_decide_eq_true (by first | (with_reducible assumption) | assumption)
          obtain ⟨ad242, e242, hx242_0, hx242_1⟩ := at_T42 HR0.out x3_1 p242 q242
          have hw242_1 := hx242_1
          have hw242_0 := hx242_0
          cases e242
          replace hx242_0 := (HB.out.cell (World.block_lt_of_cell? w _ hx242_0)).trans hx242_0
          replace hx242_1 := (HB.out.cell (World.block_lt_of_cell? w _ hx242_1)).trans hx242_1
          replace p242 := eq_true p242
          replace q242 := eq_true q242
          have p244 : 0 ≤ ((ji7) : Int) := of_decide_eq_true (by first | (with_reducible assumption) | assumption)
          have q244 : (ji7) < (l0.length : Int) := of_decide_eq_true (by first | (with_reducible assumption) | assumption)
          obtain ⟨ad244, e244, hx244_0, hx244_1⟩ := at_T42 HR0.out (ji7) p244 q244
          have hw244_1 := hx244_1
          have hw244_0 := hx244_0
          obtain rfl : ad242 = ad244 := (by injection e244)
          replace hx244_0 := (HB.out.cell (World.block_lt_of_cell? w _ hx244_0)).trans hx244_0
          replace hx244_1 := (HB.out.cell (World.block_lt_of_cell? w _ hx244_1)).trans hx244_1
          replace p244 := eq_true p244
          replace q244 := eq_true q244
          have p245 : 0 ≤ (x3_1 : Int) := of_decide_eq_true (by first | (with_reducible assumption) | assumption)
          have q245 : x3_1 < (l0.length : Int) := of_decide_eq_true (by first | (with_reducible assumption) | assumption)
          obtain ⟨ad245, e245, hx245_0, hx245_1⟩ := at_T42 HR0.out x3_1 p245 q245
          have hw245_1 := hx245_1
          have hw245_0 := hx245_0
          obtain rfl : ad242 = ad245 := (by injection e245)
          replace hx245_0 := (HB.out.cell (World.block_lt_of_cell? w _ hx245_0)).trans hx245_0
          replace hx245_1 := (HB.out.cell (World.block_lt_of_cell? w _ hx245_1)).trans hx245_1
          replace p245 := eq_true p245
          replace q245 := eq_true q245
          refine start_ (n := 23) (S := fun w' => w'.cell? (ad242.add ((x3_1).toNat * 2)) = some (.string ((rd_T42 l0 x3_1).f0)) ∧ w'.cell? ⟨(ad242.add ((x3_1).toNat * 2)).block, (ad242.add ((x3_1).toNat * 2)).off + 1, none⟩ = some (.string ((rd_T42 l0 x3_1).f1)) ∧ w'.cell? (ad242.add (((ji7)).toNat * 2)) = some (.string ((rd_T42 l0 (ji7)).f0)) ∧ w'.cell? ⟨(ad242.add (((ji7)).toNat * 2)).block, (ad242.add (((ji7)).toNat * 2)).off + 1, none⟩ = some (.string ((rd_T42 l0 (ji7)).f1)) ∧ w'.cell? (ad242.add ((x3_1).toNat * 2)) = some (.string ((rd_T42 l0 x3_1).f0)) ∧ w'.cell? ⟨(ad242.add ((x3_1).toNat * 2)).block, (ad242.add ((x3_1).toNat * 2)).off + 1, none⟩ = some (.string ((rd_T42 l0 x3_1).f1))) (ds := []) #[false, false, false, false, false, false, false, false, false, false, false, false, false, false, false, false, false, false, false, false, false, false, false] (by kernel_rfl) rfl rfl ⟨((HB.out.cell (World.block_lt_of_cell? w _ hw242_0)).trans hw242_0), ((HB.out.cell (World.block_lt_of_cell? w _ hw242_1)).trans hw242_1), ((HB.out.cell (World.block_lt_of_cell? w _ hw244_0)).trans hw244_0), ((HB.out.cell (World.block_lt_of_cell? w _ hw244_1)).trans hw244_1), ((HB.out.cell (World.block_lt_of_cell? w _ hw245_0)).trans hw245_0), ((HB.out.cell (World.block_lt_of_cell? w _ hw245_1)).trans hw245_1)⟩ (fun hHeld => ?_); refine with_tabW graftwoodref05_Check.tab4 graftwoodref05_Check.bits4 (fun HT_ HW_ => ?_)
          generalize wr.drew = w15 at HB hx242_0 hx242_1 hx244_0 hx244_1 hx245_0 hx245_1 hHeld ⊢
          refine pz_ 0 10 HT_.out ?_
          refine pz_ 1 11 HT_.out ?_
          refine pz_ 2 12 HT_.out ?_
          refine tz_ 3 13 HT_.out HW_.out hHeld ?_
          refine one_ (i := 4) (N := some 14) #[true, true, true, true, true, false, false, false, false, false, false, false, false, false, false, false, false, false, false, false, false, false, false] rfl rfl (one_of HT_.out (by kernel_rfl)) (by decide) (fun K hK => ?_)
          refine goes_ Tryz.func19 (by kernel_rfl) rfl #[.agg #[.string ((rd_T42 l0 x3_1).f0), .string ((rd_T42 l0 x3_1).f1)]] (by rfl) rfl rfl (by (try simp only [List.map_toArray, List.map_cons, List.map_nil]); first | done | rfl | (simp only [List.length_drop, List.length_take]; rfl)) ?_
          with_reducible refine (graftwoodref05_May.calls k1 ((rd_T42 l0 x3_1).f0) ((rd_T42 l0 x3_1).f1) true _ A4.out).mono ?_
          rintro e w16 ⟨rfl, hb⟩
          refine ⟨_, rfl, ?_⟩
          have n0_ := Aside0.mk (below_step (by repeat (first | (with_reducible first | exact HB.out | apply below_alloc | apply pw_below_drewN | apply below_drew1) | exact HB.out)) hb)
          clear HB
          have HB := n0_
          clear n0_
          (try clear hb)
          (try clear hb2)
          (try clear hk)
          (try clear hi)
          refine hK.out _ _ ⟨((HB.out.cell (World.block_lt_of_cell? w _ hw242_0)).trans hw242_0), ((HB.out.cell (World.block_lt_of_cell? w _ hw242_1)).trans hw242_1), ((HB.out.cell (World.block_lt_of_cell? w _ hw244_0)).trans hw244_0), ((HB.out.cell (World.block_lt_of_cell? w _ hw244_1)).trans hw244_1), ((HB.out.cell (World.block_lt_of_cell? w _ hw245_0)).trans hw245_0), ((HB.out.cell (World.block_lt_of_cell? w _ hw245_1)).trans hw245_1)⟩ (fun hHeld => ?_)
          clear hK K
          refine nz_ 14 ?_
          refine pz_ 5 15 HT_.out ?_
          refine pz_ 6 16 HT_.out ?_
          refine pz_ 7 17 HT_.out ?_
          refine pz_ 8 18 HT_.out ?_
          refine pz_ 9 19 HT_.out ?_
          refine pz_ 10 20 HT_.out ?_
          refine pz_ 11 21 HT_.out ?_
          refine pz_ 12 22 HT_.out ?_
          refine pz_ 13 23 HT_.out ?_
          refine pz_ 15 25 HT_.out ?_
          refine pz_ 16 26 HT_.out ?_
          refine pz_ 17 27 HT_.out ?_
          refine tz_ 14 24 HT_.out HW_.out hHeld ?_
          refine tz_ 18 28 HT_.out HW_.out hHeld ?_
          refine one_ (i := 19) (N := some 29) #[true, true, true, true, true, true, true, true, true, true, true, true, true, true, true, true, true, true, true, true, false, false, false] rfl rfl (one_of HT_.out (by kernel_rfl)) (by decide) (fun K hK => ?_)
          refine goes_ Tryz.func28 (by kernel_rfl) rfl #[.agg #[.string ((rd_T42 l0 (ji7)).f0), .string ((rd_T42 l0 (ji7)).f1)], .agg #[.string ((rd_T42 l0 x3_1).f0), .string ((rd_T42 l0 x3_1).f1)]] (by rfl) rfl rfl (by (try simp only [List.map_toArray, List.map_cons, List.map_nil]); first | done | (simp only [hji7]; rfl) | rfl | (simp only [List.length_drop, List.length_take]; rfl)) ?_
          with_reducible refine (graftwoodref05_Less.calls k1 ((rd_T42 l0 (ji7)).f0) ((rd_T42 l0 (ji7)).f1) ((rd_T42 l0 x3_1).f0) ((rd_T42 l0 x3_1).f1) false _ A10.out).mono ?_
          rintro e w17 ⟨rfl, hb⟩
          refine ⟨_, rfl, ?_⟩
          have n0_ := Aside0.mk (below_step (by repeat (first | (with_reducible first | exact HB.out | apply below_alloc | apply pw_below_drewN | apply below_drew1) | exact HB.out)) hb)
          clear HB
          have HB := n0_
          clear n0_
          (try clear hb)
          (try clear hb2)
          (try clear hk)
          (try clear hi)
          refine hK.out _ _ ⟨((HB.out.cell (World.block_lt_of_cell? w _ hw242_0)).trans hw242_0), ((HB.out.cell (World.block_lt_of_cell? w _ hw242_1)).trans hw242_1), ((HB.out.cell (World.block_lt_of_cell? w _ hw244_0)).trans hw244_0), ((HB.out.cell (World.block_lt_of_cell? w _ hw244_1)).trans hw244_1), ((HB.out.cell (World.block_lt_of_cell? w _ hw245_0)).trans hw245_0), ((HB.out.cell (World.block_lt_of_cell? w _ hw245_1)).trans hw245_1)⟩ (fun hHeld => ?_)
          clear hK K
          refine nz_ 29 ?_
          refine pz_ 20 30 HT_.out ?_
          refine pz_ 21 31 HT_.out ?_
          refine pz_ 22 32 HT_.out ?_
          refine done_ (done_of HT_.out (by kernel_rfl)) ?_
          try go_wp2
          go_ret
          exact ⟨by first | rfl | (simp [errW_none, errW_some] <;> rfl) | (simp only [← hji7]; first | rfl | (simp [errW_none, errW_some] <;> rfl)) | (simp [*, errW_none, errW_some] <;> rfl), by repeat (first | (with_reducible first | exact HB.out | apply below_alloc | apply pw_below_drewN | apply below_drew1) | exact HB.out)⟩
        ·rw [if_neg c9] at H
         exact absurd H (by simp)
       ·rw [if_neg c8] at H
        exact absurd H (by simp)
      ·rw [if_neg c6] at H
       have c6b0 : decide (0 < x3_1) = false := decide_eq_false c6
       clear c6
       have H' := Aside0.mk H
       clear H
       try go_wp2
       have n0_ := Aside0.mk (below_drew1 HB.out)
       clear HB
       have HB := n0_
       clear n0_
       have p242 : 0 ≤ (x3_1 : Int) := of_decide_eq_true (by first | (with_reducible assumption) | assumption)
       have q242 : x3_1 < (l0.length : Int) := of_decide_eq_true (by first | (with_reducible assumption) | assumption)
       obtain ⟨ad242, e242, hx242_0, hx242_1⟩ := at_T42 HR0.out x3_1 p242 q242
       have hw242_1 := hx242_1
       have hw242_0 := hx242_0
       cases e242
       replace hx242_0 := (HB.out.cell (World.block_lt_of_cell? w _ hx242_0)).trans hx242_0
       replace hx242_1 := (HB.out.cell (World.block_lt_of_cell? w _ hx242_1)).trans hx242_1
       replace p242 := eq_true p242
       replace q242 := eq_true q242
       refine start_ (n := 23) (S := fun w' => w'.cell? (ad242.add ((x3_1).toNat * 2)) = some (.string ((rd_T42 l0 x3_1).f0)) ∧ w'.cell? ⟨(ad242.add ((x3_1).toNat * 2)).block, (ad242.add ((x3_1).toNat * 2)).off + 1, none⟩ = some (.string ((rd_T42 l0 x3_1).f1))) (ds := []) #[false, false, false, false, false, false, false, false, false, false, false, false, false, false, false, false, false, false, false, false, false, false, false] (by kernel_rfl) rfl rfl ⟨((HB.out.cell (World.block_lt_of_cell? w _ hw242_0)).trans hw242_0), ((HB.out.cell (World.block_lt_of_cell? w _ hw242_1)).trans hw242_1)⟩ (fun hHeld => ?_); refine with_tabW graftwoodref05_Check.tab4 graftwoodref05_Check.bits4 (fun HT_ HW_ => ?_)
       generalize wr.drew = w18 at HB hx242_0 hx242_1 hHeld ⊢
       refine pz_ 0 10 HT_.out ?_
       refine pz_ 1 11 HT_.out ?_
       refine pz_ 2 12 HT_.out ?_
       refine tz_ 3 13 HT_.out HW_.out hHeld ?_
       refine one_ (i := 4) (N := some 14) #[true, true, true, true, true, false, false, false, false, false, false, false, false, false, false, false, false, false, false, false, false, false, false] rfl rfl (one_of HT_.out (by kernel_rfl)) (by decide) (fun K hK => ?_)
       refine goes_ Tryz.func19 (by kernel_rfl) rfl #[.agg #[.string ((rd_T42 l0 x3_1).f0), .string ((rd_T42 l0 x3_1).f1)]] (by rfl) rfl rfl (by (try simp only [List.map_toArray, List.map_cons, List.map_nil]); first | done | rfl | (simp only [List.length_drop, List.length_take]; rfl)) ?_
       with_reducible refine (graftwoodref05_May.calls k1 ((rd_T42 l0 x3_1).f0) ((rd_T42 l0 x3_1).f1) true _ A4.out).mono ?_
       rintro e w19 ⟨rfl, hb⟩
       refine ⟨_, rfl, ?_⟩
       have n0_ := Aside0.mk (below_step (by repeat (first | (with_reducible first | exact HB.out | apply below_alloc | apply pw_below_drewN | apply below_drew1) | exact HB.out)) hb)
       clear HB
       have HB := n0_
       clear n0_
       (try clear hb)
       (try clear hb2)
       (try clear hk)
       (try clear hi)
       refine hK.out _ _ ⟨((HB.out.cell (World.block_lt_of_cell? w _ hw242_0)).trans hw242_0), ((HB.out.cell (World.block_lt_of_cell? w _ hw242_1)).trans hw242_1)⟩ (fun hHeld => ?_)
       clear hK K
       refine nz_ 14 ?_
       refine pz_ 5 15 HT_.out ?_
       refine pz_ 6 16 HT_.out ?_
       refine pz_ 7 17 HT_.out ?_
       refine pz_ 8 18 HT_.out ?_
       refine pz_ 9 19 HT_.out ?_
       refine pu_ 10 20 HT_.out ?_
       refine pu_ 11 21 HT_.out ?_
       refine pu_ 12 22 HT_.out ?_
       refine pu_ 13 23 HT_.out ?_
       refine pu_ 14 24 HT_.out ?_
       refine pu_ 15 25 HT_.out ?_
       refine pu_ 16 26 HT_.out ?_
       refine pu_ 17 27 HT_.out ?_
       refine pu_ 18 28 HT_.out ?_
       refine pu_ 19 29 HT_.out ?_
       refine pu_ 20 30 HT_.out ?_
       refine pz_ 21 31 HT_.out ?_
       refine pz_ 22 32 HT_.out ?_
       refine done_ (done_of HT_.out (by kernel_rfl)) ?_
       try go_wp2
       go_roundg k1
       case measure => have := HK1.out; omega
       case rel => exact ⟨(wrap64 (x3_1 + 1)), (by first | rfl | (simp; done) | (simp [*]; done)), H', ⟨by have := HK1.out; omega⟩, ⟨by repeat (first | (with_reducible first | exact HB.out | apply below_alloc | apply pw_below_drewN | apply below_drew1) | exact HB.out)⟩⟩
     ·replace c5 := Bool.eq_false_iff.mpr c5
      subst c5
      have H1 : (some false) = some r := by rw [if_neg (show ¬ (false = true) by decide)] at H; exact H
      clear H
      have H := H1
      clear H1
      obtain rfl := Option.some.inj H
      try go_wp2
      have n0_ := Aside0.mk (below_drew1 HB.out)
      clear HB
      have HB := n0_
      clear n0_
      have p242 : 0 ≤ (x3_1 : Int) := of_decide_eq_true (by first | (with_reducible assumption) | assumption)
      have q242 : x3_1 < (l0.length : Int) := of_decide_eq_true (by first | (with_reducible assumption) | assumption)
      obtain ⟨ad242, e242, hx242_0, hx242_1⟩ := at_T42 HR0.out x3_1 p242 q242
      have hw242_1 := hx242_1
      have hw242_0 := hx242_0
      cases e242
      replace hx242_0 := (HB.out.cell (World.block_lt_of_cell? w _ hx242_0)).trans hx242_0
      replace hx242_1 := (HB.out.cell (World.block_lt_of_cell? w _ hx242_1)).trans hx242_1
      replace p242 := eq_true p242
      replace q242 := eq_true q242
      refine start_ (n := 23) (S := fun w' => w'.cell? (ad242.add ((x3_1).toNat * 2)) = some (.string ((rd_T42 l0 x3_1).f0)) ∧ w'.cell? ⟨(ad242.add ((x3_1).toNat * 2)).block, (ad242.add ((x3_1).toNat * 2)).off + 1, none⟩ = some (.string ((rd_T42 l0 x3_1).f1))) (ds := []) #[false, false, false, false, false, false, false, false, false, false, false, false, false, false, false, false, false, false, false, false, false, false, false] (by kernel_rfl) rfl rfl ⟨((HB.out.cell (World.block_lt_of_cell? w _ hw242_0)).trans hw242_0), ((HB.out.cell (World.block_lt_of_cell? w _ hw242_1)).trans hw242_1)⟩ (fun hHeld => ?_); refine with_tabW graftwoodref05_Check.tab4 graftwoodref05_Check.bits4 (fun HT_ HW_ => ?_)
      generalize wr.drew = w20 at HB hx242_0 hx242_1 hHeld ⊢
      refine pz_ 0 10 HT_.out ?_
      refine pz_ 1 11 HT_.out ?_
      refine pz_ 2 12 HT_.out ?_
      refine tz_ 3 13 HT_.out HW_.out hHeld ?_
      refine one_ (i := 4) (N := some 14) #[true, true, true, true, true, false, false, false, false, false, false, false, false, false, false, false, false, false, false, false, false, false, false] rfl rfl (one_of HT_.out (by kernel_rfl)) (by decide) (fun K hK => ?_)
      refine goes_ Tryz.func19 (by kernel_rfl) rfl #[.agg #[.string ((rd_T42 l0 x3_1).f0), .string ((rd_T42 l0 x3_1).f1)]] (by rfl) rfl rfl (by (try simp only [List.map_toArray, List.map_cons, List.map_nil]); first | done | rfl | (simp only [List.length_drop, List.length_take]; rfl)) ?_
      with_reducible refine (graftwoodref05_May.calls k1 ((rd_T42 l0 x3_1).f0) ((rd_T42 l0 x3_1).f1) false _ A4.out).mono ?_
      rintro e w21 ⟨rfl, hb⟩
      refine ⟨_, rfl, ?_⟩
      have n0_ := Aside0.mk (below_step (by repeat (first | (with_reducible first | exact HB.out | apply below_alloc | apply pw_below_drewN | apply below_drew1) | exact HB.out)) hb)
      clear HB
      have HB := n0_
      clear n0_
      (try clear hb)
      (try clear hb2)
      (try clear hk)
      (try clear hi)
      refine hK.out _ _ ⟨((HB.out.cell (World.block_lt_of_cell? w _ hw242_0)).trans hw242_0), ((HB.out.cell (World.block_lt_of_cell? w _ hw242_1)).trans hw242_1)⟩ (fun hHeld => ?_)
      clear hK K
      refine nz_ 14 ?_
      refine pz_ 5 15 HT_.out ?_
      refine pz_ 6 16 HT_.out ?_
      refine pu_ 7 17 HT_.out ?_
      refine pu_ 8 18 HT_.out ?_
      refine pu_ 9 19 HT_.out ?_
      refine pu_ 10 20 HT_.out ?_
      refine pu_ 11 21 HT_.out ?_
      refine pu_ 12 22 HT_.out ?_
      refine pu_ 13 23 HT_.out ?_
      refine pu_ 14 24 HT_.out ?_
      refine pu_ 15 25 HT_.out ?_
      refine pu_ 16 26 HT_.out ?_
      refine pu_ 17 27 HT_.out ?_
      refine pu_ 18 28 HT_.out ?_
      refine pu_ 19 29 HT_.out ?_
      refine pu_ 20 30 HT_.out ?_
      refine pu_ 21 31 HT_.out ?_
      refine pz_ 22 32 HT_.out ?_
      refine done_ (done_of HT_.out (by kernel_rfl)) ?_
      try go_wp2
      go_ret
      exact ⟨by first | rfl | (simp [errW_none, errW_some] <;> rfl) | (simp [*, errW_none, errW_some] <;> rfl), by repeat (first | (with_reducible first | exact HB.out | apply below_alloc | apply pw_below_drewN | apply below_drew1) | exact HB.out)⟩
    ·rw [if_neg c3] at H
     exact absurd H (by simp)
   ·rw [if_neg c2] at H
    have c2b0 : decide (x3_1 < (l0.length : Int)) = false := decide_eq_false c2
    clear c2
    obtain rfl := Option.some.inj H
    go_wp2
    go_ret
    exact ⟨by first | rfl | (simp [errW_none, errW_some] <;> rfl) | (simp [*, errW_none, errW_some] <;> rfl), by repeat (first | (with_reducible first | exact HB.out | apply below_alloc | apply pw_below_drewN | apply below_drew1) | exact HB.out)⟩
end Go.Proofs.YtffcbfclpfchnaaGreatDoor.Q
end

section
namespace Go.Proofs.YtffcbfclpfchnaaGreatDoor.Q
open Go.Proofs.YtffcbfclpfchnaaGreatDoor.QB.D
open Go Go.RowKit Go.Lib Go.Proofs.YtffcbfclpfchnaaGreatDoorW.PrintWords Go.Proofs.YtffcbfclpfchnaaGreatDoorW.PrintLast Go.Proofs.YtffcbfclpfchnaaGreatDoorW.PrintMore Gw
set_option linter.unusedVariables false
set_option linter.unusedSimpArgs false
theorem less_val (k : Nat) (x y : S42) (hx : Brief x) (hy : Brief y) (gx : GoodN x) (gy : GoodN y) (hk : 900 ≤ k) : graftwoodref05_Less.f k x.f0 x.f1 y.f0 y.f1 = some (decide (ordN x y < 0)) := by
  have h0 : Small x.f0 := by have := hx.1; unfold Small; omega
  have h1 : Small y.f0 := by have := hy.1; unfold Small; omega
  unfold graftwoodref05_Less.f
  rw [rcmp1_val _ _ h0 h1 k (by have := hx.1; omega)]
  have hc : graftwoodref03_Cmp.f x.f1 y.f1 = some (verC (vOf (bs x.f1)) (vOf (bs y.f1))) := by
    unfold graftwoodref03_Cmp.f
    rw [if_pos ⟨⟨gx.2.1, gy.2.1⟩, gx.2.2, gy.2.2⟩]
  rw [hc]
  simp only [Option.bind_some]
  have ho : ordN x y = orI (lexC (bs x.f0) (bs y.f0)) (verC (vOf (bs x.f1)) (vOf (bs y.f1))) := rfl
  rw [ho]
  unfold orI
  by_cases c1 : lexC (bs x.f0) (bs y.f0) < 0
  · rw [if_pos c1, if_neg (by omega), decide_eq_true c1]
  · rw [if_neg c1]
    by_cases c2 : lexC (bs x.f0) (bs y.f0) = 0
    · rw [if_pos c2, if_pos c2]
    · rw [if_neg c2, if_neg c2, decide_eq_false c1]
theorem ref5May_val (k : Nat) (x : S42) (hx : Brief x) (hk : 900 ≤ k) : graftwoodref05_May.f k x.f0 x.f1 = some (mayN x) := by
  have h0 : Small x.f0 := by have := hx.1; unfold Small; omega
  have h1 : Small x.f1 := by have := hx.2; unfold Small; omega
  unfold graftwoodref05_May.f
  rw [ref4May_tot _ h0 k (by have := hx.1; omega)]
  unfold graftwoodref03_May.f graftwoodref03_Split.f
  rw [if_pos h1]
  simp only [Option.bind_some]
  rw [splitV_ok]
  show _ = some (isPath (bs x.f0) && isVersion (bs x.f1))
  cases isPath (bs x.f0) <;> rfl
theorem rchk_l0 (l : List S42) (hl : l.length ≤ 4294967296) (hb : ∀ x ∈ l, Brief x) : ∀ (n i k : Nat) (p : Option S42), l.length ≤ i + n → i ≤ l.length → n + 1000 ≤ k →
    (p = if i = 0 then none else l[i - 1]?) → (∀ q, p = some q → mayN q = true) → graftwoodref05_Check.l0 k l (i : Int) = some (chk p (l.drop i)) := by
  intro n
  induction n with
  | zero =>
    intro i k p h1 h2 hk hp hq
    obtain ⟨j, rfl⟩ : ∃ j, k = j + 1 := ⟨k - 1, by omega⟩
    have e : i = l.length := by omega
    subst e
    simp only [graftwoodref05_Check.l0]
    rw [if_neg (by omega), List.drop_length]
    cases p <;> rfl
  | succ n ih =>
    intro i k p h1 h2 hk hp hq
    obtain ⟨j, rfl⟩ : ∃ j, k = j + 1 := ⟨k - 1, by omega⟩
    by_cases hi : i < l.length
    · have hx := hb _ (List.getElem_mem hi)
      have hwr : wrap64 ((i : Int) + 1) = ((i + 1 : Nat) : Int) := by unfold wrap64; omega
      simp only [graftwoodref05_Check.l0]
      rw [if_pos (by omega), if_pos (by omega), rd_nat hi, ref5May_val j l[i] hx (by omega), List.drop_eq_getElem_cons hi]
      simp only [Option.bind_some, chk]
      cases hm : mayN l[i]
      · rfl
      · rw [if_pos rfl]
        have hnext : graftwoodref05_Check.l0 j l (wrap64 ((i : Int) + 1)) = some (chk (some l[i]) (l.drop (i + 1))) := by
          rw [hwr]
          refine ih (i + 1) j _ (by omega) (by omega) (by omega) ?_ ?_
          · rw [if_neg (by omega), Nat.add_sub_cancel, List.getElem?_eq_getElem hi]
          · intro q hqq
            injection hqq with hqq
            rw [← hqq]; exact hm
        by_cases h0 : i = 0
        · subst h0
          have hp' : p = none := by rw [hp]; rfl
          subst hp'
          rw [if_neg (by omega), hnext]
          rfl
        · have hi1 : i - 1 < l.length := by omega
          have hp' : p = some l[i - 1] := by rw [hp, if_neg h0, List.getElem?_eq_getElem hi1]
          subst hp'
          have hm1 := hq _ rfl
          have hx1 := hb _ (List.getElem_mem hi1)
          have hw1 : wrap64 ((i : Int) - 1) = ((i - 1 : Nat) : Int) := by unfold wrap64; omega
          rw [if_pos (by omega), hw1, if_pos (by omega), if_pos (by omega), rd_nat hi1, less_val j l[i - 1] l[i] hx1 hx (mayN_good hx1.tiny hm1) (mayN_good hx.tiny hm) (by omega)]
          simp only [Option.bind_some]
          by_cases ho : ordN l[i - 1] l[i] < 0
          · rw [decide_eq_true ho, if_pos rfl, hnext]
            rfl
          · rw [decide_eq_false ho, if_neg (by decide)]
            rfl
    · have e : i = l.length := by omega
      subst e
      simp only [graftwoodref05_Check.l0]
      rw [if_neg (by omega), List.drop_length]
      cases p <;> rfl
theorem rcheck_val (l : List S42) (hl : l.length ≤ 4294967296) (hb : ∀ x ∈ l, Brief x) (k : Nat) (hk : l.length + 1000 ≤ k) : graftwoodref05_Check.f k l = some (checkN l) := by
  have h := rchk_l0 l hl hb l.length 0 k none (by omega) (Nat.zero_le _) hk rfl (fun q h => by cases h)
  rw [List.drop_zero] at h
  exact h
theorem node_eqy (x : S42) : (!(x.f0.toList == ([] : List UInt8)) || !(x.f1.toList == ([] : List UInt8))) = !decide (x = z42) := by
  rw [← node_eqz]
  have e : (⟨#[]⟩ : ByteArray).toList = [] := by rw [ByteArray.toList_eq]
  rw [e, Bool.not_and]
theorem okE_cons (x : S51) (r : List S51) : okE (x :: r) = (!badE x && okE r) := by unfold okE; simp
theorem may18_l0 (l : List S51) (hl : l.length ≤ 65536) (hb : ∀ e ∈ l, Brief e.f0 ∧ Brief e.f1) : ∀ (r i k : Nat), i + r = l.length → r + 1000 ≤ k → graftwoodref18_May.l0 k l (i : Int) = some (okE (l.drop i)) := by
  intro r
  induction r with
  | zero =>
    intro i k hi hk
    obtain ⟨j, rfl⟩ : ∃ j, k = j + 1 := ⟨k - 1, by omega⟩
    simp only [graftwoodref18_May.l0]
    rw [if_neg (by omega), List.drop_eq_nil_of_le (by omega)]
    rfl
  | succ r ih =>
    intro i k hi hk
    obtain ⟨j, rfl⟩ : ∃ j, k = j + 1 := ⟨k - 1, by omega⟩
    have hil : i < l.length := by omega
    have hx := hb _ (List.getElem_mem hil)
    have hwr : wrap64 ((i : Int) + 1) = ((i + 1 : Nat) : Int) := by unfold wrap64; omega
    have ih' := ih (i + 1) j (by omega) (by omega)
    simp only [graftwoodref18_May.l0]
    rw [if_pos (by omega), if_pos (by omega), rd_needs hil, ref5May_val j l[i].f1 hx.2 (by omega), ref5May_val j l[i].f0 hx.1 (by omega), node_eqy, hwr, ih', List.drop_eq_getElem_cons hil, okE_cons]
    unfold badE
    simp only [Option.bind_some]
    cases mayN l[i].f1 <;> cases mayN l[i].f0 <;> by_cases hz : l[i].f0 = z42 <;> simp [hz]
theorem ref18May_val (l : List S51) (hl : l.length ≤ 65536) (hb : ∀ e ∈ l, Brief e.f0 ∧ Brief e.f1) (k : Nat) (hk : l.length + 1000 ≤ k) : graftwoodref18_May.f k l = some (okE l) := by
  have h := may18_l0 l hl hb l.length 0 k (by omega) hk
  rw [List.drop_zero] at h
  exact h
end Go.Proofs.YtffcbfclpfchnaaGreatDoor.Q
end

section
namespace Go.Proofs.YtffcbfclpfchnaaGreatDoor.Q
open Go.RowKit Go.Proofs.YtffcbfclpfchnaaGreatDoorW.PrintWords Go.Proofs.YtffcbfclpfchnaaGreatDoorW.PrintLast Go.Proofs.YtffcbfclpfchnaaGreatDoorW.PrintMore
attribute [local go_sem] max2_int min2_int max_two min_two max_three min_three max_four min_four   -- for this text's walks alone
set_option linter.unusedVariables false
set_option linter.unusedSimpArgs false
attribute [local go_sem high] eqA42
/-! ### graftwoodref05_With: function 34 -/
mutual
def graftwoodref05_With.l0 : Nat → List (S42) → List (S42) → Int → ByteArray → ByteArray → Option ((List (S42)))
 | 0, _, _, _, _, _ => none
 | k + 1, x0, x5, x6, x288000, x288001 => if x6 < (x0.length : Int) then (if 0 ≤ x6 then ((graftwoodref05_Less.f k ((rd_T42 x0 x6).f0) ((rd_T42 x0 x6).f1) x288000 x288001).bind fun t289 => (if t289 = true then (if x5.length < 4398046511104 then (graftwoodref05_With.l0 k x0 (x5 ++ [(⟨(rd_T42 x0 x6).f0, (rd_T42 x0 x6).f1⟩ : S42)]) (wrap64 (x6 + 1)) x288000 x288001) else (none)) else (graftwoodref05_With.l0 k x0 x5 (wrap64 (x6 + 1)) x288000 x288001))) else (none)) else (if x5.length < 4398046511104 then (graftwoodref05_With.l1 k x0 (x5 ++ [(⟨x288000, x288001⟩ : S42)]) 0 x288000 x288001) else (none))
def graftwoodref05_With.l1 : Nat → List (S42) → List (S42) → Int → ByteArray → ByteArray → Option ((List (S42)))
 | 0, _, _, _, _, _ => none
 | k + 1, x0, x5, x7, x288000, x288001 => if x7 < (x0.length : Int) then (if 0 ≤ x7 then ((graftwoodref05_Less.f k x288000 x288001 ((rd_T42 x0 x7).f0) ((rd_T42 x0 x7).f1)).bind fun t298 => (if t298 = true then (if x5.length < 4398046511104 then (graftwoodref05_With.l1 k x0 (x5 ++ [(⟨(rd_T42 x0 x7).f0, (rd_T42 x0 x7).f1⟩ : S42)]) (wrap64 (x7 + 1)) x288000 x288001) else (none)) else (graftwoodref05_With.l1 k x0 x5 (wrap64 (x7 + 1)) x288000 x288001))) else (none)) else (some x5)
end
def graftwoodref05_With.f (k : Nat) (l0 : List (S42)) (a1_0 : ByteArray) (a1_1 : ByteArray) : Option ((List (S42))) := graftwoodref05_With.l0 k l0 ([] : List (S42)) 0 a1_0 a1_1
set_option maxHeartbeats 8000000 in
set_option maxRecDepth 100000 in
theorem graftwoodref05_With.calls (k : Nat) (A0 : Option Addr) (c0 : Nat) (l0 : List (S42)) (a1_0 : ByteArray) (a1_1 : ByteArray) (r : List (S42)) (w : World) (hr0 : Kd.C k42 w A0 l0.length l0) (hc0 : l0.length ≤ c0) (h : graftwoodref05_With.f k l0 a1_0 a1_1 = some r) :
  Calls Tryz.prog 34 #[.slice A0 l0.length c0, .agg #[.string a1_0, .string a1_1]] w fun e w' => ∃ v0_ : Value, e = .returned (v0_) ∧ Kd.R k42 42 w' w.heap.size (fun _ => True) v0_ r ∧ Below w.heap.size w w' := by
 have hu42 := Tryz.underlying42
 have HR0 := Aside0.mk hr0
 have HC0 := Aside0.mk hc0
 clear hr0 hc0
 have HB := Aside0.mk (Below.refl w.heap.size w)
 have H : (graftwoodref05_With.l0 k l0 ([] : List (S42)) 0 a1_0 a1_1) = some r := h
 clear h
 have H' := Aside0.mk H
 clear H
 go_enter Tryz.func34, Tryz.ntmps34
 go_wp2_with (first | ((with_reducible refine gate_dst (N := 3) rfl ?_); refine box_event ?hg (N := 3) ?hd (cs := #[.string a1_0, .string a1_1]) (t := 42) ?hr ?_; (case hd => rfl); (case hg => rfl); (case hr => first | (go_simp; done) | (go_simp; rfl)); intro gb287 hg w3 hbox hb; have n0_ := Aside0.mk (below_step (by repeat (first | (with_reducible first | exact HB.out | apply below_alloc | apply pw_below_drewN | apply below_drew1) | exact HB.out)) hb); have n1_ := Aside0.mk (hbox); have n2_ := Aside0.mk ((by rw [hg]; exact (below_size (by repeat (first | (with_reducible first | exact HB.out | apply below_alloc | apply pw_below_drewN | apply below_drew1) | exact HB.out))) : w.heap.size ≤ gb287)); have n3_ := Aside0.mk ((by rw [hg]; exact (below_size (by repeat (first | (with_reducible first | exact HB.out | apply below_alloc | apply pw_below_drewN | apply below_drew1) | exact HB.out))) : w.heap.size ≤ gb287)); clear HB; have HB := n0_; have BK287 := n1_; have GW287 := n2_; have GE287 := n3_; clear n0_ n1_ n2_ n3_; clear hb hbox hg))
 go_loopg [5, 6] k (fun kq v5 v6 w' => ∃ (x5_1 : List (S42)) (x6_1 : Int), v6 = .int .i64 x6_1 ∧ Aside0 (graftwoodref05_With.l0 kq l0 x5_1 x6_1 a1_0 a1_1 = some r) ∧ Aside0 (kq ≤ k) ∧ Aside0 (Kd.R k42 42 w' w.heap.size (fun k_ => k_ ≠ gb287) v5 x5_1) ∧ Aside0 (w'.heap[gb287]? = some (.cells #[.string a1_0, .string a1_1] 42 (0, 0))) ∧ Aside0 (Below w.heap.size w w'))
 case atStart => exact ⟨(([] : List (S42))), (0), (by first | rfl | (simp; done) | (simp [*]; done)), H', ⟨Nat.le_refl _⟩, ⟨by first | exact Kd.R_nil _ _ _ _ _ | exact Kd.N_nil _ _ _ _ _ | exact Kd.V_nil _ _ _ _ _ | exact Kd.Q_nil _ _ _ _ _ | exact Kd.S_nil _ _ _ _ _⟩, ⟨by (with_reducible repeat (first | refine blk_drewN ?_ _ | refine blk_drew ?_ | refine blk_alloc ?_ _)); exact BK287.out⟩, ⟨by repeat (first | (with_reducible first | exact HB.out | apply below_alloc | apply pw_below_drewN | apply below_drew1 | refine below_set ?_ GE287.out) | exact HB.out)⟩⟩
 case round =>
  clear H'
  try clear p2
  try clear c3
  obtain ⟨x5_1, x6_1, rfl, HA, HK1, HO_5, BK287, HB⟩ := hrel
  cases gk with
  | zero => exact absurd HA.out (by simp [graftwoodref05_With.l0])
  | succ k1 =>
   have H := HA.out
   clear HA
   simp only [graftwoodref05_With.l0] at H
   by_cases c4 : x6_1 < (l0.length : Int)
   ·rw [if_pos c4] at H
    have c4b0 : decide (x6_1 < (l0.length : Int)) = true := decide_eq_true c4
    clear c4
    by_cases c5 : 0 ≤ x6_1
    ·rw [if_pos c5] at H
     have c5b0 : decide (0 ≤ x6_1) = true := decide_eq_true c5
     clear c5
     replace H := Option.bind_eq_some_iff.mp H
     obtain ⟨t289, A60, H⟩ := H
     replace H : (if t289 = true then (if x5_1.length < 4398046511104 then (graftwoodref05_With.l0 k1 l0 (x5_1 ++ [(⟨(rd_T42 l0 x6_1).f0, (rd_T42 l0 x6_1).f1⟩ : S42)]) (wrap64 (x6_1 + 1)) a1_0 a1_1) else (none)) else (graftwoodref05_With.l0 k1 l0 x5_1 (wrap64 (x6_1 + 1)) a1_0 a1_1)) = some r := H
     have A6 := Aside0.mk A60
     clear A60
     by_cases c7 : t289 = true
     ·subst c7
      have H1 : (if x5_1.length < 4398046511104 then (graftwoodref05_With.l0 k1 l0 (x5_1 ++ [(⟨(rd_T42 l0 x6_1).f0, (rd_T42 l0 x6_1).f1⟩ : S42)]) (wrap64 (x6_1 + 1)) a1_0 a1_1) else (none)) = some r := by rw [if_pos rfl] at H; exact H
      clear H
      have H := H1
      clear H1
      by_cases c8 : x5_1.length < 4398046511104
      ·rw [if_pos c8] at H
       have LMc8 := Aside0.mk c8
       clear c8
       obtain ⟨y291, hy291⟩ : ∃ y_ : List (S42), y_ = (x5_1 ++ [(⟨(rd_T42 l0 x6_1).f0, (rd_T42 l0 x6_1).f1⟩ : S42)]) := ⟨_, rfl⟩
       replace H : (graftwoodref05_With.l0 k1 l0 y291 (wrap64 (x6_1 + 1)) a1_0 a1_1) = some r := by first | (rw [hy291]; with_reducible exact H) | (have H2_ := (Option.bind_some _ _).symm.trans H; rw [hy291]; with_reducible exact H2_) | (have H2_ := (Option.bind_some _ _).symm.trans H; with_reducible exact H2_) | with_reducible exact H | (rw [hy291]; exact H) | exact H
       have Ny291 := Aside0.mk hy291
       clear hy291
       have H' := Aside0.mk H
       clear H
       try go_wp2
       have n0_ := Aside0.mk (Kd.R_drew HO_5.out)
       have n1_ := Aside0.mk (blk_drew BK287.out)
       have n2_ := Aside0.mk (below_drew1 HB.out)
       clear HO_5 BK287 HB
       have HO_5 := n0_
       have BK287 := n1_
       have HB := n2_
       clear n0_ n1_ n2_
       have p288 : 0 ≤ (x6_1 : Int) := of_decide_eq_true (by first | (with_reducible assumption) | assumption)
       have q288 : x6_1 < (l0.length : Int) := of_decide_eq_true (by first | (with_reducible assumption) | assumption)
       obtain ⟨ad288, e288, hx288_0, hx288_1⟩ := at_T42 HR0.out x6_1 p288 q288
       have hw288_1 := hx288_1
       have hw288_0 := hx288_0
       cases e288
       replace hx288_0 := (HB.out.cell (World.block_lt_of_cell? w _ hx288_0)).trans hx288_0
       replace hx288_1 := (HB.out.cell (World.block_lt_of_cell? w _ hx288_1)).trans hx288_1
       replace p288 := eq_true p288
       replace q288 := eq_true q288
       refine start_ (n := 6) (S := fun w' => w'.cell? ⟨gb287, 0, none⟩ = some (.string a1_0) ∧ w'.cell? ⟨gb287, 1, none⟩ = some (.string a1_1) ∧ w'.cell? (ad288.add ((x6_1).toNat * 2)) = some (.string ((rd_T42 l0 x6_1).f0)) ∧ w'.cell? ⟨(ad288.add ((x6_1).toNat * 2)).block, (ad288.add ((x6_1).toNat * 2)).off + 1, none⟩ = some (.string ((rd_T42 l0 x6_1).f1))) (ds := []) #[false, false, false, false, false, false] (by kernel_rfl) rfl rfl ⟨(blk_cell BK287.out 0).trans rfl, (blk_cell BK287.out 1).trans rfl, ((HB.out.cell (World.block_lt_of_cell? w _ hw288_0)).trans hw288_0), ((HB.out.cell (World.block_lt_of_cell? w _ hw288_1)).trans hw288_1)⟩ (fun hHeld => ?_)
       generalize wr.drew = w9 at HO_5 BK287 HB hx288_0 hx288_1 hHeld ⊢
       refine pure_ (i := 0) (N := some 14) (v := ?_) (a' := ?_) #[true, false, false, false, false, false] rfl rfl (by kernel_rfl) (fun _ _ _ h => h) (Or.inl ⟨by rfl, ?_⟩) ?_ ?_
       rotate_left
       ·intro w'
        go_simp
        with_reducible rfl
       rotate_left
       ·simp only [Act.put, List.setIfInBounds_toArray, List.set_cons_zero, List.set_cons_succ, i64_w, i32_w]
        rfl
       refine pure_ (i := 1) (N := some 15) (v := ?_) (a' := ?_) #[true, true, false, false, false, false] rfl rfl (by kernel_rfl) (fun _ _ _ h => h) (Or.inl ⟨by rfl, ?_⟩) ?_ ?_
       rotate_left
       ·intro w'
        go_simp
        with_reducible rfl
       rotate_left
       ·simp only [Act.put, List.setIfInBounds_toArray, List.set_cons_zero, List.set_cons_succ, i64_w, i32_w]
        rfl
       refine pure_ (i := 2) (N := some 16) (v := ?_) (a' := ?_) #[true, true, true, false, false, false] rfl rfl (by kernel_rfl) (fun _ _ _ h => h) (Or.inl ⟨by rfl, ?_⟩) ?_ ?_
       rotate_left
       ·intro w'
        go_simp
        with_reducible rfl
       rotate_left
       ·simp only [Act.put, List.setIfInBounds_toArray, List.set_cons_zero, List.set_cons_succ, i64_w, i32_w]
        rfl
       refine take_ (i := 3) (N := some 17) (v := ?_) (a' := ?_) #[true, true, true, true, false, false] rfl rfl (by kernel_rfl) (fun _ _ _ h => h) (Or.inl ⟨by rfl, ?_⟩) hHeld ?_ ?_
       rotate_left
       ·rintro w' ⟨s0, s1, s2, s3⟩
        go_simp
        with_reducible rfl
       rotate_left
       ·simp only [Act.put, List.setIfInBounds_toArray, List.set_cons_zero, List.set_cons_succ, i64_w, i32_w]
        rfl
       refine take_ (i := 4) (N := some 18) (v := ?_) (a' := ?_) #[true, true, true, true, true, false] rfl rfl (by kernel_rfl) (fun _ _ _ h => h) (Or.inl ⟨by rfl, ?_⟩) hHeld ?_ ?_
       rotate_left
       ·rintro w' ⟨s0, s1, s2, s3⟩
        go_simp
        with_reducible rfl
       rotate_left
       ·simp only [Act.put, List.setIfInBounds_toArray, List.set_cons_zero, List.set_cons_succ, i64_w, i32_w]
        rfl
       refine one_ (i := 5) (N := some 19) #[true, true, true, true, true, true] rfl rfl (by kernel_rfl) (by decide) (fun K hK => ?_)
       refine goes_ Tryz.func28 (by kernel_rfl) rfl #[.agg #[.string ((rd_T42 l0 x6_1).f0), .string ((rd_T42 l0 x6_1).f1)], .agg #[.string a1_0, .string a1_1]] (by rfl) rfl rfl (by (try simp only [List.map_toArray, List.map_cons, List.map_nil]); first | done | rfl | (simp only [List.length_drop, List.length_take]; rfl)) ?_
       with_reducible refine (graftwoodref05_Less.calls k1 ((rd_T42 l0 x6_1).f0) ((rd_T42 l0 x6_1).f1) a1_0 a1_1 true _ A6.out).mono ?_
       rintro e w10 ⟨rfl, hb⟩
       refine ⟨_, rfl, ?_⟩
       have n0_ := Aside0.mk (Kd.R_below (by (with_reducible repeat (first | apply Kd.R_alloc | apply Kd.R_drewN | apply Kd.R_drew)); exact HO_5.out) hb)
       have n1_ := Aside0.mk (blk_below (g := gb287) (o := .cells #[.string a1_0, .string a1_1] 42 (0, 0)) (by (with_reducible repeat (first | refine blk_drewN ?_ _ | refine blk_drew ?_ | refine blk_alloc ?_ _)); exact BK287.out) hb)
       have n2_ := Aside0.mk (below_step (by repeat (first | (with_reducible first | exact HB.out | apply below_alloc | apply pw_below_drewN | apply below_drew1 | refine below_set ?_ GE287.out) | exact HB.out)) hb)
       clear HO_5 BK287 HB
       have HO_5 := n0_
       have BK287 := n1_
       have HB := n2_
       clear n0_ n1_ n2_
       (try clear hb)
       (try clear hb2)
       (try clear hk)
       (try clear hi)
       refine hK.out _ _ ⟨(blk_cell BK287.out 0).trans rfl, (blk_cell BK287.out 1).trans rfl, ((HB.out.cell (World.block_lt_of_cell? w _ hw288_0)).trans hw288_0), ((HB.out.cell (World.block_lt_of_cell? w _ hw288_1)).trans hw288_1)⟩ (fun hHeld => ?_)
       clear hK K
       refine nz_ 19 ?_
       refine done_ (by kernel_rfl) ?_
       have p290 : 0 ≤ (x6_1 : Int) := of_decide_eq_true (by first | (with_reducible assumption) | assumption)
       have q290 : x6_1 < (l0.length : Int) := of_decide_eq_true (by first | (with_reducible assumption) | assumption)
       obtain ⟨ad290, e290, hx290_0, hx290_1⟩ := at_T42 HR0.out x6_1 p290 q290
       obtain rfl : ad288 = ad290 := (by injection e290)
       replace hx290_0 := (HB.out.cell (World.block_lt_of_cell? w _ hx290_0)).trans hx290_0
       replace hx290_1 := (HB.out.cell (World.block_lt_of_cell? w _ hx290_1)).trans hx290_1
       replace p290 := eq_true p290
       replace q290 := eq_true q290
       try go_wp2_with (first | ((with_reducible refine gate_builtin (b := .append) (xs := #[.tmp 20, .tmp 25]) rfl ?_); at_builtin; refine Kd.R_append k42 (w0 := w) w.heap.size rfl (.tmp 20) (.tmp 25) 22 42 (.agg #[(.string ⟨#[]⟩), (.string ⟨#[]⟩)]) 32 rfl Tryz.underlying22 info42 rfl (by decide) (by omega) u5 x5_1 (⟨(rd_T42 l0 x6_1).f0, (rd_T42 l0 x6_1).f1⟩ : S42) [.string ((rd_T42 l0 x6_1).f0), .string ((rd_T42 l0 x6_1).f1)] (fun k_ => k_ ≠ gb287) (fun _ => False) rfl rfl ?aP (fun _ hk => hk.elim) ?aF ?aO ?aB ?aS ?aL ?_; (case aP => exact k42_mkM _ _ _ (⟨(rd_T42 l0 x6_1).f0, (rd_T42 l0 x6_1).f1⟩ : S42)); (case aB => exact (by repeat (first | (with_reducible first | exact HB.out | apply below_alloc | apply pw_below_drewN | apply below_drew1 | refine below_set ?_ GE287.out) | exact HB.out))); (case aF => exact (fun k_ hk => Kd.freshB (g := gb287) (o := .cells #[.string a1_0, .string a1_1] 42 (0, 0)) (by (with_reducible repeat (first | refine blk_drewN ?_ _ | refine blk_drew ?_ | refine blk_alloc ?_ _)); exact BK287.out) k_ hk)); (case aO => exact (by (with_reducible repeat (first | apply Kd.R_alloc | apply Kd.R_drewN | apply Kd.R_drew)); exact HO_5.out)); (case aS => exact (below_size (by repeat (first | (with_reducible first | exact HB.out | apply below_alloc | apply pw_below_drewN | apply below_drew1 | refine below_set ?_ GE287.out) | exact HB.out)))); (case aL => have := LMc8.out; omega); intro v292 w11 ho hb hg hat; rw [← Ny291.out] at ho; have n0_ := Aside0.mk (blk_grown (g := gb287) (o := .cells #[.string a1_0, .string a1_1] 42 (0, 0)) (by (with_reducible repeat (first | refine blk_drewN ?_ _ | refine blk_drew ?_ | refine blk_alloc ?_ _)); exact BK287.out) hg (Kd.R_away HO_5.out (fun _ hk => hk))); have n1_ := Aside0.mk (hb); have n2_ := Aside0.mk (ho); clear BK287; clear HB; clear HO_5; have BK287 := n0_; have HB := n1_; have HO293 := n2_; clear n0_ n1_ n2_; clear ho hb hg hat))
       go_roundg k1
       case measure => have := HK1.out; omega
       case rel => exact ⟨(y291), (wrap64 (x6_1 + 1)), (by first | rfl | (simp; done) | (simp [*]; done)), H', ⟨by have := HK1.out; omega⟩, ⟨by (with_reducible repeat (first | apply Kd.R_alloc | apply Kd.R_drewN | apply Kd.R_drew)); exact HO293.out⟩, ⟨by (with_reducible repeat (first | refine blk_drewN ?_ _ | refine blk_drew ?_ | refine blk_alloc ?_ _)); exact BK287.out⟩, ⟨by repeat (first | (with_reducible first | exact HB.out | apply below_alloc | apply pw_below_drewN | apply below_drew1 | refine below_set ?_ GE287.out) | exact HB.out)⟩⟩
      ·rw [if_neg c8] at H
       exact absurd H (by simp)
     ·replace c7 := Bool.eq_false_iff.mpr c7
      subst c7
      have H1 : (graftwoodref05_With.l0 k1 l0 x5_1 (wrap64 (x6_1 + 1)) a1_0 a1_1) = some r := by rw [if_neg (show ¬ (false = true) by decide)] at H; exact H
      clear H
      have H := H1
      clear H1
      have H' := Aside0.mk H
      clear H
      try go_wp2
      have n0_ := Aside0.mk (Kd.R_drew HO_5.out)
      have n1_ := Aside0.mk (blk_drew BK287.out)
      have n2_ := Aside0.mk (below_drew1 HB.out)
      clear HO_5 BK287 HB
      have HO_5 := n0_
      have BK287 := n1_
      have HB := n2_
      clear n0_ n1_ n2_
      have p288 : 0 ≤ (x6_1 : Int) := of_decide_eq_true (by first | (with_reducible assumption) | assumption)
      have q288 : x6_1 < (l0.length : Int) := of_decide_eq_true (by first | (with_reducible assumption) | assumption)
      obtain ⟨ad288, e288, hx288_0, hx288_1⟩ := at_T42 HR0.out x6_1 p288 q288
      have hw288_1 := hx288_1
      have hw288_0 := hx288_0
      cases e288
      replace hx288_0 := (HB.out.cell (World.block_lt_of_cell? w _ hx288_0)).trans hx288_0
      replace hx288_1 := (HB.out.cell (World.block_lt_of_cell? w _ hx288_1)).trans hx288_1
      replace p288 := eq_true p288
      replace q288 := eq_true q288
      refine start_ (n := 6) (S := fun w' => w'.cell? ⟨gb287, 0, none⟩ = some (.string a1_0) ∧ w'.cell? ⟨gb287, 1, none⟩ = some (.string a1_1) ∧ w'.cell? (ad288.add ((x6_1).toNat * 2)) = some (.string ((rd_T42 l0 x6_1).f0)) ∧ w'.cell? ⟨(ad288.add ((x6_1).toNat * 2)).block, (ad288.add ((x6_1).toNat * 2)).off + 1, none⟩ = some (.string ((rd_T42 l0 x6_1).f1))) (ds := []) #[false, false, false, false, false, false] (by kernel_rfl) rfl rfl ⟨(blk_cell BK287.out 0).trans rfl, (blk_cell BK287.out 1).trans rfl, ((HB.out.cell (World.block_lt_of_cell? w _ hw288_0)).trans hw288_0), ((HB.out.cell (World.block_lt_of_cell? w _ hw288_1)).trans hw288_1)⟩ (fun hHeld => ?_)
      generalize wr.drew = w12 at HO_5 BK287 HB hx288_0 hx288_1 hHeld ⊢
      refine pure_ (i := 0) (N := some 14) (v := ?_) (a' := ?_) #[true, false, false, false, false, false] rfl rfl (by kernel_rfl) (fun _ _ _ h => h) (Or.inl ⟨by rfl, ?_⟩) ?_ ?_
      rotate_left
      ·intro w'
       go_simp
       with_reducible rfl
      rotate_left
      ·simp only [Act.put, List.setIfInBounds_toArray, List.set_cons_zero, List.set_cons_succ, i64_w, i32_w]
       rfl
      refine pure_ (i := 1) (N := some 15) (v := ?_) (a' := ?_) #[true, true, false, false, false, false] rfl rfl (by kernel_rfl) (fun _ _ _ h => h) (Or.inl ⟨by rfl, ?_⟩) ?_ ?_
      rotate_left
      ·intro w'
       go_simp
       with_reducible rfl
      rotate_left
      ·simp only [Act.put, List.setIfInBounds_toArray, List.set_cons_zero, List.set_cons_succ, i64_w, i32_w]
       rfl
      refine pure_ (i := 2) (N := some 16) (v := ?_) (a' := ?_) #[true, true, true, false, false, false] rfl rfl (by kernel_rfl) (fun _ _ _ h => h) (Or.inl ⟨by rfl, ?_⟩) ?_ ?_
      rotate_left
      ·intro w'
       go_simp
       with_reducible rfl
      rotate_left
      ·simp only [Act.put, List.setIfInBounds_toArray, List.set_cons_zero, List.set_cons_succ, i64_w, i32_w]
       rfl
      refine take_ (i := 3) (N := some 17) (v := ?_) (a' := ?_) #[true, true, true, true, false, false] rfl rfl (by kernel_rfl) (fun _ _ _ h => h) (Or.inl ⟨by rfl, ?_⟩) hHeld ?_ ?_
      rotate_left
      ·rintro w' ⟨s0, s1, s2, s3⟩
       go_simp
       with_reducible rfl
      rotate_left
      ·simp only [Act.put, List.setIfInBounds_toArray, List.set_cons_zero, List.set_cons_succ, i64_w, i32_w]
       rfl
      refine take_ (i := 4) (N := some 18) (v := ?_) (a' := ?_) #[true, true, true, true, true, false] rfl rfl (by kernel_rfl) (fun _ _ _ h => h) (Or.inl ⟨by rfl, ?_⟩) hHeld ?_ ?_
      rotate_left
      ·rintro w' ⟨s0, s1, s2, s3⟩
       go_simp
       with_reducible rfl
      rotate_left
      ·simp only [Act.put, List.setIfInBounds_toArray, List.set_cons_zero, List.set_cons_succ, i64_w, i32_w]
       rfl
      refine one_ (i := 5) (N := some 19) #[true, true, true, true, true, true] rfl rfl (by kernel_rfl) (by decide) (fun K hK => ?_)
      refine goes_ Tryz.func28 (by kernel_rfl) rfl #[.agg #[.string ((rd_T42 l0 x6_1).f0), .string ((rd_T42 l0 x6_1).f1)], .agg #[.string a1_0, .string a1_1]] (by rfl) rfl rfl (by (try simp only [List.map_toArray, List.map_cons, List.map_nil]); first | done | rfl | (simp only [List.length_drop, List.length_take]; rfl)) ?_
      with_reducible refine (graftwoodref05_Less.calls k1 ((rd_T42 l0 x6_1).f0) ((rd_T42 l0 x6_1).f1) a1_0 a1_1 false _ A6.out).mono ?_
      rintro e w13 ⟨rfl, hb⟩
      refine ⟨_, rfl, ?_⟩
      have n0_ := Aside0.mk (Kd.R_below (by (with_reducible repeat (first | apply Kd.R_alloc | apply Kd.R_drewN | apply Kd.R_drew)); exact HO_5.out) hb)
      have n1_ := Aside0.mk (blk_below (g := gb287) (o := .cells #[.string a1_0, .string a1_1] 42 (0, 0)) (by (with_reducible repeat (first | refine blk_drewN ?_ _ | refine blk_drew ?_ | refine blk_alloc ?_ _)); exact BK287.out) hb)
      have n2_ := Aside0.mk (below_step (by repeat (first | (with_reducible first | exact HB.out | apply below_alloc | apply pw_below_drewN | apply below_drew1 | refine below_set ?_ GE287.out) | exact HB.out)) hb)
      clear HO_5 BK287 HB
      have HO_5 := n0_
      have BK287 := n1_
      have HB := n2_
      clear n0_ n1_ n2_
      (try clear hb)
      (try clear hb2)
      (try clear hk)
      (try clear hi)
      refine hK.out _ _ ⟨(blk_cell BK287.out 0).trans rfl, (blk_cell BK287.out 1).trans rfl, ((HB.out.cell (World.block_lt_of_cell? w _ hw288_0)).trans hw288_0), ((HB.out.cell (World.block_lt_of_cell? w _ hw288_1)).trans hw288_1)⟩ (fun hHeld => ?_)
      clear hK K
      refine nz_ 19 ?_
      refine done_ (by kernel_rfl) ?_
      try go_wp2
      go_roundg k1
      case measure => have := HK1.out; omega
      case rel => exact ⟨(x5_1), (wrap64 (x6_1 + 1)), (by first | rfl | (simp; done) | (simp [*]; done)), H', ⟨by have := HK1.out; omega⟩, ⟨by (with_reducible repeat (first | apply Kd.R_alloc | apply Kd.R_drewN | apply Kd.R_drew)); exact HO_5.out⟩, ⟨by (with_reducible repeat (first | refine blk_drewN ?_ _ | refine blk_drew ?_ | refine blk_alloc ?_ _)); exact BK287.out⟩, ⟨by repeat (first | (with_reducible first | exact HB.out | apply below_alloc | apply pw_below_drewN | apply below_drew1 | refine below_set ?_ GE287.out) | exact HB.out)⟩⟩
    ·rw [if_neg c5] at H
     exact absurd H (by simp)
   ·rw [if_neg c4] at H
    have c4b0 : decide (x6_1 < (l0.length : Int)) = false := decide_eq_false c4
    clear c4
    by_cases c14 : x5_1.length < 4398046511104
    ·rw [if_pos c14] at H
     have LMc14 := Aside0.mk c14
     clear c14
     obtain ⟨y294, hy294⟩ : ∃ y_ : List (S42), y_ = (x5_1 ++ [(⟨a1_0, a1_1⟩ : S42)]) := ⟨_, rfl⟩
     replace H : (graftwoodref05_With.l1 k1 l0 y294 0 a1_0 a1_1) = some r := by first | (rw [hy294]; with_reducible exact H) | (have H2_ := (Option.bind_some _ _).symm.trans H; rw [hy294]; with_reducible exact H2_) | (have H2_ := (Option.bind_some _ _).symm.trans H; with_reducible exact H2_) | with_reducible exact H | (rw [hy294]; exact H) | exact H
     have Ny294 := Aside0.mk hy294
     clear hy294
     have H' := Aside0.mk H
     clear H
     have hcz15_0 : wr.cell? ⟨gb287, 0, none⟩ = some (.string a1_0) := (blk_cell BK287.out 0).trans rfl
     have hcz15_1 : wr.cell? ⟨gb287, 1, none⟩ = some (.string a1_1) := (blk_cell BK287.out 1).trans rfl
     have hfz15_0 := blk_frozen BK287.out 0
     have hfz15_1 := blk_frozen BK287.out 1
     go_wp2_with (first | ((with_reducible refine gate_builtin (b := .append) (xs := #[.tmp 27, .tmp 29]) rfl ?_); at_builtin; refine Kd.R_append k42 (w0 := w) w.heap.size rfl (.tmp 27) (.tmp 29) 22 42 (.agg #[(.string ⟨#[]⟩), (.string ⟨#[]⟩)]) 32 rfl Tryz.underlying22 info42 rfl (by decide) (by omega) u5 x5_1 (⟨a1_0, a1_1⟩ : S42) [.string a1_0, .string a1_1] (fun k_ => k_ ≠ gb287) (fun _ => False) rfl rfl ?aP (fun _ hk => hk.elim) ?aF ?aO ?aB ?aS ?aL ?_; (case aP => exact k42_mkM _ _ _ (⟨a1_0, a1_1⟩ : S42)); (case aB => exact (by repeat (first | (with_reducible first | exact HB.out | apply below_alloc | apply pw_below_drewN | apply below_drew1 | refine below_set ?_ GE287.out) | exact HB.out))); (case aF => exact (fun k_ hk => Kd.freshB (g := gb287) (o := .cells #[.string a1_0, .string a1_1] 42 (0, 0)) (by (with_reducible repeat (first | refine blk_drewN ?_ _ | refine blk_drew ?_ | refine blk_alloc ?_ _)); exact BK287.out) k_ hk)); (case aO => exact (by (with_reducible repeat (first | apply Kd.R_alloc | apply Kd.R_drewN | apply Kd.R_drew)); exact HO_5.out)); (case aS => exact (below_size (by repeat (first | (with_reducible first | exact HB.out | apply below_alloc | apply pw_below_drewN | apply below_drew1 | refine below_set ?_ GE287.out) | exact HB.out)))); (case aL => have := LMc14.out; omega); intro v295 w16 ho hb hg hat; rw [← Ny294.out] at ho; have n0_ := Aside0.mk (blk_grown (g := gb287) (o := .cells #[.string a1_0, .string a1_1] 42 (0, 0)) (by (with_reducible repeat (first | refine blk_drewN ?_ _ | refine blk_drew ?_ | refine blk_alloc ?_ _)); exact BK287.out) hg (Kd.R_away HO_5.out (fun _ hk => hk))); have n1_ := Aside0.mk (hb); have n2_ := Aside0.mk (ho); clear BK287; clear HB; clear HO_5; have BK287 := n0_; have HB := n1_; have HO296 := n2_; clear n0_ n1_ n2_; clear ho hb hg hat))
     go_loopg [5, 7] k1 (fun kq v5 v7 w' => ∃ (x5_2 : List (S42)) (x7_2 : Int), v7 = .int .i64 x7_2 ∧ Aside0 (graftwoodref05_With.l1 kq l0 x5_2 x7_2 a1_0 a1_1 = some r) ∧ Aside0 (kq ≤ k1) ∧ Aside0 (Kd.R k42 42 w' w.heap.size (fun k_ => k_ ≠ gb287) v5 x5_2) ∧ Aside0 (w'.heap[gb287]? = some (.cells #[.string a1_0, .string a1_1] 42 (0, 0))) ∧ Aside0 (Below w.heap.size w w'))
     case atStart => exact ⟨(y294), (0), (by first | rfl | (simp; done) | (simp [*]; done)), H', ⟨Nat.le_refl _⟩, ⟨by (with_reducible repeat (first | apply Kd.R_alloc | apply Kd.R_drewN | apply Kd.R_drew)); exact HO296.out⟩, ⟨by (with_reducible repeat (first | refine blk_drewN ?_ _ | refine blk_drew ?_ | refine blk_alloc ?_ _)); exact BK287.out⟩, ⟨by repeat (first | (with_reducible first | exact HB.out | apply below_alloc | apply pw_below_drewN | apply below_drew1 | refine below_set ?_ GE287.out) | exact HB.out)⟩⟩
     case round =>
      clear H'
      try clear c1
      try clear c2
      try clear p2
      try clear q2
      try clear hx2
      try clear c3
      try clear c4
      try clear c4b0
      try clear c5
      try clear c5b0
      try clear p6
      try clear c7
      try clear c8
      try clear c14
      try clear hcz15_0
      try clear hcz15_1
      try clear hfz15_0
      try clear hfz15_1
      try clear hx288_0
      try clear hx288_1
      try clear hx290_0
      try clear hx290_1
      try clear p2
      try clear p288
      try clear p290
      try clear q288
      try clear q290
      obtain ⟨x5_2, x7_2, rfl, HA, HK2, HO_5, BK287, HB⟩ := hrel
      cases gk with
      | zero => exact absurd HA.out (by simp [graftwoodref05_With.l1])
      | succ k2 =>
       have H := HA.out
       clear HA
       simp only [graftwoodref05_With.l1] at H
       by_cases c17 : x7_2 < (l0.length : Int)
       ·rw [if_pos c17] at H
        have c17b0 : decide (x7_2 < (l0.length : Int)) = true := decide_eq_true c17
        clear c17
        by_cases c18 : 0 ≤ x7_2
        ·rw [if_pos c18] at H
         have c18b0 : decide (0 ≤ x7_2) = true := decide_eq_true c18
         clear c18
         replace H := Option.bind_eq_some_iff.mp H
         obtain ⟨t298, A190, H⟩ := H
         replace H : (if t298 = true then (if x5_2.length < 4398046511104 then (graftwoodref05_With.l1 k2 l0 (x5_2 ++ [(⟨(rd_T42 l0 x7_2).f0, (rd_T42 l0 x7_2).f1⟩ : S42)]) (wrap64 (x7_2 + 1)) a1_0 a1_1) else (none)) else (graftwoodref05_With.l1 k2 l0 x5_2 (wrap64 (x7_2 + 1)) a1_0 a1_1)) = some r := H
         have A19 := Aside0.mk A190
         clear A190
         by_cases c20 : t298 = true
         ·subst c20
          have H1 : (if x5_2.length < 4398046511104 then (graftwoodref05_With.l1 k2 l0 (x5_2 ++ [(⟨(rd_T42 l0 x7_2).f0, (rd_T42 l0 x7_2).f1⟩ : S42)]) (wrap64 (x7_2 + 1)) a1_0 a1_1) else (none)) = some r := by rw [if_pos rfl] at H; exact H
          clear H
          have H := H1
          clear H1
          by_cases c21 : x5_2.length < 4398046511104
          ·rw [if_pos c21] at H
           have LMc21 := Aside0.mk c21
           clear c21
           obtain ⟨y300, hy300⟩ : ∃ y_ : List (S42), y_ = (x5_2 ++ [(⟨(rd_T42 l0 x7_2).f0, (rd_T42 l0 x7_2).f1⟩ : S42)]) := ⟨_, rfl⟩
           replace H : (graftwoodref05_With.l1 k2 l0 y300 (wrap64 (x7_2 + 1)) a1_0 a1_1) = some r := by first | (rw [hy300]; with_reducible exact H) | (have H2_ := (Option.bind_some _ _).symm.trans H; rw [hy300]; with_reducible exact H2_) | (have H2_ := (Option.bind_some _ _).symm.trans H; with_reducible exact H2_) | with_reducible exact H | (rw [hy300]; exact H) | exact H
           have Ny300 := Aside0.mk hy300
           clear hy300
           have H' := Aside0.mk H
           clear H
           try go_wp2
           have n0_ := Aside0.mk (Kd.R_drew HO_5.out)
           have n1_ := Aside0.mk (blk_drew BK287.out)
           have n2_ := Aside0.mk (below_drew1 HB.out)
           clear HO_5 BK287 HB
           have HO_5 := n0_
           have BK287 := n1_
           have HB := n2_
           clear n0_ n1_ n2_
           have p297 : 0 ≤ (x7_2 : Int) := of_decide_eq_true (by first | (with_reducible assumption) | assumption)
           have q297 : x7_2 < (l0.length : Int) := of_decide_eq_true (by first | (with_reducible assumption) | assumption)
           obtain ⟨ad297, e297, hx297_0, hx297_1⟩ := at_T42 HR0.out x7_2 p297 q297
           have hw297_1 := hx297_1
           have hw297_0 := hx297_0
           cases e297
           replace hx297_0 := (HB.out.cell (World.block_lt_of_cell? w _ hx297_0)).trans hx297_0
           replace hx297_1 := (HB.out.cell (World.block_lt_of_cell? w _ hx297_1)).trans hx297_1
           replace p297 := eq_true p297
           replace q297 := eq_true q297
           refine start_ (n := 6) (S := fun w' => w'.cell? ⟨gb287, 0, none⟩ = some (.string a1_0) ∧ w'.cell? ⟨gb287, 1, none⟩ = some (.string a1_1) ∧ w'.cell? (ad297.add ((x7_2).toNat * 2)) = some (.string ((rd_T42 l0 x7_2).f0)) ∧ w'.cell? ⟨(ad297.add ((x7_2).toNat * 2)).block, (ad297.add ((x7_2).toNat * 2)).off + 1, none⟩ = some (.string ((rd_T42 l0 x7_2).f1))) (ds := []) #[false, false, false, false, false, false] (by kernel_rfl) rfl rfl ⟨(blk_cell BK287.out 0).trans rfl, (blk_cell BK287.out 1).trans rfl, ((HB.out.cell (World.block_lt_of_cell? w _ hw297_0)).trans hw297_0), ((HB.out.cell (World.block_lt_of_cell? w _ hw297_1)).trans hw297_1)⟩ (fun hHeld => ?_)
           generalize wr.drew = w22 at HO_5 BK287 HB hx297_0 hx297_1 hHeld ⊢
           refine pure_ (i := 1) (N := some 38) (v := ?_) (a' := ?_) #[false, true, false, false, false, false] rfl rfl (by kernel_rfl) (fun _ _ _ h => h) (Or.inl ⟨by rfl, ?_⟩) ?_ ?_
           rotate_left
           ·intro w'
            go_simp
            with_reducible rfl
           rotate_left
           ·simp only [Act.put, List.setIfInBounds_toArray, List.set_cons_zero, List.set_cons_succ, i64_w, i32_w]
            rfl
           refine pure_ (i := 2) (N := some 39) (v := ?_) (a' := ?_) #[false, true, true, false, false, false] rfl rfl (by kernel_rfl) (fun _ _ _ h => h) (Or.inl ⟨by rfl, ?_⟩) ?_ ?_
           rotate_left
           ·intro w'
            go_simp
            with_reducible rfl
           rotate_left
           ·simp only [Act.put, List.setIfInBounds_toArray, List.set_cons_zero, List.set_cons_succ, i64_w, i32_w]
            rfl
           refine pure_ (i := 3) (N := some 40) (v := ?_) (a' := ?_) #[false, true, true, true, false, false] rfl rfl (by kernel_rfl) (fun _ _ _ h => h) (Or.inl ⟨by rfl, ?_⟩) ?_ ?_
           rotate_left
           ·intro w'
            go_simp
            with_reducible rfl
           rotate_left
           ·simp only [Act.put, List.setIfInBounds_toArray, List.set_cons_zero, List.set_cons_succ, i64_w, i32_w]
            rfl
           refine take_ (i := 0) (N := some 37) (v := ?_) (a' := ?_) #[true, true, true, true, false, false] rfl rfl (by kernel_rfl) (fun _ _ _ h => h) (Or.inl ⟨by rfl, ?_⟩) hHeld ?_ ?_
           rotate_left
           ·rintro w' ⟨s0, s1, s2, s3⟩
            go_simp
            with_reducible rfl
           rotate_left
           ·simp only [Act.put, List.setIfInBounds_toArray, List.set_cons_zero, List.set_cons_succ, i64_w, i32_w]
            rfl
           refine take_ (i := 4) (N := some 41) (v := ?_) (a' := ?_) #[true, true, true, true, true, false] rfl rfl (by kernel_rfl) (fun _ _ _ h => h) (Or.inl ⟨by rfl, ?_⟩) hHeld ?_ ?_
           rotate_left
           ·rintro w' ⟨s0, s1, s2, s3⟩
            go_simp
            with_reducible rfl
           rotate_left
           ·simp only [Act.put, List.setIfInBounds_toArray, List.set_cons_zero, List.set_cons_succ, i64_w, i32_w]
            rfl
           refine one_ (i := 5) (N := some 42) #[true, true, true, true, true, true] rfl rfl (by kernel_rfl) (by decide) (fun K hK => ?_)
           refine goes_ Tryz.func28 (by kernel_rfl) rfl #[.agg #[.string a1_0, .string a1_1], .agg #[.string ((rd_T42 l0 x7_2).f0), .string ((rd_T42 l0 x7_2).f1)]] (by rfl) rfl rfl (by (try simp only [List.map_toArray, List.map_cons, List.map_nil]); first | done | rfl | (simp only [List.length_drop, List.length_take]; rfl)) ?_
           with_reducible refine (graftwoodref05_Less.calls k2 a1_0 a1_1 ((rd_T42 l0 x7_2).f0) ((rd_T42 l0 x7_2).f1) true _ A19.out).mono ?_
           rintro e w23 ⟨rfl, hb⟩
           refine ⟨_, rfl, ?_⟩
           have n0_ := Aside0.mk (Kd.R_below (by (with_reducible repeat (first | apply Kd.R_alloc | apply Kd.R_drewN | apply Kd.R_drew)); exact HO_5.out) hb)
           have n1_ := Aside0.mk (blk_below (g := gb287) (o := .cells #[.string a1_0, .string a1_1] 42 (0, 0)) (by (with_reducible repeat (first | refine blk_drewN ?_ _ | refine blk_drew ?_ | refine blk_alloc ?_ _)); exact BK287.out) hb)
           have n2_ := Aside0.mk (below_step (by repeat (first | (with_reducible first | exact HB.out | apply below_alloc | apply pw_below_drewN | apply below_drew1 | refine below_set ?_ GE287.out) | exact HB.out)) hb)
           clear HO_5 BK287 HB
           have HO_5 := n0_
           have BK287 := n1_
           have HB := n2_
           clear n0_ n1_ n2_
           (try clear hb)
           (try clear hb2)
           (try clear hk)
           (try clear hi)
           refine hK.out _ _ ⟨(blk_cell BK287.out 0).trans rfl, (blk_cell BK287.out 1).trans rfl, ((HB.out.cell (World.block_lt_of_cell? w _ hw297_0)).trans hw297_0), ((HB.out.cell (World.block_lt_of_cell? w _ hw297_1)).trans hw297_1)⟩ (fun hHeld => ?_)
           clear hK K
           refine nz_ 42 ?_
           refine done_ (by kernel_rfl) ?_
           have p299 : 0 ≤ (x7_2 : Int) := of_decide_eq_true (by first | (with_reducible assumption) | assumption)
           have q299 : x7_2 < (l0.length : Int) := of_decide_eq_true (by first | (with_reducible assumption) | assumption)
           obtain ⟨ad299, e299, hx299_0, hx299_1⟩ := at_T42 HR0.out x7_2 p299 q299
           obtain rfl : ad297 = ad299 := (by injection e299)
           replace hx299_0 := (HB.out.cell (World.block_lt_of_cell? w _ hx299_0)).trans hx299_0
           replace hx299_1 := (HB.out.cell (World.block_lt_of_cell? w _ hx299_1)).trans hx299_1
           replace p299 := eq_true p299
           replace q299 := eq_true q299
           try go_wp2_with (first | ((with_reducible refine gate_builtin (b := .append) (xs := #[.tmp 43, .tmp 48]) rfl ?_); at_builtin; refine Kd.R_append k42 (w0 := w) w.heap.size rfl (.tmp 43) (.tmp 48) 22 42 (.agg #[(.string ⟨#[]⟩), (.string ⟨#[]⟩)]) 32 rfl Tryz.underlying22 info42 rfl (by decide) (by omega) u5 x5_2 (⟨(rd_T42 l0 x7_2).f0, (rd_T42 l0 x7_2).f1⟩ : S42) [.string ((rd_T42 l0 x7_2).f0), .string ((rd_T42 l0 x7_2).f1)] (fun k_ => k_ ≠ gb287) (fun _ => False) rfl rfl ?aP (fun _ hk => hk.elim) ?aF ?aO ?aB ?aS ?aL ?_; (case aP => exact k42_mkM _ _ _ (⟨(rd_T42 l0 x7_2).f0, (rd_T42 l0 x7_2).f1⟩ : S42)); (case aB => exact (by repeat (first | (with_reducible first | exact HB.out | apply below_alloc | apply pw_below_drewN | apply below_drew1 | refine below_set ?_ GE287.out) | exact HB.out))); (case aF => exact (fun k_ hk => Kd.freshB (g := gb287) (o := .cells #[.string a1_0, .string a1_1] 42 (0, 0)) (by (with_reducible repeat (first | refine blk_drewN ?_ _ | refine blk_drew ?_ | refine blk_alloc ?_ _)); exact BK287.out) k_ hk)); (case aO => exact (by (with_reducible repeat (first | apply Kd.R_alloc | apply Kd.R_drewN | apply Kd.R_drew)); exact HO_5.out)); (case aS => exact (below_size (by repeat (first | (with_reducible first | exact HB.out | apply below_alloc | apply pw_below_drewN | apply below_drew1 | refine below_set ?_ GE287.out) | exact HB.out)))); (case aL => have := LMc21.out; omega); intro v301 w24 ho hb hg hat; rw [← Ny300.out] at ho; have n0_ := Aside0.mk (blk_grown (g := gb287) (o := .cells #[.string a1_0, .string a1_1] 42 (0, 0)) (by (with_reducible repeat (first | refine blk_drewN ?_ _ | refine blk_drew ?_ | refine blk_alloc ?_ _)); exact BK287.out) hg (Kd.R_away HO_5.out (fun _ hk => hk))); have n1_ := Aside0.mk (hb); have n2_ := Aside0.mk (ho); clear BK287; clear HB; clear HO_5; have BK287 := n0_; have HB := n1_; have HO302 := n2_; clear n0_ n1_ n2_; clear ho hb hg hat))
           go_roundg k2
           case measure => have := HK1.out; have := HK2.out; omega
           case rel => exact ⟨(y300), (wrap64 (x7_2 + 1)), (by first | rfl | (simp; done) | (simp [*]; done)), H', ⟨by have := HK1.out; have := HK2.out; omega⟩, ⟨by (with_reducible repeat (first | apply Kd.R_alloc | apply Kd.R_drewN | apply Kd.R_drew)); exact HO302.out⟩, ⟨by (with_reducible repeat (first | refine blk_drewN ?_ _ | refine blk_drew ?_ | refine blk_alloc ?_ _)); exact BK287.out⟩, ⟨by repeat (first | (with_reducible first | exact HB.out | apply below_alloc | apply pw_below_drewN | apply below_drew1 | refine below_set ?_ GE287.out) | exact HB.out)⟩⟩
          ·rw [if_neg c21] at H
           exact absurd H (by simp)
         ·replace c20 := Bool.eq_false_iff.mpr c20
          subst c20
          have H1 : (graftwoodref05_With.l1 k2 l0 x5_2 (wrap64 (x7_2 + 1)) a1_0 a1_1) = some r := by rw [if_neg (show ¬ (false = true) by decide)] at H; exact H
          clear H
          have H := H1
          clear H1
          have H' := Aside0.mk H
          clear H
          try go_wp2
          have n0_ := Aside0.mk (Kd.R_drew HO_5.out)
          have n1_ := Aside0.mk (blk_drew BK287.out)
          have n2_ := Aside0.mk (below_drew1 HB.out)
          clear HO_5 BK287 HB
          have HO_5 := n0_
          have BK287 := n1_
          have HB := n2_
          clear n0_ n1_ n2_
          have p297 : 0 ≤ (x7_2 : Int) := of_decide_eq_true (by first | (with_reducible assumption) | assumption)
          have q297 : x7_2 < (l0.length : Int) := of_decide_eq_true (by first | (with_reducible assumption) | assumption)
          obtain ⟨ad297, e297, hx297_0, hx297_1⟩ := at_T42 HR0.out x7_2 p297 q297
          have hw297_1 := hx297_1
          have hw297_0 := hx297_0
          cases e297
          replace hx297_0 := (HB.out.cell (World.block_lt_of_cell? w _ hx297_0)).trans hx297_0
          replace hx297_1 := (HB.out.cell (World.block_lt_of_cell? w _ hx297_1)).trans hx297_1
          replace p297 := eq_true p297
          replace q297 := eq_true q297
          refine start_ (n := 6) (S := fun w' => w'.cell? ⟨gb287, 0, none⟩ = some (.string a1_0) ∧ w'.cell? ⟨gb287, 1, none⟩ = some (.string a1_1) ∧ w'.cell? (ad297.add ((x7_2).toNat * 2)) = some (.string ((rd_T42 l0 x7_2).f0)) ∧ w'.cell? ⟨(ad297.add ((x7_2).toNat * 2)).block, (ad297.add ((x7_2).toNat * 2)).off + 1, none⟩ = some (.string ((rd_T42 l0 x7_2).f1))) (ds := []) #[false, false, false, false, false, false] (by kernel_rfl) rfl rfl ⟨(blk_cell BK287.out 0).trans rfl, (blk_cell BK287.out 1).trans rfl, ((HB.out.cell (World.block_lt_of_cell? w _ hw297_0)).trans hw297_0), ((HB.out.cell (World.block_lt_of_cell? w _ hw297_1)).trans hw297_1)⟩ (fun hHeld => ?_)
          generalize wr.drew = w25 at HO_5 BK287 HB hx297_0 hx297_1 hHeld ⊢
          refine pure_ (i := 1) (N := some 38) (v := ?_) (a' := ?_) #[false, true, false, false, false, false] rfl rfl (by kernel_rfl) (fun _ _ _ h => h) (Or.inl ⟨by rfl, ?_⟩) ?_ ?_
          rotate_left
          ·intro w'
           go_simp
           with_reducible rfl
          rotate_left
          ·simp only [Act.put, List.setIfInBounds_toArray, List.set_cons_zero, List.set_cons_succ, i64_w, i32_w]
           rfl
          refine pure_ (i := 2) (N := some 39) (v := ?_) (a' := ?_) #[false, true, true, false, false, false] rfl rfl (by kernel_rfl) (fun _ _ _ h => h) (Or.inl ⟨by rfl, ?_⟩) ?_ ?_
          rotate_left
          ·intro w'
           go_simp
           with_reducible rfl
          rotate_left
          ·simp only [Act.put, List.setIfInBounds_toArray, List.set_cons_zero, List.set_cons_succ, i64_w, i32_w]
           rfl
          refine pure_ (i := 3) (N := some 40) (v := ?_) (a' := ?_) #[false, true, true, true, false, false] rfl rfl (by kernel_rfl) (fun _ _ _ h => h) (Or.inl ⟨by rfl, ?_⟩) ?_ ?_
          rotate_left
          ·intro w'
           go_simp
           with_reducible rfl
          rotate_left
          ·simp only [Act.put, List.setIfInBounds_toArray, List.set_cons_zero, List.set_cons_succ, i64_w, i32_w]
           rfl
          refine take_ (i := 0) (N := some 37) (v := ?_) (a' := ?_) #[true, true, true, true, false, false] rfl rfl (by kernel_rfl) (fun _ _ _ h => h) (Or.inl ⟨by rfl, ?_⟩) hHeld ?_ ?_
          rotate_left
          ·rintro w' ⟨s0, s1, s2, s3⟩
           go_simp
           with_reducible rfl
          rotate_left
          ·simp only [Act.put, List.setIfInBounds_toArray, List.set_cons_zero, List.set_cons_succ, i64_w, i32_w]
           rfl
          refine take_ (i := 4) (N := some 41) (v := ?_) (a' := ?_) #[true, true, true, true, true, false] rfl rfl (by kernel_rfl) (fun _ _ _ h => h) (Or.inl ⟨by rfl, ?_⟩) hHeld ?_ ?_
          rotate_left
          ·rintro w' ⟨s0, s1, s2, s3⟩
           go_simp
           with_reducible rfl
          rotate_left
          ·simp only [Act.put, List.setIfInBounds_toArray, List.set_cons_zero, List.set_cons_succ, i64_w, i32_w]
           rfl
          refine one_ (i := 5) (N := some 42) #[true, true, true, true, true, true] rfl rfl (by kernel_rfl) (by decide) (fun K hK => ?_)
          refine goes_ Tryz.func28 (by kernel_rfl) rfl #[.agg #[.string a1_0, .string a1_1], .agg #[.string ((rd_T42 l0 x7_2).f0), .string ((rd_T42 l0 x7_2).f1)]] (by rfl) rfl rfl (by (try simp only [List.map_toArray, List.map_cons, List.map_nil]); first | done | rfl | (simp only [List.length_drop, List.length_take]; rfl)) ?_
          with_reducible refine (graftwoodref05_Less.calls k2 a1_0 a1_1 ((rd_T42 l0 x7_2).f0) ((rd_T42 l0 x7_2).f1) false _ A19.out).mono ?_
          rintro e w26 ⟨rfl, hb⟩
          refine ⟨_, rfl, ?_⟩
          have n0_ := Aside0.mk (Kd.R_below (by (with_reducible repeat (first | apply Kd.R_alloc | apply Kd.R_drewN | apply Kd.R_drew)); exact HO_5.out) hb)
          have n1_ := Aside0.mk (blk_below (g := gb287) (o := .cells #[.string a1_0, .string a1_1] 42 (0, 0)) (by (with_reducible repeat (first | refine blk_drewN ?_ _ | refine blk_drew ?_ | refine blk_alloc ?_ _)); exact BK287.out) hb)
          have n2_ := Aside0.mk (below_step (by repeat (first | (with_reducible first | exact HB.out | apply below_alloc | apply pw_below_drewN | apply below_drew1 | refine below_set ?_ GE287.out) | exact HB.out)) hb)
          clear HO_5 BK287 HB
          have HO_5 := n0_
          have BK287 := n1_
          have HB := n2_
          clear n0_ n1_ n2_
          (try clear hb)
          (try clear hb2)
          (try clear hk)
          (try clear hi)
          refine hK.out _ _ ⟨(blk_cell BK287.out 0).trans rfl, (blk_cell BK287.out 1).trans rfl, ((HB.out.cell (World.block_lt_of_cell? w _ hw297_0)).trans hw297_0), ((HB.out.cell (World.block_lt_of_cell? w _ hw297_1)).trans hw297_1)⟩ (fun hHeld => ?_)
          clear hK K
          refine nz_ 42 ?_
          refine done_ (by kernel_rfl) ?_
          try go_wp2
          go_roundg k2
          case measure => have := HK1.out; have := HK2.out; omega
          case rel => exact ⟨(x5_2), (wrap64 (x7_2 + 1)), (by first | rfl | (simp; done) | (simp [*]; done)), H', ⟨by have := HK1.out; have := HK2.out; omega⟩, ⟨by (with_reducible repeat (first | apply Kd.R_alloc | apply Kd.R_drewN | apply Kd.R_drew)); exact HO_5.out⟩, ⟨by (with_reducible repeat (first | refine blk_drewN ?_ _ | refine blk_drew ?_ | refine blk_alloc ?_ _)); exact BK287.out⟩, ⟨by repeat (first | (with_reducible first | exact HB.out | apply below_alloc | apply pw_below_drewN | apply below_drew1 | refine below_set ?_ GE287.out) | exact HB.out)⟩⟩
        ·rw [if_neg c18] at H
         exact absurd H (by simp)
       ·rw [if_neg c17] at H
        have c17b0 : decide (x7_2 < (l0.length : Int)) = false := decide_eq_false c17
        clear c17
        obtain rfl := Option.some.inj H
        go_wp2
        go_ret
        exact ⟨_, by first | rfl | (simp [errW_none, errW_some] <;> rfl) | (simp [*, errW_none, errW_some] <;> rfl), by (with_reducible repeat (first | apply Kd.R_alloc | apply Kd.R_drewN | apply Kd.R_drew)); exact Kd.R_mono HO_5.out (fun _ hk => trivial), by repeat (first | (with_reducible first | exact HB.out | apply below_alloc | apply pw_below_drewN | apply below_drew1 | refine below_set ?_ GE287.out) | exact HB.out)⟩
    ·rw [if_neg c14] at H
     exact absurd H (by simp)
/-! ### graftwoodref18_By: function 20 -/
def graftwoodref18_By.l0 : Nat → List (S51) → List (S42) → Bool → Int → ByteArray → ByteArray → Option ((List (S42)) × Bool)
 | 0, _, _, _, _, _, _ => none
 | k + 1, x0, x6, x7, x8, x304000, x304001 => if x8 < (x0.length : Int) then (if 0 ≤ x8 then (if (!((((rd_T51 x0 x8).f1.f0).toList) == x304000.toList) || (!((((rd_T51 x0 x8).f1.f1).toList) == x304001.toList))) = true then (graftwoodref18_By.l0 k x0 x6 x7 (wrap64 (x8 + 1)) x304000 x304001) else (if ((((rd_T51 x0 x8).f0.f0).toList) == ([] : List UInt8) && ((((rd_T51 x0 x8).f0.f1).toList) == ([] : List UInt8))) = true then (graftwoodref18_By.l0 k x0 x6 true (wrap64 (x8 + 1)) x304000 x304001) else ((graftwoodref05_With.f k x6 ((rd_T51 x0 x8).f0.f0) ((rd_T51 x0 x8).f0.f1)).bind fun t307 => (graftwoodref18_By.l0 k x0 t307 x7 (wrap64 (x8 + 1)) x304000 x304001)))) else (none)) else (some (x6, x7))
def graftwoodref18_By.f (k : Nat) (l0 : List (S51)) (a1_0 : ByteArray) (a1_1 : ByteArray) : Option ((List (S42)) × Bool) := graftwoodref18_By.l0 k l0 ([] : List (S42)) false 0 a1_0 a1_1
set_option maxHeartbeats 8000000 in
set_option maxRecDepth 100000 in
theorem graftwoodref18_By.calls (k : Nat) (A0 : Option Addr) (c0 : Nat) (l0 : List (S51)) (a1_0 : ByteArray) (a1_1 : ByteArray) (r1 : List (S42)) (r2 : Bool) (w : World) (hr0 : Kd.C k51 w A0 l0.length l0) (hc0 : l0.length ≤ c0) (h : graftwoodref18_By.f k l0 a1_0 a1_1 = some (r1, r2)) :
  Calls Tryz.prog 20 #[.slice A0 l0.length c0, .agg #[.string a1_0, .string a1_1]] w fun e w' => ∃ v0_ : Value, e = .returned (.tuple #[v0_, .bool r2]) ∧ Kd.R k42 42 w' w.heap.size (fun _ => True) v0_ r1 ∧ Below w.heap.size w w' := by
 have hu42 := Tryz.underlying42
 have HR0 := Aside0.mk hr0
 have HC0 := Aside0.mk hc0
 clear hr0 hc0
 have HB := Aside0.mk (Below.refl w.heap.size w)
 have H : (graftwoodref18_By.l0 k l0 ([] : List (S42)) false 0 a1_0 a1_1) = some (r1, r2) := h
 clear h
 have H' := Aside0.mk H
 clear H
 go_enter Tryz.func20, Tryz.ntmps20
 go_wp2_with (first | ((with_reducible refine gate_dst (N := 3) rfl ?_); refine box_event ?hg (N := 3) ?hd (cs := #[.string a1_0, .string a1_1]) (t := 42) ?hr ?_; (case hd => rfl); (case hg => rfl); (case hr => first | (go_simp; done) | (go_simp; rfl)); intro gb303 hg w3 hbox hb; have n0_ := Aside0.mk (below_step (by repeat (first | (with_reducible first | exact HB.out | apply below_alloc | apply pw_below_drewN | apply below_drew1) | exact HB.out)) hb); have n1_ := Aside0.mk (hbox); have n2_ := Aside0.mk ((by rw [hg]; exact (below_size (by repeat (first | (with_reducible first | exact HB.out | apply below_alloc | apply pw_below_drewN | apply below_drew1) | exact HB.out))) : w.heap.size ≤ gb303)); have n3_ := Aside0.mk ((by rw [hg]; exact (below_size (by repeat (first | (with_reducible first | exact HB.out | apply below_alloc | apply pw_below_drewN | apply below_drew1) | exact HB.out))) : w.heap.size ≤ gb303)); clear HB; have HB := n0_; have BK303 := n1_; have GW303 := n2_; have GE303 := n3_; clear n0_ n1_ n2_ n3_; clear hb hbox hg))
 repeat (go_quiet (first | ((with_reducible refine gate_dst (N := 3) rfl ?_); refine box_event ?hg (N := 3) ?hd (cs := #[.string a1_0, .string a1_1]) (t := 42) ?hr ?_; (case hd => rfl); (case hg => rfl); (case hr => first | (go_simp; done) | (go_simp; rfl)); intro gb303 hg w3 hbox hb; have n0_ := Aside0.mk (below_step (by repeat (first | (with_reducible first | exact HB.out | apply below_alloc | apply pw_below_drewN | apply below_drew1) | exact HB.out)) hb); have n1_ := Aside0.mk (hbox); have n2_ := Aside0.mk ((by rw [hg]; exact (below_size (by repeat (first | (with_reducible first | exact HB.out | apply below_alloc | apply pw_below_drewN | apply below_drew1) | exact HB.out))) : w.heap.size ≤ gb303)); have n3_ := Aside0.mk ((by rw [hg]; exact (below_size (by repeat (first | (with_reducible first | exact HB.out | apply below_alloc | apply pw_below_drewN | apply below_drew1) | exact HB.out))) : w.heap.size ≤ gb303)); clear HB; have HB := n0_; have BK303 := n1_; have GW303 := n2_; have GE303 := n3_; clear n0_ n1_ n2_ n3_; clear hb hbox hg)); try go_wp2_with (first | ((with_reducible refine gate_dst (N := 3) rfl ?_); refine box_event ?hg (N := 3) ?hd (cs := #[.string a1_0, .string a1_1]) (t := 42) ?hr ?_; (case hd => rfl); (case hg => rfl); (case hr => first | (go_simp; done) | (go_simp; rfl)); intro gb303 hg w3 hbox hb; have n0_ := Aside0.mk (below_step (by repeat (first | (with_reducible first | exact HB.out | apply below_alloc | apply pw_below_drewN | apply below_drew1) | exact HB.out)) hb); have n1_ := Aside0.mk (hbox); have n2_ := Aside0.mk ((by rw [hg]; exact (below_size (by repeat (first | (with_reducible first | exact HB.out | apply below_alloc | apply pw_below_drewN | apply below_drew1) | exact HB.out))) : w.heap.size ≤ gb303)); have n3_ := Aside0.mk ((by rw [hg]; exact (below_size (by repeat (first | (with_reducible first | exact HB.out | apply below_alloc | apply pw_below_drewN | apply below_drew1) | exact HB.out))) : w.heap.size ≤ gb303)); clear HB; have HB := n0_; have BK303 := n1_; have GW303 := n2_; have GE303 := n3_; clear n0_ n1_ n2_ n3_; clear hb hbox hg)))
 go_loopg [6, 7, 8] k (fun kq v6 v7 v8 w' => ∃ (x6_1 : List (S42)) (x7_1 : Bool) (x8_1 : Int), v7 = .bool x7_1 ∧ v8 = .int .i64 x8_1 ∧ Aside0 (graftwoodref18_By.l0 kq l0 x6_1 x7_1 x8_1 a1_0 a1_1 = some (r1, r2)) ∧ Aside0 (kq ≤ k) ∧ Aside0 (Kd.R k42 42 w' w.heap.size (fun k_ => k_ ≠ gb303) v6 x6_1) ∧ Aside0 (w'.heap[gb303]? = some (.cells #[.string a1_0, .string a1_1] 42 (0, 0))) ∧ Aside0 (Below w.heap.size w w'))
 case atStart => exact ⟨(([] : List (S42))), (false), (0), (by first | rfl | (simp; done) | (simp [*]; done)), (by first | rfl | (simp; done) | (simp [*]; done)), H', ⟨Nat.le_refl _⟩, ⟨by first | exact Kd.R_nil _ _ _ _ _ | exact Kd.N_nil _ _ _ _ _ | exact Kd.V_nil _ _ _ _ _ | exact Kd.Q_nil _ _ _ _ _ | exact Kd.S_nil _ _ _ _ _⟩, ⟨by (with_reducible repeat (first | refine blk_drewN ?_ _ | refine blk_drew ?_ | refine blk_alloc ?_ _)); exact BK303.out⟩, ⟨by repeat (first | (with_reducible first | exact HB.out | apply below_alloc | apply pw_below_drewN | apply below_drew1 | refine below_set ?_ GE303.out) | exact HB.out)⟩⟩
 case round =>
  clear H'
  try clear c2
  try clear p2
  obtain ⟨x6_1, x7_1, x8_1, rfl, rfl, HA, HK1, HO_6, BK303, HB⟩ := hrel
  cases gk with
  | zero => exact absurd HA.out (by simp [graftwoodref18_By.l0])
  | succ k1 =>
   have H := HA.out
   clear HA
   simp only [graftwoodref18_By.l0] at H
   by_cases c4 : x8_1 < (l0.length : Int)
   ·rw [if_pos c4] at H
    have c4b0 : decide (x8_1 < (l0.length : Int)) = true := decide_eq_true c4
    clear c4
    by_cases c5 : 0 ≤ x8_1
    ·rw [if_pos c5] at H
     have c5b0 : decide (0 ≤ x8_1) = true := decide_eq_true c5
     clear c5
     by_cases c6 : (!((((rd_T51 l0 x8_1).f1.f0).toList) == a1_0.toList) || (!((((rd_T51 l0 x8_1).f1.f1).toList) == a1_1.toList))) = true
     ·rw [if_pos c6] at H
      have c6b0 : (!((((rd_T51 l0 x8_1).f1.f0).toList) == a1_0.toList) || (!((((rd_T51 l0 x8_1).f1.f1).toList) == a1_1.toList))) = true := c6
      clear c6
      have H' := Aside0.mk H
      clear H
      have p304 : 0 ≤ (x8_1 : Int) := of_decide_eq_true (by first | (with_reducible assumption) | assumption)
      have q304 : x8_1 < (l0.length : Int) := of_decide_eq_true (by first | (with_reducible assumption) | assumption)
      obtain ⟨ad304, e304, hx304_0, hx304_1, hx304_2, hx304_3⟩ := at_T51 HR0.out x8_1 p304 q304
      cases e304
      replace hx304_0 := (HB.out.cell (World.block_lt_of_cell? w _ hx304_0)).trans hx304_0
      replace hx304_1 := (HB.out.cell (World.block_lt_of_cell? w _ hx304_1)).trans hx304_1
      replace hx304_2 := (HB.out.cell (World.block_lt_of_cell? w _ hx304_2)).trans hx304_2
      replace hx304_3 := (HB.out.cell (World.block_lt_of_cell? w _ hx304_3)).trans hx304_3
      replace p304 := eq_true p304
      replace q304 := eq_true q304
      have hcz7_0 : wr.cell? ⟨gb303, 0, none⟩ = some (.string a1_0) := (blk_cell BK303.out 0).trans rfl
      have hcz7_1 : wr.cell? ⟨gb303, 1, none⟩ = some (.string a1_1) := (blk_cell BK303.out 1).trans rfl
      have hfz7_0 := blk_frozen BK303.out 0
      have hfz7_1 := blk_frozen BK303.out 1
      go_wp2
      repeat (go_quiet (fail); try go_wp2)
      go_roundg k1
      case measure => have := HK1.out; omega
      case rel => exact ⟨(x6_1), (x7_1), (wrap64 (x8_1 + 1)), (by first | rfl | (simp; done) | (simp [*]; done)), (by first | rfl | (simp; done) | (simp [*]; done)), H', ⟨by have := HK1.out; omega⟩, ⟨by (with_reducible repeat (first | apply Kd.R_alloc | apply Kd.R_drewN | apply Kd.R_drew)); exact HO_6.out⟩, ⟨by (with_reducible repeat (first | refine blk_drewN ?_ _ | refine blk_drew ?_ | refine blk_alloc ?_ _)); exact BK303.out⟩, ⟨by repeat (first | (with_reducible first | exact HB.out | apply below_alloc | apply pw_below_drewN | apply below_drew1 | refine below_set ?_ GE303.out) | exact HB.out)⟩⟩
     ·rw [if_neg c6] at H
      have c6b0 : (!((((rd_T51 l0 x8_1).f1.f0).toList) == a1_0.toList) || (!((((rd_T51 l0 x8_1).f1.f1).toList) == a1_1.toList))) = false := by simpa using c6
      clear c6
      by_cases c8 : ((((rd_T51 l0 x8_1).f0.f0).toList) == ([] : List UInt8) && ((((rd_T51 l0 x8_1).f0.f1).toList) == ([] : List UInt8))) = true
      ·rw [if_pos c8] at H
       have c8b0 : ((((rd_T51 l0 x8_1).f0.f0).toList) == ([] : List UInt8) && ((((rd_T51 l0 x8_1).f0.f1).toList) == ([] : List UInt8))) = true := c8
       have c8b9e : ((((rd_T51 l0 x8_1).f0.f0).toList).isEmpty && ((((rd_T51 l0 x8_1).f0.f1).toList).isEmpty)) = true := by simpa using c8b0
       (try (have c8b1 : decide ((((rd_T51 l0 x8_1).f0.f0).toList) = ([] : List UInt8) && ((((rd_T51 l0 x8_1).f0.f1).toList) == ([] : List UInt8))) = true := by simpa using c8))
       (try (have c8b2 : ((((rd_T51 l0 x8_1).f0.f0).toList) == ([] : List UInt8) && ((((rd_T51 l0 x8_1).f0.f1).toList) == ([] : List UInt8))) = true := by simpa using c8))
       clear c8
       have H' := Aside0.mk H
       clear H
       have p304 : 0 ≤ (x8_1 : Int) := of_decide_eq_true (by first | (with_reducible assumption) | assumption)
       have q304 : x8_1 < (l0.length : Int) := of_decide_eq_true (by first | (with_reducible assumption) | assumption)
       obtain ⟨ad304, e304, hx304_0, hx304_1, hx304_2, hx304_3⟩ := at_T51 HR0.out x8_1 p304 q304
       cases e304
       replace hx304_0 := (HB.out.cell (World.block_lt_of_cell? w _ hx304_0)).trans hx304_0
       replace hx304_1 := (HB.out.cell (World.block_lt_of_cell? w _ hx304_1)).trans hx304_1
       replace hx304_2 := (HB.out.cell (World.block_lt_of_cell? w _ hx304_2)).trans hx304_2
       replace hx304_3 := (HB.out.cell (World.block_lt_of_cell? w _ hx304_3)).trans hx304_3
       replace p304 := eq_true p304
       replace q304 := eq_true q304
       have hcz9_0 : wr.cell? ⟨gb303, 0, none⟩ = some (.string a1_0) := (blk_cell BK303.out 0).trans rfl
       have hcz9_1 : wr.cell? ⟨gb303, 1, none⟩ = some (.string a1_1) := (blk_cell BK303.out 1).trans rfl
       have hfz9_0 := blk_frozen BK303.out 0
       have hfz9_1 := blk_frozen BK303.out 1
       have p305 : 0 ≤ (x8_1 : Int) := of_decide_eq_true (by first | (with_reducible assumption) | assumption)
       have q305 : x8_1 < (l0.length : Int) := of_decide_eq_true (by first | (with_reducible assumption) | assumption)
       obtain ⟨ad305, e305, hx305_0, hx305_1, hx305_2, hx305_3⟩ := at_T51 HR0.out x8_1 p305 q305
       obtain rfl : ad304 = ad305 := (by injection e305)
       replace hx305_0 := (HB.out.cell (World.block_lt_of_cell? w _ hx305_0)).trans hx305_0
       replace hx305_1 := (HB.out.cell (World.block_lt_of_cell? w _ hx305_1)).trans hx305_1
       replace hx305_2 := (HB.out.cell (World.block_lt_of_cell? w _ hx305_2)).trans hx305_2
       replace hx305_3 := (HB.out.cell (World.block_lt_of_cell? w _ hx305_3)).trans hx305_3
       replace p305 := eq_true p305
       replace q305 := eq_true q305
       go_wp2
       repeat (go_quiet (fail); try go_wp2)
       go_roundg k1
       case measure => have := HK1.out; omega
       case rel => exact ⟨(x6_1), (true), (wrap64 (x8_1 + 1)), (by first | rfl | (simp; done) | (simp [*]; done)), (by first | rfl | (simp; done) | (simp [*]; done)), H', ⟨by have := HK1.out; omega⟩, ⟨by (with_reducible repeat (first | apply Kd.R_alloc | apply Kd.R_drewN | apply Kd.R_drew)); exact HO_6.out⟩, ⟨by (with_reducible repeat (first | refine blk_drewN ?_ _ | refine blk_drew ?_ | refine blk_alloc ?_ _)); exact BK303.out⟩, ⟨by repeat (first | (with_reducible first | exact HB.out | apply below_alloc | apply pw_below_drewN | apply below_drew1 | refine below_set ?_ GE303.out) | exact HB.out)⟩⟩
      ·rw [if_neg c8] at H
       have c8b0 : ((((rd_T51 l0 x8_1).f0.f0).toList) == ([] : List UInt8) && ((((rd_T51 l0 x8_1).f0.f1).toList) == ([] : List UInt8))) = false := by simpa using c8
       have c8b9e : ((((rd_T51 l0 x8_1).f0.f0).toList).isEmpty && ((((rd_T51 l0 x8_1).f0.f1).toList).isEmpty)) = false := by simpa using c8b0
       (try (have c8b1 : decide ((((rd_T51 l0 x8_1).f0.f0).toList) = ([] : List UInt8) && ((((rd_T51 l0 x8_1).f0.f1).toList) == ([] : List UInt8))) = false := by simpa using c8))
       (try (have c8b2 : ((((rd_T51 l0 x8_1).f0.f0).toList) == ([] : List UInt8) && ((((rd_T51 l0 x8_1).f0.f1).toList) == ([] : List UInt8))) = false := by simpa using c8))
       (try (have c8b3 : ¬ ((((rd_T51 l0 x8_1).f0.f0).toList) = ([] : List UInt8) && ((((rd_T51 l0 x8_1).f0.f1).toList) == ([] : List UInt8))) := by simpa using c8))
       clear c8
       replace H := Option.bind_eq_some_iff.mp H
       obtain ⟨t307, A100, H⟩ := H
       replace H : (graftwoodref18_By.l0 k1 l0 t307 x7_1 (wrap64 (x8_1 + 1)) a1_0 a1_1) = some (r1, r2) := H
       have A10 := Aside0.mk A100
       clear A100
       have H' := Aside0.mk H
       clear H
       have p304 : 0 ≤ (x8_1 : Int) := of_decide_eq_true (by first | (with_reducible assumption) | assumption)
       have q304 : x8_1 < (l0.length : Int) := of_decide_eq_true (by first | (with_reducible assumption) | assumption)
       obtain ⟨ad304, e304, hx304_0, hx304_1, hx304_2, hx304_3⟩ := at_T51 HR0.out x8_1 p304 q304
       cases e304
       replace hx304_0 := (HB.out.cell (World.block_lt_of_cell? w _ hx304_0)).trans hx304_0
       replace hx304_1 := (HB.out.cell (World.block_lt_of_cell? w _ hx304_1)).trans hx304_1
       replace hx304_2 := (HB.out.cell (World.block_lt_of_cell? w _ hx304_2)).trans hx304_2
       replace hx304_3 := (HB.out.cell (World.block_lt_of_cell? w _ hx304_3)).trans hx304_3
       replace p304 := eq_true p304
       replace q304 := eq_true q304
       have hcz11_0 : wr.cell? ⟨gb303, 0, none⟩ = some (.string a1_0) := (blk_cell BK303.out 0).trans rfl
       have hcz11_1 : wr.cell? ⟨gb303, 1, none⟩ = some (.string a1_1) := (blk_cell BK303.out 1).trans rfl
       have hfz11_0 := blk_frozen BK303.out 0
       have hfz11_1 := blk_frozen BK303.out 1
       have p305 : 0 ≤ (x8_1 : Int) := of_decide_eq_true (by first | (with_reducible assumption) | assumption)
       have q305 : x8_1 < (l0.length : Int) := of_decide_eq_true (by first | (with_reducible assumption) | assumption)
       obtain ⟨ad305, e305, hx305_0, hx305_1, hx305_2, hx305_3⟩ := at_T51 HR0.out x8_1 p305 q305
       obtain rfl : ad304 = ad305 := (by injection e305)
       replace hx305_0 := (HB.out.cell (World.block_lt_of_cell? w _ hx305_0)).trans hx305_0
       replace hx305_1 := (HB.out.cell (World.block_lt_of_cell? w _ hx305_1)).trans hx305_1
       replace hx305_2 := (HB.out.cell (World.block_lt_of_cell? w _ hx305_2)).trans hx305_2
       replace hx305_3 := (HB.out.cell (World.block_lt_of_cell? w _ hx305_3)).trans hx305_3
       replace p305 := eq_true p305
       replace q305 := eq_true q305
       have p306 : 0 ≤ (x8_1 : Int) := of_decide_eq_true (by first | (with_reducible assumption) | assumption)
       have q306 : x8_1 < (l0.length : Int) := of_decide_eq_true (by first | (with_reducible assumption) | assumption)
       obtain ⟨ad306, e306, hx306_0, hx306_1, hx306_2, hx306_3⟩ := at_T51 HR0.out x8_1 p306 q306
       obtain rfl : ad304 = ad306 := (by injection e306)
       replace hx306_0 := (HB.out.cell (World.block_lt_of_cell? w _ hx306_0)).trans hx306_0
       replace hx306_1 := (HB.out.cell (World.block_lt_of_cell? w _ hx306_1)).trans hx306_1
       replace hx306_2 := (HB.out.cell (World.block_lt_of_cell? w _ hx306_2)).trans hx306_2
       replace hx306_3 := (HB.out.cell (World.block_lt_of_cell? w _ hx306_3)).trans hx306_3
       replace p306 := eq_true p306
       replace q306 := eq_true q306
       obtain ⟨Ao12, co12, eo12⟩ := Kd.R_slice HO_6.out
       subst eo12
       go_wp2_with (first | (go_at_call 34; (with_reducible refine (graftwoodref05_With.calls k1 _ _ x6_1 ((rd_T51 l0 x8_1).f0.f0) ((rd_T51 l0 x8_1).f0.f1) t307 _ ?side1 ?side2 A10.out).mono ?_); (case side1 => repeat (first | exact (Kd.R_reads' HO_6.out).2.2 | (with_reducible refine Kd.C_alloc ?_ _) | (with_reducible refine Kd.C_drewN ?_ _) | (with_reducible refine Kd.C_drew ?_))); (case side2 => exact (Kd.R_reads' HO_6.out).2.1); rintro e w13 ⟨v308, rfl, ho0, hb⟩; have n0_ := Aside0.mk (Kd.R_elder' (by (with_reducible repeat (first | apply Kd.R_alloc | apply Kd.R_drewN | apply Kd.R_drew)); exact HO_6.out) (Kd.R_base ho0) hb); have n1_ := Aside0.mk (Kd.R_lower (Kd.R_newB (Kd.R_new' ho0 (Kd.R_lt (by (with_reducible repeat (first | apply Kd.R_alloc | apply Kd.R_drewN | apply Kd.R_drew)); exact HO_6.out))) (g := gb303) (o := .cells #[.string a1_0, .string a1_1] 42 (0, 0)) (by (with_reducible repeat (first | refine blk_drewN ?_ _ | refine blk_drew ?_ | refine blk_alloc ?_ _)); exact BK303.out)) (below_size (by repeat (first | (with_reducible first | exact HB.out | apply below_alloc | apply pw_below_drewN | apply below_drew1 | refine below_set ?_ GE303.out) | exact HB.out)))); have n2_ := Aside0.mk (blk_below (g := gb303) (o := .cells #[.string a1_0, .string a1_1] 42 (0, 0)) (by (with_reducible repeat (first | refine blk_drewN ?_ _ | refine blk_drew ?_ | refine blk_alloc ?_ _)); exact BK303.out) hb); have n3_ := Aside0.mk (below_step (by repeat (first | (with_reducible first | exact HB.out | apply below_alloc | apply pw_below_drewN | apply below_drew1 | refine below_set ?_ GE303.out) | exact HB.out)) hb); clear HO_6; clear BK303; clear HB; have HO_6 := n0_; have HO309 := n1_; have BK303 := n2_; have HB := n3_; clear n0_ n1_ n2_ n3_; (try clear hb); (try clear hb2); (try clear hk); (try clear hi); (try clear ho0)))
       repeat (go_quiet (first | (go_at_call 34; (with_reducible refine (graftwoodref05_With.calls k1 _ _ x6_1 ((rd_T51 l0 x8_1).f0.f0) ((rd_T51 l0 x8_1).f0.f1) t307 _ ?side1 ?side2 A10.out).mono ?_); (case side1 => repeat (first | exact (Kd.R_reads' HO_6.out).2.2 | (with_reducible refine Kd.C_alloc ?_ _) | (with_reducible refine Kd.C_drewN ?_ _) | (with_reducible refine Kd.C_drew ?_))); (case side2 => exact (Kd.R_reads' HO_6.out).2.1); rintro e w13 ⟨v308, rfl, ho0, hb⟩; have n0_ := Aside0.mk (Kd.R_elder' (by (with_reducible repeat (first | apply Kd.R_alloc | apply Kd.R_drewN | apply Kd.R_drew)); exact HO_6.out) (Kd.R_base ho0) hb); have n1_ := Aside0.mk (Kd.R_lower (Kd.R_newB (Kd.R_new' ho0 (Kd.R_lt (by (with_reducible repeat (first | apply Kd.R_alloc | apply Kd.R_drewN | apply Kd.R_drew)); exact HO_6.out))) (g := gb303) (o := .cells #[.string a1_0, .string a1_1] 42 (0, 0)) (by (with_reducible repeat (first | refine blk_drewN ?_ _ | refine blk_drew ?_ | refine blk_alloc ?_ _)); exact BK303.out)) (below_size (by repeat (first | (with_reducible first | exact HB.out | apply below_alloc | apply pw_below_drewN | apply below_drew1 | refine below_set ?_ GE303.out) | exact HB.out)))); have n2_ := Aside0.mk (blk_below (g := gb303) (o := .cells #[.string a1_0, .string a1_1] 42 (0, 0)) (by (with_reducible repeat (first | refine blk_drewN ?_ _ | refine blk_drew ?_ | refine blk_alloc ?_ _)); exact BK303.out) hb); have n3_ := Aside0.mk (below_step (by repeat (first | (with_reducible first | exact HB.out | apply below_alloc | apply pw_below_drewN | apply below_drew1 | refine below_set ?_ GE303.out) | exact HB.out)) hb); clear HO_6; clear BK303; clear HB; have HO_6 := n0_; have HO309 := n1_; have BK303 := n2_; have HB := n3_; clear n0_ n1_ n2_ n3_; (try clear hb); (try clear hb2); (try clear hk); (try clear hi); (try clear ho0))); try go_wp2_with (first | (go_at_call 34; (with_reducible refine (graftwoodref05_With.calls k1 _ _ x6_1 ((rd_T51 l0 x8_1).f0.f0) ((rd_T51 l0 x8_1).f0.f1) t307 _ ?side1 ?side2 A10.out).mono ?_); (case side1 => repeat (first | exact (Kd.R_reads' HO_6.out).2.2 | (with_reducible refine Kd.C_alloc ?_ _) | (with_reducible refine Kd.C_drewN ?_ _) | (with_reducible refine Kd.C_drew ?_))); (case side2 => exact (Kd.R_reads' HO_6.out).2.1); rintro e w13 ⟨v308, rfl, ho0, hb⟩; have n0_ := Aside0.mk (Kd.R_elder' (by (with_reducible repeat (first | apply Kd.R_alloc | apply Kd.R_drewN | apply Kd.R_drew)); exact HO_6.out) (Kd.R_base ho0) hb); have n1_ := Aside0.mk (Kd.R_lower (Kd.R_newB (Kd.R_new' ho0 (Kd.R_lt (by (with_reducible repeat (first | apply Kd.R_alloc | apply Kd.R_drewN | apply Kd.R_drew)); exact HO_6.out))) (g := gb303) (o := .cells #[.string a1_0, .string a1_1] 42 (0, 0)) (by (with_reducible repeat (first | refine blk_drewN ?_ _ | refine blk_drew ?_ | refine blk_alloc ?_ _)); exact BK303.out)) (below_size (by repeat (first | (with_reducible first | exact HB.out | apply below_alloc | apply pw_below_drewN | apply below_drew1 | refine below_set ?_ GE303.out) | exact HB.out)))); have n2_ := Aside0.mk (blk_below (g := gb303) (o := .cells #[.string a1_0, .string a1_1] 42 (0, 0)) (by (with_reducible repeat (first | refine blk_drewN ?_ _ | refine blk_drew ?_ | refine blk_alloc ?_ _)); exact BK303.out) hb); have n3_ := Aside0.mk (below_step (by repeat (first | (with_reducible first | exact HB.out | apply below_alloc | apply pw_below_drewN | apply below_drew1 | refine below_set ?_ GE303.out) | exact HB.out)) hb); clear HO_6; clear BK303; clear HB; have HO_6 := n0_; have HO309 := n1_; have BK303 := n2_; have HB := n3_; clear n0_ n1_ n2_ n3_; (try clear hb); (try clear hb2); (try clear hk); (try clear hi); (try clear ho0))))
       go_roundg k1
       case measure => have := HK1.out; omega
       case rel => exact ⟨(t307), (x7_1), (wrap64 (x8_1 + 1)), (by first | rfl | (simp; done) | (simp [*]; done)), (by first | rfl | (simp; done) | (simp [*]; done)), H', ⟨by have := HK1.out; omega⟩, ⟨by (with_reducible repeat (first | apply Kd.R_alloc | apply Kd.R_drewN | apply Kd.R_drew)); exact Kd.R_mono HO309.out (fun _ hk => hk.2)⟩, ⟨by (with_reducible repeat (first | refine blk_drewN ?_ _ | refine blk_drew ?_ | refine blk_alloc ?_ _)); exact BK303.out⟩, ⟨by repeat (first | (with_reducible first | exact HB.out | apply below_alloc | apply pw_below_drewN | apply below_drew1 | refine below_set ?_ GE303.out) | exact HB.out)⟩⟩
    ·rw [if_neg c5] at H
     exact absurd H (by simp)
   ·rw [if_neg c4] at H
    have c4b0 : decide (x8_1 < (l0.length : Int)) = false := decide_eq_false c4
    clear c4
    simp only [Option.some.injEq, Prod.mk.injEq] at H
    obtain ⟨rfl, rfl⟩ := H
    go_wp2
    repeat (go_quiet (fail); try go_wp2)
    go_ret2
    exact ⟨_, by first | rfl | (simp [errW_none, errW_some] <;> rfl) | (simp [*, errW_none, errW_some] <;> rfl), by (with_reducible repeat (first | apply Kd.R_alloc | apply Kd.R_drewN | apply Kd.R_drew)); exact Kd.R_mono HO_6.out (fun _ hk => trivial), by repeat (first | (with_reducible first | exact HB.out | apply below_alloc | apply pw_below_drewN | apply below_drew1 | refine below_set ?_ GE303.out) | exact HB.out)⟩
end Go.Proofs.YtffcbfclpfchnaaGreatDoor.Q
end
