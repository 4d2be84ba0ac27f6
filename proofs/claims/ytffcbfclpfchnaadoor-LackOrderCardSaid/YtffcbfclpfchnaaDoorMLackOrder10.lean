/- Part 10 of this claim: several texts one behind the other: Fgraftwoodlaw18LackOrder. What each shows stands in its theorems; conditions: sizes of texts and lists, as the functions' definitions say. -/
import Derived.Test.YtffcbfclpfchnaaDoorMLackOrder0
import Derived.Test.YtffcbfclpfchnaaDoorMLackOrder1
import Derived.Test.YtffcbfclpfchnaaDoorMLackOrder8
import Derived.Test.YtffcbfclpfchnaaDoorMLackOrder2
import Derived.Test.YtffcbfclpfchnaaDoorMLackOrder7
import Derived.Test.YtffcbfclpfchnaaDoorMLackOrder3
section
namespace Go.Proofs.YtffcbfclpfchnaaDoor.Q
open Go.RowKit Go.Proofs.YtffcbfclpfchnaaDoorW.PrintWords Go.Proofs.YtffcbfclpfchnaaDoorW.PrintLast Go.Proofs.YtffcbfclpfchnaaDoorW.PrintMore
attribute [local go_sem] max2_int min2_int max_two min_two max_three min_three max_four min_four   -- for this text's walks alone
set_option linter.unusedVariables false
set_option linter.unusedSimpArgs false
/-! ### graftwoodlaw18_LackOrder: function 3 -/
mutual
def graftwoodlaw18_LackOrder.l0 : Nat → List (S31) → List (S31) → List (S33) → List (S37) → Int → List (S33) → Int → Option (Bool)
  | 0, _, _, _, _, _, _, _ => none
  | k + 1, x0, x1, x2, x7, x8, x9, x10 => if x10 ≥ 0 then (if 0 ≤ x10 then (if x10 < (x2.length : Int) then ((some (([(⟨(⟨(rd_T33 x2 x10).f0.f0, (rd_T33 x2 x10).f0.f1⟩ : S31), (⟨(rd_T33 x2 x10).f1.f0, (rd_T33 x2 x10).f1.f1⟩ : S31)⟩ : S33), (⟨(⟨(rd_T33 x2 x10).f0.f0, (rd_T33 x2 x10).f0.f1⟩ : S31), (⟨(rd_T33 x2 x10).f1.f0, (rd_T33 x2 x10).f1.f1⟩ : S31)⟩ : S33)] : List (S33)) : List (S33))).bind fun y252 => (if x9.length + y252.length < 2199023255552 then (graftwoodlaw18_LackOrder.l0 k x0 x1 x2 x7 x8 (x9 ++ y252) (wrap64 (x10 - 1))) else (none))) else (none)) else (none)) else ((lack_Of.f x0 x1 x9).bind fun bt258 => (if x8 = bt258.2 then (if x8 = 0 then ((graftwoodref18_Same.f k x7 bt258.1).bind fun t263 => (if t263 = true then (graftwoodlaw18_LackOrder.j1 k x0 x1 x2 x7 bt258.1 ((x7.length : Int) == 0)) else (graftwoodlaw18_LackOrder.j1 k x0 x1 x2 x7 bt258.1 true))) else (if (x7.length : Int) = 0 then (if (bt258.1.length : Int) = 0 then ((graftwoodlaw18_awake.f).bind fun t262 => (some t262)) else (some false)) else (some false))) else (some false)))
def graftwoodlaw18_LackOrder.j1 : Nat → List (S31) → List (S31) → List (S33) → List (S37) → List (S37) → Bool → Option (Bool)
  | 0, _, _, _, _, _, _ => none
  | k + 1, x0, x1, x2, x7, x11, x77 => if x77 = true then ((graftwoodref18_Same.f k x7 x11).bind fun t264 => (if t264 = true then ((graftwoodlaw18_awake.f).bind fun t265 => (some t265)) else (some false))) else ((graftwoodlaw18_Few.f k x2).bind fun t266 => (if 0 < (x7.length : Int) then ((some (([(⟨(⟨(⟨#[]⟩ : ByteArray), (⟨#[]⟩ : ByteArray)⟩ : S31), (⟨(rd_T37 x7 0).f0.f0, (rd_T37 x7 0).f0.f1⟩ : S31)⟩ : S33)] : List (S33)) : List (S33))).bind fun y270 => (if t266.length + y270.length < 2199023255552 then ((lack_Of.f x0 x1 (t266 ++ y270)).bind fun bt276 => (if bt276.2 = 0 then (if (bt276.1.length : Int) = (x7.length : Int) then (if 0 < (bt276.1.length : Int) then (if (rd_T37 bt276.1 0).f2 = true then ((graftwoodref05_Same.f k ((rd_T37 bt276.1 0).f1) ((rd_T37 x7 0).f1)).bind fun t283 => (if t283 = true then (if 1 ≤ (bt276.1.length : Int) then (if 1 ≤ (x7.length : Int) then ((graftwoodref18_Same.f k (bt276.1.drop 1) (x7.drop 1)).bind fun t292 => (if t292 = true then ((graftwoodlaw18_awake.f).bind fun t293 => (some t293)) else (some false))) else (none)) else (none)) else (some false))) else (some false)) else (none)) else (some false)) else (some false))) else (none))) else (none)))
end
def graftwoodlaw18_LackOrder.f (k : Nat) (l0 : List (S31)) (l1 : List (S31)) (l2 : List (S33)) : Option (Bool) := (graftwoodlaw05_Few.f k l0).bind fun t237 => ((graftwoodlaw05_Few.f k l1).bind fun t240 => ((graftwoodlaw18_Few.f k l2).bind fun t243 => ((lack_Of.f t237 t240 t243).bind fun bt246 => (graftwoodlaw18_LackOrder.l0 k t237 t240 t243 bt246.1 bt246.2 ([] : List (S33)) (wrap64 ((t243.length : Int) - 1))))))
theorem graftwoodlaw18_LackOrder.mono_l : ∀ k, (∀ y0 y1 y2 y3 y4 y5 y6, LeO (graftwoodlaw18_LackOrder.l0 k y0 y1 y2 y3 y4 y5 y6) (graftwoodlaw18_LackOrder.l0 (k + 1) y0 y1 y2 y3 y4 y5 y6)) ∧ (∀ y0 y1 y2 y3 y4 y5, LeO (graftwoodlaw18_LackOrder.j1 k y0 y1 y2 y3 y4 y5) (graftwoodlaw18_LackOrder.j1 (k + 1) y0 y1 y2 y3 y4 y5))
  | 0 => ⟨fun _ _ _ _ _ _ _ r h => by simp [graftwoodlaw18_LackOrder.l0] at h, fun _ _ _ _ _ _ r h => by simp [graftwoodlaw18_LackOrder.j1] at h⟩
  | k + 1 => by
    obtain ⟨ih0, ih1⟩ := graftwoodlaw18_LackOrder.mono_l k
    refine ⟨?_, ?_⟩
    · intro y0 y1 y2 y3 y4 y5 y6
      unfold graftwoodlaw18_LackOrder.l0
      repeat' first
      | (with_reducible exact ih0 _ _ _ _ _ _ _)
      | (with_reducible exact ih1 _ _ _ _ _ _)
      | (with_reducible exact graftwoodlaw05_Few.mono _ _)
      | (with_reducible exact graftwoodlaw18_Few.mono _ _)
      | (with_reducible exact graftwoodref05_Same.mono _ _ _)
      | (with_reducible exact graftwoodref18_Same.mono _ _ _)
      | (with_reducible exact LeO.refl _)
      | (with_reducible exact LeO.none _)
      | (with_reducible refine LeO.ite ?_ ?_)
      | (with_reducible refine LeO.bind ?_ (fun _ => ?_))
      | exact ih0 _ _ _ _ _ _ _
      | exact ih1 _ _ _ _ _ _
      | exact graftwoodlaw05_Few.mono _ _
      | exact graftwoodlaw18_Few.mono _ _
      | exact graftwoodref05_Same.mono _ _ _
      | exact graftwoodref18_Same.mono _ _ _
      | exact LeO.none _
      | refine LeO.ite ?_ ?_
      | refine LeO.bind ?_ (fun _ => ?_)
    · intro y0 y1 y2 y3 y4 y5
      unfold graftwoodlaw18_LackOrder.j1
      repeat' first
      | (with_reducible exact ih0 _ _ _ _ _ _ _)
      | (with_reducible exact ih1 _ _ _ _ _ _)
      | (with_reducible exact graftwoodlaw05_Few.mono _ _)
      | (with_reducible exact graftwoodlaw18_Few.mono _ _)
      | (with_reducible exact graftwoodref05_Same.mono _ _ _)
      | (with_reducible exact graftwoodref18_Same.mono _ _ _)
      | (with_reducible exact LeO.refl _)
      | (with_reducible exact LeO.none _)
      | (with_reducible refine LeO.ite ?_ ?_)
      | (with_reducible refine LeO.bind ?_ (fun _ => ?_))
      | exact ih0 _ _ _ _ _ _ _
      | exact ih1 _ _ _ _ _ _
      | exact graftwoodlaw05_Few.mono _ _
      | exact graftwoodlaw18_Few.mono _ _
      | exact graftwoodref05_Same.mono _ _ _
      | exact graftwoodref18_Same.mono _ _ _
      | exact LeO.none _
      | refine LeO.ite ?_ ?_
      | refine LeO.bind ?_ (fun _ => ?_)
theorem graftwoodlaw18_LackOrder.mono : ∀ a0 a1 a2 k, LeO (graftwoodlaw18_LackOrder.f k a0 a1 a2) (graftwoodlaw18_LackOrder.f (k + 1) a0 a1 a2) := by
  intro a0 a1 a2 k
  obtain ⟨ih0, ih1⟩ := graftwoodlaw18_LackOrder.mono_l k
  unfold graftwoodlaw18_LackOrder.f
  repeat' first
      | (with_reducible exact ih0 _ _ _ _ _ _ _)
      | (with_reducible exact ih1 _ _ _ _ _ _)
      | (with_reducible exact graftwoodlaw05_Few.mono _ _)
      | (with_reducible exact graftwoodlaw18_Few.mono _ _)
      | (with_reducible exact graftwoodref05_Same.mono _ _ _)
      | (with_reducible exact graftwoodref18_Same.mono _ _ _)
      | (with_reducible exact LeO.refl _)
      | (with_reducible exact LeO.none _)
      | (with_reducible refine LeO.ite ?_ ?_)
      | (with_reducible refine LeO.bind ?_ (fun _ => ?_))
      | exact ih0 _ _ _ _ _ _ _
      | exact ih1 _ _ _ _ _ _
      | exact graftwoodlaw05_Few.mono _ _
      | exact graftwoodlaw18_Few.mono _ _
      | exact graftwoodref05_Same.mono _ _ _
      | exact graftwoodref18_Same.mono _ _ _
      | exact LeO.none _
      | refine LeO.ite ?_ ?_
      | refine LeO.bind ?_ (fun _ => ?_)
def graftwoodlaw18_LackOrder.T7 : Bool × List (List Nat × List Nat) := (true, [([], []), ([], []), ([], []), ([1, 2], [1, 2]), ([3], [3]), ([], []), ([], []), ([5, 6], [5, 6]), ([7], [7]), ([4, 8], [4, 8]), ([0, 9], [0, 9]), ([10, 10, 0, 1, 2, 3, 4, 5, 6, 7, 8, 9, 10], [0, 10])])
def graftwoodlaw18_LackOrder.B7 : List Nat := [0, 0, 0, 6, 14, 0, 0, 96, 224, 510, 1023, 2047]
theorem graftwoodlaw18_LackOrder.tab7 : rtab .any (opsOf Tryd.f3 7) = graftwoodlaw18_LackOrder.T7 := by kernel_rfl
theorem graftwoodlaw18_LackOrder.bits7 : waitsOk graftwoodlaw18_LackOrder.T7.2 graftwoodlaw18_LackOrder.B7 = true := by kernel_rfl
def graftwoodlaw18_LackOrder.T15 : Bool × List (List Nat × List Nat) := (true, [([], []), ([], []), ([], []), ([2], [2]), ([], []), ([4], [4]), ([5], [5]), ([6], [6]), ([7], [7]), ([8], [8]), ([3, 9, 3], [3, 9]), ([0, 1, 10, 10], [0, 1, 10]), ([11], [11]), ([12], [12]), ([12], [12]), ([13, 11, 0, 1, 2, 3, 4, 5, 6, 7, 8, 9, 10, 11, 12, 13], [13]), ([14, 15, 0, 1, 2, 3, 4, 5, 6, 7, 8, 9, 10, 11, 12, 13, 14, 15], [14])])
def graftwoodlaw18_LackOrder.B15 : List Nat := [0, 0, 0, 4, 0, 16, 48, 112, 240, 496, 1020, 2047, 4095, 8191, 8191, 16383, 65535]
theorem graftwoodlaw18_LackOrder.tab15 : rtab .any (opsOf Tryd.f3 15) = graftwoodlaw18_LackOrder.T15 := by kernel_rfl
theorem graftwoodlaw18_LackOrder.bits15 : waitsOk graftwoodlaw18_LackOrder.T15.2 graftwoodlaw18_LackOrder.B15 = true := by kernel_rfl
def graftwoodlaw18_LackOrder.T16 : Bool × List (List Nat × List Nat) := (true, [([], []), ([0], [0]), ([1], [1]), ([2], [2]), ([3, 2], [2, 3]), ([2], [2]), ([5, 2], [2, 5]), ([4, 6, 2], [2, 4, 6]), ([2, 7], [2, 7]), ([8, 2], [8]), ([9], [9]), ([10, 9], [9, 10]), ([11, 9], [9, 11]), ([12, 9], [9, 12]), ([9, 13], [9, 13]), ([14, 9], [14]), ([15], [15]), ([16, 15], [15, 16]), ([17, 15], [15, 17]), ([18, 15], [15, 18]), ([15], [15]), ([20, 15], [15, 20]), ([21, 15], [15, 21]), ([22, 15], [15, 22]), ([19, 23, 15, 15], [15, 19, 23]), ([15, 24], [15, 24]), ([25, 24], [25]), ([26], [26]), ([27, 26], [26, 27]), ([26], [26]), ([29, 26], [26, 29]), ([28, 30, 26, 26], [26, 28, 30]), ([26, 31], [26, 31]), ([32, 31], [32]), ([33, 33], [33]), ([33, 34], [33, 34]), ([35, 34, 0, 1, 2, 3, 4, 5, 6, 7, 8, 9, 10, 11, 12, 13, 14, 15, 16, 17, 18, 19, 20, 21, 22, 23, 24, 25, 26, 27, 28, 29, 30, 31, 32, 33, 34, 35], [35])])
def graftwoodlaw18_LackOrder.B16 : List Nat := [0, 1, 3, 7, 15, 7, 39, 127, 255, 511, 1023, 2047, 4095, 8191, 16383, 32767, 65535, 131071, 262143, 524287, 65535, 1114111, 3211263, 7405567, 16777215, 33554431, 67108863, 134217727, 268435455, 134217727, 671088639, 2147483647, 4294967295, 8589934591, 17179869183, 34359738367, 68719476735]
theorem graftwoodlaw18_LackOrder.tab16 : rtab .any (opsOf Tryd.f3 16) = graftwoodlaw18_LackOrder.T16 := by kernel_rfl
theorem graftwoodlaw18_LackOrder.bits16 : waitsOk graftwoodlaw18_LackOrder.T16.2 graftwoodlaw18_LackOrder.B16 = true := by kernel_rfl
set_option maxHeartbeats 8000000 in
set_option maxRecDepth 100000 in
theorem graftwoodlaw18_LackOrder.calls (k : Nat) (A0 : Option Addr) (c0 : Nat) (l0 : List (S31)) (A1 : Option Addr) (c1 : Nat) (l1 : List (S31)) (A2 : Option Addr) (c2 : Nat) (l2 : List (S33)) (r : Bool) (w : World) (hr0 : Kd.C k31 w A0 l0.length l0) (hc0 : l0.length ≤ c0) (hr1 : Kd.C k31 w A1 l1.length l1) (hc1 : l1.length ≤ c1) (hr2 : Kd.C k33 w A2 l2.length l2) (hc2 : l2.length ≤ c2) (h : graftwoodlaw18_LackOrder.f k l0 l1 l2 = some r) (HR_ : Aside0 (r = true)) :
    Calls Tryd.prog 3 #[.slice A0 l0.length c0, .slice A1 l1.length c1, .slice A2 l2.length c2] w fun e w' => e = .returned (.bool r) ∧ Below w.heap.size w w' := by
  have hu33 := Tryd.underlying33
  have hu31 := Tryd.underlying31
  have HR0 := Aside0.mk hr0
  have HC0 := Aside0.mk hc0
  clear hr0 hc0
  have HR1 := Aside0.mk hr1
  have HC1 := Aside0.mk hc1
  clear hr1 hc1
  have HR2 := Aside0.mk hr2
  have HC2 := Aside0.mk hc2
  clear hr2 hc2
  have HB := Aside0.mk (Below.refl w.heap.size w)
  have H : ((graftwoodlaw05_Few.f k l0).bind fun t237 => ((graftwoodlaw05_Few.f k l1).bind fun t240 => ((graftwoodlaw18_Few.f k l2).bind fun t243 => ((lack_Of.f t237 t240 t243).bind fun bt246 => (graftwoodlaw18_LackOrder.l0 k t237 t240 t243 bt246.1 bt246.2 ([] : List (S33)) (wrap64 ((t243.length : Int) - 1))))))) = some r := h
  clear h
  replace H := Option.bind_eq_some_iff.mp H
  obtain ⟨t237, A40, H⟩ := H
  replace H : ((graftwoodlaw05_Few.f k l1).bind fun t240 => ((graftwoodlaw18_Few.f k l2).bind fun t243 => ((lack_Of.f t237 t240 t243).bind fun bt246 => (graftwoodlaw18_LackOrder.l0 k t237 t240 t243 bt246.1 bt246.2 ([] : List (S33)) (wrap64 ((t243.length : Int) - 1)))))) = some r := H
  have A4 := Aside0.mk A40
  clear A40
  replace H := Option.bind_eq_some_iff.mp H
  obtain ⟨t240, A50, H⟩ := H
  replace H : ((graftwoodlaw18_Few.f k l2).bind fun t243 => ((lack_Of.f t237 t240 t243).bind fun bt246 => (graftwoodlaw18_LackOrder.l0 k t237 t240 t243 bt246.1 bt246.2 ([] : List (S33)) (wrap64 ((t243.length : Int) - 1))))) = some r := H
  have A5 := Aside0.mk A50
  clear A50
  replace H := Option.bind_eq_some_iff.mp H
  obtain ⟨t243, A60, H⟩ := H
  replace H : ((lack_Of.f t237 t240 t243).bind fun bt246 => (graftwoodlaw18_LackOrder.l0 k t237 t240 t243 bt246.1 bt246.2 ([] : List (S33)) (wrap64 ((t243.length : Int) - 1)))) = some r := H
  have A6 := Aside0.mk A60
  clear A60
  replace H := Option.bind_eq_some_iff.mp H
  obtain ⟨⟨t246, t247⟩, A70, H⟩ := H
  replace H : (graftwoodlaw18_LackOrder.l0 k t237 t240 t243 t246 t247 ([] : List (S33)) (wrap64 ((t243.length : Int) - 1))) = some r := H
  have A7 := Aside0.mk A70
  clear A70
  have H' := Aside0.mk H
  clear H
  go_enter Tryd.func3, Tryd.ntmps3
  go_wp2_with (first | ((with_reducible refine gate_callee (f := 6) rfl ?_); refine goesL_ (some 16) rfl rfl Tryd.func6 (by kernel_rfl) rfl #[.slice A0 l0.length c0] rfl (by (try simp only [List.map_toArray, List.map_cons, List.map_nil]); first | done | rfl | (simp only [List.length_drop, List.length_take]; rfl)) ?_; (with_reducible refine (graftwoodlaw05_Few.calls k _ _ l0 t237 _ ?side1 ?side2 A4.out).mono ?_); (case side1 => repeat (first | exact HR0.out | (with_reducible refine Kd.C_alloc ?_ _) | (with_reducible refine Kd.C_drewN ?_ _) | (with_reducible refine Kd.C_drew ?_))); (case side2 => exact HC0.out); rintro e w8 ⟨v238, rfl, ho0, hb⟩; refine ⟨_, rfl, ?_⟩; have n0_ := Aside0.mk (Kd.R_lower ho0 (below_size (by repeat (first | (with_reducible first | exact HB.out | apply below_alloc | apply pw_below_drewN | apply below_drew1) | exact HB.out)))); have n1_ := Aside0.mk (below_step (by repeat (first | (with_reducible first | exact HB.out | apply below_alloc | apply pw_below_drewN | apply below_drew1) | exact HB.out)) hb); clear HB; have HO239 := n0_; have HB := n1_; clear n0_ n1_; (try clear hb); (try clear hb2); (try clear hk); (try clear hi); (try clear ho0)) | ((with_reducible refine gate_callee (f := 6) rfl ?_); refine goesL_ (some 18) rfl rfl Tryd.func6 (by kernel_rfl) rfl #[.slice A1 l1.length c1] rfl (by (try simp only [List.map_toArray, List.map_cons, List.map_nil]); first | done | rfl | (simp only [List.length_drop, List.length_take]; rfl)) ?_; (with_reducible refine (graftwoodlaw05_Few.calls k _ _ l1 t240 _ ?side1 ?side2 A5.out).mono ?_); (case side1 => repeat (first | exact (Kd.C_below HR1.out HB.out) | (with_reducible refine Kd.C_alloc ?_ _) | (with_reducible refine Kd.C_drewN ?_ _) | (with_reducible refine Kd.C_drew ?_))); (case side2 => exact HC1.out); rintro e w9 ⟨v241, rfl, ho0, hb⟩; refine ⟨_, rfl, ?_⟩; have n0_ := Aside0.mk (Kd.R_elder' (by (with_reducible repeat (first | apply Kd.R_alloc | apply Kd.R_drewN | apply Kd.R_drew)); exact HO239.out) (Kd.R_base ho0) hb); have n1_ := Aside0.mk (Kd.R_lower (Kd.R_new' ho0 (Kd.R_lt (by (with_reducible repeat (first | apply Kd.R_alloc | apply Kd.R_drewN | apply Kd.R_drew)); exact HO239.out))) (below_size (by repeat (first | (with_reducible first | exact HB.out | apply below_alloc | apply pw_below_drewN | apply below_drew1) | exact HB.out)))); have n2_ := Aside0.mk (below_step (by repeat (first | (with_reducible first | exact HB.out | apply below_alloc | apply pw_below_drewN | apply below_drew1) | exact HB.out)) hb); clear HO239; clear HB; have HO239 := n0_; have HO242 := n1_; have HB := n2_; clear n0_ n1_ n2_; (try clear hb); (try clear hb2); (try clear hk); (try clear hi); (try clear ho0)) | ((with_reducible refine gate_callee (f := 7) rfl ?_); refine goesL_ (some 20) rfl rfl Tryd.func7 (by kernel_rfl) rfl #[.slice A2 l2.length c2] rfl (by (try simp only [List.map_toArray, List.map_cons, List.map_nil]); first | done | rfl | (simp only [List.length_drop, List.length_take]; rfl)) ?_; (with_reducible refine (graftwoodlaw18_Few.calls k _ _ l2 t243 _ ?side1 ?side2 A6.out).mono ?_); (case side1 => repeat (first | exact (Kd.C_below HR2.out HB.out) | (with_reducible refine Kd.C_alloc ?_ _) | (with_reducible refine Kd.C_drewN ?_ _) | (with_reducible refine Kd.C_drew ?_))); (case side2 => exact HC2.out); rintro e w10 ⟨v244, rfl, ho0, hb⟩; refine ⟨_, rfl, ?_⟩; have n0_ := Aside0.mk (Kd.R_below (by (with_reducible repeat (first | apply Kd.R_alloc | apply Kd.R_drewN | apply Kd.R_drew)); exact HO239.out) hb); have n1_ := Aside0.mk (Kd.R_below (by (with_reducible repeat (first | apply Kd.R_alloc | apply Kd.R_drewN | apply Kd.R_drew)); exact HO242.out) hb); have n2_ := Aside0.mk (Kd.R_lower ho0 (below_size (by repeat (first | (with_reducible first | exact HB.out | apply below_alloc | apply pw_below_drewN | apply below_drew1) | exact HB.out)))); have n3_ := Aside0.mk (below_step (by repeat (first | (with_reducible first | exact HB.out | apply below_alloc | apply pw_below_drewN | apply below_drew1) | exact HB.out)) hb); clear HO239; clear HO242; clear HB; have HO239 := n0_; have HO242 := n1_; have HO245 := n2_; have HB := n3_; clear n0_ n1_ n2_ n3_; (try clear hb); (try clear hb2); (try clear hk); (try clear hi); (try clear ho0); obtain ⟨Ao11, co11, eo11⟩ := Kd.R_slice HO239.out; subst eo11; obtain ⟨Ao12, co12, eo12⟩ := Kd.R_slice HO242.out; subst eo12; obtain ⟨Ao13, co13, eo13⟩ := Kd.R_slice HO245.out; subst eo13) | ((with_reducible refine gate_callee (f := 8) rfl ?_); refine goesL_ (some 25) rfl rfl Tryd.func8 (by kernel_rfl) rfl #[.slice Ao11 t237.length co11, .slice Ao12 t240.length co12, .slice Ao13 t243.length co13] rfl (by (try simp only [List.map_toArray, List.map_cons, List.map_nil]); first | done | rfl | (simp only [List.length_drop, List.length_take]; rfl)) ?_; (with_reducible refine (lack_Of.calls _ _ t237 _ _ t240 _ _ t243 t246 t247 _ ?side1 ?side2 ?side3 ?side4 ?side5 ?side6 A7.out).mono ?_); (case side1 => repeat (first | exact (Kd.R_reads' HO239.out).2.2 | (with_reducible refine Kd.C_alloc ?_ _) | (with_reducible refine Kd.C_drewN ?_ _) | (with_reducible refine Kd.C_drew ?_))); (case side2 => exact (Kd.R_reads' HO239.out).2.1); (case side3 => repeat (first | exact (Kd.R_reads' HO242.out).2.2 | (with_reducible refine Kd.C_alloc ?_ _) | (with_reducible refine Kd.C_drewN ?_ _) | (with_reducible refine Kd.C_drew ?_))); (case side4 => exact (Kd.R_reads' HO242.out).2.1); (case side5 => repeat (first | exact (Kd.R_reads' HO245.out).2.2 | (with_reducible refine Kd.C_alloc ?_ _) | (with_reducible refine Kd.C_drewN ?_ _) | (with_reducible refine Kd.C_drew ?_))); (case side6 => exact (Kd.R_reads' HO245.out).2.1); rintro e w14 ⟨v248, rfl, ho0, hb⟩; refine ⟨_, rfl, ?_⟩; have n0_ := Aside0.mk (Kd.R_below (by (with_reducible repeat (first | apply Kd.R_alloc | apply Kd.R_drewN | apply Kd.R_drew)); exact HO239.out) hb); have n1_ := Aside0.mk (Kd.R_below (by (with_reducible repeat (first | apply Kd.R_alloc | apply Kd.R_drewN | apply Kd.R_drew)); exact HO242.out) hb); have n2_ := Aside0.mk (Kd.R_below (by (with_reducible repeat (first | apply Kd.R_alloc | apply Kd.R_drewN | apply Kd.R_drew)); exact HO245.out) hb); have n3_ := Aside0.mk (Kd.S_lower (Kd.S_new' (Kd.S_new' ho0 (Kd.R_lt (by (with_reducible repeat (first | apply Kd.R_alloc | apply Kd.R_drewN | apply Kd.R_drew)); exact HO239.out))) (Kd.R_lt (by (with_reducible repeat (first | apply Kd.R_alloc | apply Kd.R_drewN | apply Kd.R_drew)); exact HO242.out))) (below_size (by repeat (first | (with_reducible first | exact HB.out | apply below_alloc | apply pw_below_drewN | apply below_drew1) | exact HB.out)))); have n4_ := Aside0.mk (below_step (by repeat (first | (with_reducible first | exact HB.out | apply below_alloc | apply pw_below_drewN | apply below_drew1) | exact HB.out)) hb); clear HO239; clear HO242; clear HO245; clear HB; have HO239 := n0_; have HO242 := n1_; have HO245 := n2_; have HO249 := n3_; have HB := n4_; clear n0_ n1_ n2_ n3_ n4_; (try clear hb); (try clear hb2); (try clear hk); (try clear hi); (try clear ho0)))
  go_loopg [9, 10] k (fun kq v9 v10 w' => ∃ (x9_1 : List (S33)) (x10_1 : Int), v10 = .int .i64 x10_1 ∧ Aside0 (graftwoodlaw18_LackOrder.l0 kq t237 t240 t243 t246 t247 x9_1 x10_1 = some r) ∧ Aside0 (kq ≤ k) ∧ Aside0 (Kd.R k31 31 w' w.heap.size (fun k_ => some k_ ≠ ((.slice Ao12 t240.length co12) : Value).ownBlock) (.slice Ao11 t237.length co11) t237) ∧ Aside0 (Kd.R k31 31 w' w.heap.size (fun k_ => some k_ ≠ ((.slice Ao11 t237.length co11) : Value).ownBlock) (.slice Ao12 t240.length co12) t240) ∧ Aside0 (Kd.R k33 33 w' w.heap.size (fun k_ => some k_ ≠ (v9 : Value).ownBlock) (.slice Ao13 t243.length co13) t243) ∧ Aside0 (Kd.S k37 37 w' w.heap.size (fun k_ => some k_ ≠ ((.slice Ao11 t237.length co11) : Value).ownBlock ∧ some k_ ≠ ((.slice Ao12 t240.length co12) : Value).ownBlock) v248 t246) ∧ Aside0 (Kd.R k33 33 w' w.heap.size (fun k_ => some k_ ≠ ((.slice Ao13 t243.length co13) : Value).ownBlock) v9 x9_1) ∧ Aside0 (Below w.heap.size w w'))
  case atStart => exact ⟨(([] : List (S33))), (wrap64 ((t243.length : Int) - 1)), (by first | rfl | (simp; done) | (simp [*]; done)), H', ⟨Nat.le_refl _⟩, ⟨by (with_reducible repeat (first | apply Kd.R_alloc | apply Kd.R_drewN | apply Kd.R_drew)); exact Kd.R_mono HO239.out (fun _ hk => hk.2)⟩, ⟨by (with_reducible repeat (first | apply Kd.R_alloc | apply Kd.R_drewN | apply Kd.R_drew)); exact Kd.R_mono HO242.out (fun _ hk => hk.2)⟩, ⟨by (with_reducible repeat (first | apply Kd.R_alloc | apply Kd.R_drewN | apply Kd.R_drew)); exact Kd.R_mono HO245.out (fun _ hk => (by simp [Value.ownBlock]))⟩, ⟨by (with_reducible repeat (first | apply Kd.S_alloc | apply Kd.S_drewN | apply Kd.S_drew)); exact Kd.S_mono HO249.out (fun _ hk => ⟨hk.1.2, hk.2⟩)⟩, ⟨by first | exact Kd.R_nil _ _ _ _ _ | exact Kd.N_nil _ _ _ _ _ | exact Kd.V_nil _ _ _ _ _ | exact Kd.Q_nil _ _ _ _ _ | exact Kd.S_nil _ _ _ _ _⟩, ⟨by repeat (first | (with_reducible first | exact HB.out | apply below_alloc | apply pw_below_drewN | apply below_drew1) | exact HB.out)⟩⟩
  case round =>
    clear H'
    try clear c1
    try clear c2
    try clear p2
    try clear c3
    try clear c6
    try clear p6
    try clear c7
    try clear c8
    obtain ⟨x9_1, x10_1, rfl, HA, HK1, HO_0, HO_1, HO_2, HO_7, HO_9, HB⟩ := hrel
    cases gk with
    | zero => exact absurd HA.out (by simp [graftwoodlaw18_LackOrder.l0])
    | succ k1 =>
      have H := HA.out
      clear HA
      simp only [graftwoodlaw18_LackOrder.l0] at H
      by_cases c15 : x10_1 ≥ 0
      · rw [if_pos c15] at H
        have c15b0 : decide (0 ≤ x10_1) = true := decide_eq_true c15
        clear c15
        by_cases c16 : 0 ≤ x10_1
        · rw [if_pos c16] at H
          have c16b0 : decide (0 ≤ x10_1) = true := decide_eq_true c16
          clear c16
          by_cases c17 : x10_1 < (t243.length : Int)
          · rw [if_pos c17] at H
            have c17b0 : decide (x10_1 < (t243.length : Int)) = true := decide_eq_true c17
            clear c17
            obtain ⟨y252, hy252⟩ : ∃ y_ : List (S33), y_ = (([(⟨(⟨(rd_T33 t243 x10_1).f0.f0, (rd_T33 t243 x10_1).f0.f1⟩ : S31), (⟨(rd_T33 t243 x10_1).f1.f0, (rd_T33 t243 x10_1).f1.f1⟩ : S31)⟩ : S33), (⟨(⟨(rd_T33 t243 x10_1).f0.f0, (rd_T33 t243 x10_1).f0.f1⟩ : S31), (⟨(rd_T33 t243 x10_1).f1.f0, (rd_T33 t243 x10_1).f1.f1⟩ : S31)⟩ : S33)] : List (S33))) := ⟨_, rfl⟩
            replace H : (if x9_1.length + y252.length < 2199023255552 then (graftwoodlaw18_LackOrder.l0 k1 t237 t240 t243 t246 t247 (x9_1 ++ y252) (wrap64 (x10_1 - 1))) else (none)) = some r := by first | (rw [hy252]; with_reducible exact H) | (have H2_ := (Option.bind_some _ _).symm.trans H; rw [hy252]; with_reducible exact H2_) | (have H2_ := (Option.bind_some _ _).symm.trans H; with_reducible exact H2_) | with_reducible exact H | (rw [hy252]; exact H) | exact H
            have Ny252 := Aside0.mk hy252
            clear hy252
            by_cases c18 : x9_1.length + y252.length < 2199023255552
            · rw [if_pos c18] at H
              have LMc18 := Aside0.mk c18
              clear c18
              obtain ⟨y255, hy255⟩ : ∃ y_ : List (S33), y_ = (x9_1 ++ y252) := ⟨_, rfl⟩
              replace H : (graftwoodlaw18_LackOrder.l0 k1 t237 t240 t243 t246 t247 y255 (wrap64 (x10_1 - 1))) = some r := by first | (rw [hy255]; with_reducible exact H) | (have H2_ := (Option.bind_some _ _).symm.trans H; rw [hy255]; with_reducible exact H2_) | (have H2_ := (Option.bind_some _ _).symm.trans H; with_reducible exact H2_) | with_reducible exact H | (rw [hy255]; exact H) | exact H
              have Ny255 := Aside0.mk hy255
              clear hy255
              have H' := Aside0.mk H
              clear H
              try go_wp2
              have n0_ := Aside0.mk (Kd.R_drew HO_0.out)
              have n1_ := Aside0.mk (Kd.R_drew HO_1.out)
              have n2_ := Aside0.mk (Kd.R_drew HO_2.out)
              have n3_ := Aside0.mk (Kd.S_drew HO_7.out)
              have n4_ := Aside0.mk (Kd.R_drew HO_9.out)
              have n5_ := Aside0.mk (below_drew1 HB.out)
              clear HO_0
              clear HO_1
              clear HO_2
              clear HO_7
              clear HO_9
              clear HB
              have HO_0 := n0_
              have HO_1 := n1_
              have HO_2 := n2_
              have HO_7 := n3_
              have HO_9 := n4_
              have HB := n5_
              clear n0_ n1_ n2_ n3_ n4_ n5_
              have p250 : 0 ≤ (x10_1 : Int) := of_decide_eq_true (by first | (with_reducible assumption) | assumption)
              have q250 : x10_1 < (t243.length : Int) := of_decide_eq_true (by first | (with_reducible assumption) | assumption)
              obtain ⟨ad250, e250, hx250_0, hx250_1, hx250_2, hx250_3⟩ := at_T33 (Kd.R_reads' HO_2.out).2.2 x10_1 p250 q250
              cases e250
              replace p250 := eq_true p250
              replace q250 := eq_true q250
              have p251 : 0 ≤ (x10_1 : Int) := of_decide_eq_true (by first | (with_reducible assumption) | assumption)
              have q251 : x10_1 < (t243.length : Int) := of_decide_eq_true (by first | (with_reducible assumption) | assumption)
              obtain ⟨ad251, e251, hx251_0, hx251_1, hx251_2, hx251_3⟩ := at_T33 (Kd.R_reads' HO_2.out).2.2 x10_1 p251 q251
              obtain rfl : ad250 = ad251 := (by injection e251)
              replace p251 := eq_true p251
              replace q251 := eq_true q251
              refine start_ (n := 12) (S := fun w' => w'.cell? (ad250.add ((x10_1).toNat * 4)) = some (.string ((rd_T33 t243 x10_1).f0.f0)) ∧ w'.cell? ⟨(ad250.add ((x10_1).toNat * 4)).block, (ad250.add ((x10_1).toNat * 4)).off + 1, none⟩ = some (.string ((rd_T33 t243 x10_1).f0.f1)) ∧ w'.cell? ⟨(ad250.add ((x10_1).toNat * 4)).block, (ad250.add ((x10_1).toNat * 4)).off + 2, none⟩ = some (.string ((rd_T33 t243 x10_1).f1.f0)) ∧ w'.cell? ⟨(ad250.add ((x10_1).toNat * 4)).block, (ad250.add ((x10_1).toNat * 4)).off + 3, none⟩ = some (.string ((rd_T33 t243 x10_1).f1.f1)) ∧ w'.cell? (ad250.add ((x10_1).toNat * 4)) = some (.string ((rd_T33 t243 x10_1).f0.f0)) ∧ w'.cell? ⟨(ad250.add ((x10_1).toNat * 4)).block, (ad250.add ((x10_1).toNat * 4)).off + 1, none⟩ = some (.string ((rd_T33 t243 x10_1).f0.f1)) ∧ w'.cell? ⟨(ad250.add ((x10_1).toNat * 4)).block, (ad250.add ((x10_1).toNat * 4)).off + 2, none⟩ = some (.string ((rd_T33 t243 x10_1).f1.f0)) ∧ w'.cell? ⟨(ad250.add ((x10_1).toNat * 4)).block, (ad250.add ((x10_1).toNat * 4)).off + 3, none⟩ = some (.string ((rd_T33 t243 x10_1).f1.f1))) (ds := [10]) #[false, false, false, false, false, false, false, false, false, false, false, false] (by kernel_rfl) rfl rfl ⟨hx250_0, hx250_1, hx250_2, hx250_3, hx251_0, hx251_1, hx251_2, hx251_3⟩ (fun hHeld => ?_); refine with_tabW graftwoodlaw18_LackOrder.tab7 graftwoodlaw18_LackOrder.bits7 (fun HT_ HW_ => ?_)
              generalize wr.drew = w19 at HO_0 HO_1 HO_2 HO_7 HO_9 HB hx250_0 hx250_1 hx250_2 hx250_3 hx251_0 hx251_1 hx251_2 hx251_3 hHeld ⊢
              refine pure_ (i := 0) (N := some 35) (v := ?_) (a' := ?_) #[true, false, false, false, false, false, false, false, false, false, false, false] rfl rfl (any_of HT_.out (by kernel_rfl)) (fun _ _ _ h => h) (Or.inl ⟨by rfl, ?_⟩) ?_ ?_
              rotate_left
              · intro w'
                go_simp
                with_reducible rfl
              rotate_left
              · simp only [Act.put, List.setIfInBounds_toArray, List.set_cons_zero, List.set_cons_succ, i64_w, i32_w]
                rfl
              refine pure_ (i := 1) (N := some 36) (v := ?_) (a' := ?_) #[true, true, false, false, false, false, false, false, false, false, false, false] rfl rfl (any_of HT_.out (by kernel_rfl)) (fun _ _ _ h => h) (Or.inl ⟨by rfl, ?_⟩) ?_ ?_
              rotate_left
              · intro w'
                go_simp
                with_reducible rfl
              rotate_left
              · simp only [Act.put, List.setIfInBounds_toArray, List.set_cons_zero, List.set_cons_succ, i64_w, i32_w]
                rfl
              refine pure_ (i := 2) (N := some 37) (v := ?_) (a' := ?_) #[true, true, true, false, false, false, false, false, false, false, false, false] rfl rfl (any_of HT_.out (by kernel_rfl)) (fun _ _ _ h => h) (Or.inl ⟨by rfl, ?_⟩) ?_ ?_
              rotate_left
              · intro w'
                go_simp
                with_reducible rfl
              rotate_left
              · simp only [Act.put, List.setIfInBounds_toArray, List.set_cons_zero, List.set_cons_succ, i64_w, i32_w]
                rfl
              refine pure_ (i := 3) (N := some 38) (v := ?_) (a' := ?_) #[true, true, true, true, false, false, false, false, false, false, false, false] rfl rfl (any_of HT_.out (by kernel_rfl)) (fun _ _ _ h => h) (Or.inl ⟨by rfl, ?_⟩) ?_ ?_
              rotate_left
              · intro w'
                go_simp
                with_reducible rfl
              rotate_left
              · simp only [Act.put, List.setIfInBounds_toArray, List.set_cons_zero, List.set_cons_succ, i64_w, i32_w]
                rfl
              refine pure_ (i := 5) (N := some 40) (v := ?_) (a' := ?_) #[true, true, true, true, false, true, false, false, false, false, false, false] rfl rfl (any_of HT_.out (by kernel_rfl)) (fun _ _ _ h => h) (Or.inl ⟨by rfl, ?_⟩) ?_ ?_
              rotate_left
              · intro w'
                go_simp
                with_reducible rfl
              rotate_left
              · simp only [Act.put, List.setIfInBounds_toArray, List.set_cons_zero, List.set_cons_succ, i64_w, i32_w]
                rfl
              refine pure_ (i := 6) (N := some 41) (v := ?_) (a' := ?_) #[true, true, true, true, false, true, true, false, false, false, false, false] rfl rfl (any_of HT_.out (by kernel_rfl)) (fun _ _ _ h => h) (Or.inl ⟨by rfl, ?_⟩) ?_ ?_
              rotate_left
              · intro w'
                go_simp
                with_reducible rfl
              rotate_left
              · simp only [Act.put, List.setIfInBounds_toArray, List.set_cons_zero, List.set_cons_succ, i64_w, i32_w]
                rfl
              refine pure_ (i := 7) (N := some 42) (v := ?_) (a' := ?_) #[true, true, true, true, false, true, true, true, false, false, false, false] rfl rfl (any_of HT_.out (by kernel_rfl)) (fun _ _ _ h => h) (Or.inl ⟨by rfl, ?_⟩) ?_ ?_
              rotate_left
              · intro w'
                go_simp
                with_reducible rfl
              rotate_left
              · simp only [Act.put, List.setIfInBounds_toArray, List.set_cons_zero, List.set_cons_succ, i64_w, i32_w]
                rfl
              refine take_ (i := 4) (N := some 39) (v := ?_) (a' := ?_) #[true, true, true, true, true, true, true, true, false, false, false, false] rfl rfl (take_ofW HT_.out HW_.out (by kernel_rfl)) (fun _ _ _ h => h) (Or.inl ⟨by rfl, ?_⟩) hHeld ?_ ?_
              rotate_left
              · rintro w' ⟨s0, s1, s2, s3, s4, s5, s6, s7⟩
                go_simp
                with_reducible rfl
              rotate_left
              · simp only [Act.put, List.setIfInBounds_toArray, List.set_cons_zero, List.set_cons_succ, i64_w, i32_w]
                rfl
              refine take_ (i := 8) (N := some 43) (v := ?_) (a' := ?_) #[true, true, true, true, true, true, true, true, true, false, false, false] rfl rfl (take_ofW HT_.out HW_.out (by kernel_rfl)) (fun _ _ _ h => h) (Or.inl ⟨by rfl, ?_⟩) hHeld ?_ ?_
              rotate_left
              · rintro w' ⟨s0, s1, s2, s3, s4, s5, s6, s7⟩
                go_simp
                with_reducible rfl
              rotate_left
              · simp only [Act.put, List.setIfInBounds_toArray, List.set_cons_zero, List.set_cons_succ, i64_w, i32_w]
                rfl
              refine one_ (i := 9) (N := some 44) #[true, true, true, true, true, true, true, true, true, true, false, false] rfl rfl (one_of HT_.out (by kernel_rfl)) (by decide) (fun K hK => ?_)
              refine Kd.R_lit_step k33 _ 33 ?hg (N := 44) ?hd (xs := ([(⟨(⟨(rd_T33 t243 x10_1).f0.f0, (rd_T33 t243 x10_1).f0.f1⟩ : S31), (⟨(rd_T33 t243 x10_1).f1.f0, (rd_T33 t243 x10_1).f1.f1⟩ : S31)⟩ : S33), (⟨(⟨(rd_T33 t243 x10_1).f0.f0, (rd_T33 t243 x10_1).f0.f1⟩ : S31), (⟨(rd_T33 t243 x10_1).f1.f0, (rd_T33 t243 x10_1).f1.f1⟩ : S31)⟩ : S33)] : List (S33))) (inner := [.string ((rd_T33 t243 x10_1).f0.f0), .string ((rd_T33 t243 x10_1).f0.f1), .string ((rd_T33 t243 x10_1).f1.f0), .string ((rd_T33 t243 x10_1).f1.f1), .string ((rd_T33 t243 x10_1).f0.f0), .string ((rd_T33 t243 x10_1).f0.f1), .string ((rd_T33 t243 x10_1).f1.f0), .string ((rd_T33 t243 x10_1).f1.f1)]) (ok := fun _ => True) (okp := fun _ => True) ?hr ?hp (fun _ hk => hk) trivial (Below.refl _ _) (Nat.le_refl _) (by simp) ?_; (case hd => rfl); (case hg => rfl); (case hr => first | (go_simp; done) | (go_simp; rfl)); (case hp => exact (Reps.c4 (show Kd.M k33 _ _ _ (⟨(⟨(rd_T33 t243 x10_1).f0.f0, (rd_T33 t243 x10_1).f0.f1⟩ : S31), (⟨(rd_T33 t243 x10_1).f1.f0, (rd_T33 t243 x10_1).f1.f1⟩ : S31)⟩ : S33) [.string ((rd_T33 t243 x10_1).f0.f0), .string ((rd_T33 t243 x10_1).f0.f1), .string ((rd_T33 t243 x10_1).f1.f0), .string ((rd_T33 t243 x10_1).f1.f1)] from (k33_mkM _ _ _ (⟨(⟨(rd_T33 t243 x10_1).f0.f0, (rd_T33 t243 x10_1).f0.f1⟩ : S31), (⟨(rd_T33 t243 x10_1).f1.f0, (rd_T33 t243 x10_1).f1.f1⟩ : S31)⟩ : S33) )) (Reps.c4 (show Kd.M k33 _ _ _ (⟨(⟨(rd_T33 t243 x10_1).f0.f0, (rd_T33 t243 x10_1).f0.f1⟩ : S31), (⟨(rd_T33 t243 x10_1).f1.f0, (rd_T33 t243 x10_1).f1.f1⟩ : S31)⟩ : S33) [.string ((rd_T33 t243 x10_1).f0.f0), .string ((rd_T33 t243 x10_1).f0.f1), .string ((rd_T33 t243 x10_1).f1.f0), .string ((rd_T33 t243 x10_1).f1.f1)] from (k33_mkM _ _ _ (⟨(⟨(rd_T33 t243 x10_1).f0.f0, (rd_T33 t243 x10_1).f0.f1⟩ : S31), (⟨(rd_T33 t243 x10_1).f1.f0, (rd_T33 t243 x10_1).f1.f1⟩ : S31)⟩ : S33) )) (Reps.none _ _))))
              intro v253 w20 ho21 hb hg_ hnew_
              have HS0_ := (hb.cell (World.block_lt_of_cell? _ _ (hHeld.1))).trans (hHeld.1)
              have HS1_ := (hb.cell (World.block_lt_of_cell? _ _ (hHeld.2.1))).trans (hHeld.2.1)
              have HS2_ := (hb.cell (World.block_lt_of_cell? _ _ (hHeld.2.2.1))).trans (hHeld.2.2.1)
              have HS3_ := (hb.cell (World.block_lt_of_cell? _ _ (hHeld.2.2.2.1))).trans (hHeld.2.2.2.1)
              have HS4_ := (hb.cell (World.block_lt_of_cell? _ _ (hHeld.2.2.2.2.1))).trans (hHeld.2.2.2.2.1)
              have HS5_ := (hb.cell (World.block_lt_of_cell? _ _ (hHeld.2.2.2.2.2.1))).trans (hHeld.2.2.2.2.2.1)
              have HS6_ := (hb.cell (World.block_lt_of_cell? _ _ (hHeld.2.2.2.2.2.2.1))).trans (hHeld.2.2.2.2.2.2.1)
              have HS7_ := (hb.cell (World.block_lt_of_cell? _ _ (hHeld.2.2.2.2.2.2.2))).trans (hHeld.2.2.2.2.2.2.2)
              clear hg_ hnew_
              (first | rw [← Ny252.out] at ho21 | (simp only [Int.reduceToNat] at ho21; rw [← Ny252.out] at ho21))
              have n0_ := Aside0.mk (Kd.R_below (by (with_reducible repeat (first | apply Kd.R_alloc | apply Kd.R_drewN | apply Kd.R_drew)); exact HO_0.out) hb)
              have n1_ := Aside0.mk (Kd.R_below (by (with_reducible repeat (first | apply Kd.R_alloc | apply Kd.R_drewN | apply Kd.R_drew)); exact HO_1.out) hb)
              have n2_ := Aside0.mk (Kd.R_elder' (by (with_reducible repeat (first | apply Kd.R_alloc | apply Kd.R_drewN | apply Kd.R_drew)); exact HO_2.out) (Kd.R_base ho21) hb)
              have n3_ := Aside0.mk (Kd.S_below (by (with_reducible repeat (first | apply Kd.S_alloc | apply Kd.S_drewN | apply Kd.S_drew)); exact HO_7.out) hb)
              have n4_ := Aside0.mk (Kd.R_elder' (by (with_reducible repeat (first | apply Kd.R_alloc | apply Kd.R_drewN | apply Kd.R_drew)); exact HO_9.out) (Kd.R_base ho21) hb)
              have n5_ := Aside0.mk (Kd.R_lower (Kd.R_new' (Kd.R_new' ho21 (Kd.R_lt (by (with_reducible repeat (first | apply Kd.R_alloc | apply Kd.R_drewN | apply Kd.R_drew)); exact HO_2.out))) (Kd.R_lt (by (with_reducible repeat (first | apply Kd.R_alloc | apply Kd.R_drewN | apply Kd.R_drew)); exact HO_9.out))) (below_size (by repeat (first | (with_reducible first | exact HB.out | apply below_alloc | apply pw_below_drewN | apply below_drew1) | exact HB.out))))
              have n6_ := Aside0.mk (below_step (by repeat (first | (with_reducible first | exact HB.out | apply below_alloc | apply pw_below_drewN | apply below_drew1) | exact HB.out)) hb)
              clear HO_0
              clear HO_1
              clear HO_2
              clear HO_7
              clear HO_9
              clear HB
              have HO_0 := n0_
              have HO_1 := n1_
              have HO_2 := n2_
              have HO_7 := n3_
              have HO_9 := n4_
              have HO254 := n5_
              have HB := n6_
              clear n0_ n1_ n2_ n3_ n4_ n5_ n6_
              clear hb ho21
              obtain ⟨Ao23, co23, eo23⟩ := Kd.R_slice HO254.out
              (first | subst eo23 | (injection eo23 with f1_ f2_ f3_; have f4_ := f1_.symm; have f5_ := f3_.symm; clear f1_ f2_ f3_; subst f4_; subst f5_))
              refine hK.out _ _ ⟨HS0_, HS1_, HS2_, HS3_, HS4_, HS5_, HS6_, HS7_⟩ (fun hHeld => ?_)
              clear hK K
              refine norm_ (a' := ?_) ?_ ?_
              rotate_left
              · show Act.put _ (some 44) _ = _
                simp only [Act.put, List.setIfInBounds_toArray, List.set_cons_zero, List.set_cons_succ, i64_w, i32_w]
                rfl
              refine last_ (i := 10) (N := some 45) #[true, true, true, true, true, true, true, true, true, true, true, false] rfl rfl (one_of HT_.out (by kernel_rfl)) (by decide) (fun K hK => ?_)
              refine Kd.R_append_rows_step k33 (w0 := w) w.heap.size (by rfl) (.tmp 35) (.tmp 44) 23 33 (.agg #[(.string ⟨#[]⟩), (.string ⟨#[]⟩), (.string ⟨#[]⟩), (.string ⟨#[]⟩)]) 64 rfl Tryd.underlying23 info33 rfl (by decide) (by omega) u9 x9_1 y252 _ _ _ (fun k_ => some k_ ≠ (.slice (some ad250) t243.length co13 : Value).ownBlock ∧ some k_ ≠ (.slice Ao23 y252.length co23 : Value).ownBlock) (fun _ => False) rfl rfl ?aO ?aR (fun _ _ h => h) (fun _ h => h.elim) ?aF ?aB ?aS ?aL ?_
              (case aR => repeat (first | exact (Kd.R_reads' HO254.out).2.2 | (with_reducible refine Kd.C_alloc ?_ _) | (with_reducible refine Kd.C_drewN ?_ _) | (with_reducible refine Kd.C_drew ?_)))
              (case aB => exact (by repeat (first | (with_reducible first | exact HB.out | apply below_alloc | apply pw_below_drewN | apply below_drew1) | exact HB.out)))
              (case aF => exact (fun k_ hk => ⟨Kd.fresh' (Kd.R_lt (by (with_reducible repeat (first | apply Kd.R_alloc | apply Kd.R_drewN | apply Kd.R_drew)); exact HO_2.out)) k_ hk, Kd.fresh' (Kd.R_lt (by (with_reducible repeat (first | apply Kd.R_alloc | apply Kd.R_drewN | apply Kd.R_drew)); exact HO254.out)) k_ hk⟩))
              (case aO => exact (by (with_reducible repeat (first | apply Kd.R_alloc | apply Kd.R_drewN | apply Kd.R_drew)); exact HO_9.out))
              (case aS => exact (below_size (by repeat (first | (with_reducible first | exact HB.out | apply below_alloc | apply pw_below_drewN | apply below_drew1) | exact HB.out))))
              (case aL => have := LMc18.out; omega)
              intro v256 w22 ho hb hg hat
              rw [← Ny255.out] at ho
              have n0_ := Aside0.mk (Kd.R_over' (by (with_reducible repeat (first | apply Kd.R_alloc | apply Kd.R_drewN | apply Kd.R_drew)); exact HO_0.out) (Kd.R_typed (by (with_reducible repeat (first | apply Kd.R_alloc | apply Kd.R_drewN | apply Kd.R_drew)); exact HO_9.out)) (by decide) hg)
              have n1_ := Aside0.mk (Kd.R_over' (by (with_reducible repeat (first | apply Kd.R_alloc | apply Kd.R_drewN | apply Kd.R_drew)); exact HO_1.out) (Kd.R_typed (by (with_reducible repeat (first | apply Kd.R_alloc | apply Kd.R_drewN | apply Kd.R_drew)); exact HO_9.out)) (by decide) hg)
              have n2_ := Aside0.mk (Kd.R_after (ok := (fun k_ => some k_ ≠ (.slice Ao23 y252.length co23 : Value).ownBlock)) (by (with_reducible repeat (first | apply Kd.R_alloc | apply Kd.R_drewN | apply Kd.R_drew)); exact Kd.R_mono HO_2.out (fun _ hk => ⟨hk.2, hk.1⟩)) hg hat)
              have n3_ := Aside0.mk (Kd.S_over' (by (with_reducible repeat (first | apply Kd.S_alloc | apply Kd.S_drewN | apply Kd.S_drew)); exact HO_7.out) (Kd.R_typed (by (with_reducible repeat (first | apply Kd.R_alloc | apply Kd.R_drewN | apply Kd.R_drew)); exact HO_9.out)) (by decide) hg)
              have n4_ := Aside0.mk (Kd.R_after (ok := (fun k_ => some k_ ≠ (.slice (some ad250) t243.length co13 : Value).ownBlock)) (by (with_reducible repeat (first | apply Kd.R_alloc | apply Kd.R_drewN | apply Kd.R_drew)); exact Kd.R_mono HO254.out (fun _ hk => ⟨hk.1.2, hk.2⟩)) hg hat)
              have n5_ := Aside0.mk (hb)
              have n6_ := Aside0.mk (ho)
              clear HO_0
              clear HO_1
              clear HO_2
              clear HO_7
              clear HO254
              clear HB
              clear HO_9
              have HO_0 := n0_
              have HO_1 := n1_
              have HO_2 := n2_
              have HO_7 := n3_
              have HO254 := n4_
              have HB := n5_
              have HO257 := n6_
              clear n0_ n1_ n2_ n3_ n4_ n5_ n6_
              clear ho hb hg hat
              refine hK.out _ _ ?_
              clear hK K
              refine norm_ (a' := ?_) ?_ ?_
              rotate_left
              · show Act.put _ (some 45) _ = _
                simp only [Act.put, List.setIfInBounds_toArray, List.set_cons_zero, List.set_cons_succ, i64_w, i32_w]
                rfl
              refine pure_ (i := 11) (N := some 9) (v := ?_) (a' := ?_) #[true, true, true, true, true, true, true, true, true, true, true, true] rfl rfl (any_of HT_.out (by kernel_rfl)) (fun _ _ _ h => h) (Or.inl ⟨by rfl, ?_⟩) ?_ ?_
              rotate_left
              · intro w'
                go_simp
                with_reducible rfl
              rotate_left
              · simp only [Act.put, List.setIfInBounds_toArray, List.set_cons_zero, List.set_cons_succ, i64_w, i32_w]
                rfl
              refine done_ (done_of HT_.out (by kernel_rfl)) ?_
              try go_wp2
              go_roundg k1
              case measure => have := HK1.out; omega
              case rel => exact ⟨(y255), (wrap64 (x10_1 - 1)), (by first | rfl | (simp; done) | (simp [*]; done)), H', ⟨by have := HK1.out; omega⟩, ⟨by (with_reducible repeat (first | apply Kd.R_alloc | apply Kd.R_drewN | apply Kd.R_drew)); exact HO_0.out⟩, ⟨by (with_reducible repeat (first | apply Kd.R_alloc | apply Kd.R_drewN | apply Kd.R_drew)); exact HO_1.out⟩, ⟨by (with_reducible repeat (first | apply Kd.R_alloc | apply Kd.R_drewN | apply Kd.R_drew)); exact Kd.R_mono HO_2.out (fun _ hk => hk.2)⟩, ⟨by (with_reducible repeat (first | apply Kd.S_alloc | apply Kd.S_drewN | apply Kd.S_drew)); exact HO_7.out⟩, ⟨by (with_reducible repeat (first | apply Kd.R_alloc | apply Kd.R_drewN | apply Kd.R_drew)); exact Kd.R_mono HO257.out (fun _ hk => hk.1)⟩, ⟨by repeat (first | (with_reducible first | exact HB.out | apply below_alloc | apply pw_below_drewN | apply below_drew1) | exact HB.out)⟩⟩
            · rw [if_neg c18] at H
              exact absurd H (by simp)
          · rw [if_neg c17] at H
            exact absurd H (by simp)
        · rw [if_neg c16] at H
          exact absurd H (by simp)
      · rw [if_neg c15] at H
        have c15b0 : decide (0 ≤ x10_1) = false := decide_eq_false c15
        clear c15
        replace H := Option.bind_eq_some_iff.mp H
        obtain ⟨⟨t258, t259⟩, A240, H⟩ := H
        replace H : (if t247 = t259 then (if t247 = 0 then ((graftwoodref18_Same.f k1 t246 t258).bind fun t263 => (if t263 = true then (graftwoodlaw18_LackOrder.j1 k1 t237 t240 t243 t246 t258 ((t246.length : Int) == 0)) else (graftwoodlaw18_LackOrder.j1 k1 t237 t240 t243 t246 t258 true))) else (if (t246.length : Int) = 0 then (if (t258.length : Int) = 0 then ((graftwoodlaw18_awake.f).bind fun t262 => (some t262)) else (some false)) else (some false))) else (some false)) = some r := H
        have A24 := Aside0.mk A240
        clear A240
        by_cases c25 : t247 = t259
        · rw [if_pos c25] at H
          have c25b0 : (t247 == t259) = true := beq_iff_eq.mpr c25
          have c25b1 : (t247 != t259) = false := bne_eq_false_iff_eq.mpr c25
          clear c25
          by_cases c26 : t247 = 0
          · rw [if_pos c26] at H
            have c26b0 : (t247 == 0) = true := beq_iff_eq.mpr c26
            have c26b1 : (t247 != 0) = false := bne_eq_false_iff_eq.mpr c26
            clear c26
            have HC27 := Aside0.mk H
            clear H
            obtain ⟨Ao28, co28, eo28⟩ := Kd.R_slice HO_9.out
            subst eo28
            go_upto_region 13 with (first | ((with_reducible refine gate_callee (f := 8) rfl ?_); refine goesL_ (some 50) rfl rfl Tryd.func8 (by kernel_rfl) rfl #[.slice Ao11 t237.length co11, .slice Ao12 t240.length co12, .slice Ao28 x9_1.length co28] rfl (by (try simp only [List.map_toArray, List.map_cons, List.map_nil]); first | done | rfl | (simp only [List.length_drop, List.length_take]; rfl)) ?_; (with_reducible refine (lack_Of.calls _ _ t237 _ _ t240 _ _ x9_1 t258 t259 _ ?side1 ?side2 ?side3 ?side4 ?side5 ?side6 A24.out).mono ?_); (case side1 => repeat (first | exact (Kd.R_reads' HO_0.out).2.2 | (with_reducible refine Kd.C_alloc ?_ _) | (with_reducible refine Kd.C_drewN ?_ _) | (with_reducible refine Kd.C_drew ?_))); (case side2 => exact (Kd.R_reads' HO_0.out).2.1); (case side3 => repeat (first | exact (Kd.R_reads' HO_1.out).2.2 | (with_reducible refine Kd.C_alloc ?_ _) | (with_reducible refine Kd.C_drewN ?_ _) | (with_reducible refine Kd.C_drew ?_))); (case side4 => exact (Kd.R_reads' HO_1.out).2.1); (case side5 => repeat (first | exact (Kd.R_reads' HO_9.out).2.2 | (with_reducible refine Kd.C_alloc ?_ _) | (with_reducible refine Kd.C_drewN ?_ _) | (with_reducible refine Kd.C_drew ?_))); (case side6 => exact (Kd.R_reads' HO_9.out).2.1); rintro e w29 ⟨v260, rfl, ho0, hb⟩; refine ⟨_, rfl, ?_⟩; have n0_ := Aside0.mk (Kd.R_below (by (with_reducible repeat (first | apply Kd.R_alloc | apply Kd.R_drewN | apply Kd.R_drew)); exact HO_0.out) hb); have n1_ := Aside0.mk (Kd.R_below (by (with_reducible repeat (first | apply Kd.R_alloc | apply Kd.R_drewN | apply Kd.R_drew)); exact HO_1.out) hb); have n2_ := Aside0.mk (Kd.R_below (by (with_reducible repeat (first | apply Kd.R_alloc | apply Kd.R_drewN | apply Kd.R_drew)); exact HO_2.out) hb); have n3_ := Aside0.mk (Kd.S_elder' (by (with_reducible repeat (first | apply Kd.S_alloc | apply Kd.S_drewN | apply Kd.S_drew)); exact HO_7.out) (Kd.S_base ho0) hb); have n4_ := Aside0.mk (Kd.R_below (by (with_reducible repeat (first | apply Kd.R_alloc | apply Kd.R_drewN | apply Kd.R_drew)); exact HO_9.out) hb); have n5_ := Aside0.mk (Kd.S_lower (Kd.S_new' (Kd.S_new' (Kd.S_new' ho0 (Kd.R_lt (by (with_reducible repeat (first | apply Kd.R_alloc | apply Kd.R_drewN | apply Kd.R_drew)); exact HO_0.out))) (Kd.R_lt (by (with_reducible repeat (first | apply Kd.R_alloc | apply Kd.R_drewN | apply Kd.R_drew)); exact HO_1.out))) (Kd.S_lt (by (with_reducible repeat (first | apply Kd.S_alloc | apply Kd.S_drewN | apply Kd.S_drew)); exact HO_7.out))) (below_size (by repeat (first | (with_reducible first | exact HB.out | apply below_alloc | apply pw_below_drewN | apply below_drew1) | exact HB.out)))); have n6_ := Aside0.mk (below_step (by repeat (first | (with_reducible first | exact HB.out | apply below_alloc | apply pw_below_drewN | apply below_drew1) | exact HB.out)) hb); clear HO_0; clear HO_1; clear HO_2; clear HO_7; clear HO_9; clear HB; have HO_0 := n0_; have HO_1 := n1_; have HO_2 := n2_; have HO_7 := n3_; have HO_9 := n4_; have HO261 := n5_; have HB := n6_; clear n0_ n1_ n2_ n3_ n4_ n5_ n6_; (try clear hb); (try clear hb2); (try clear hk); (try clear hi); (try clear ho0)))
            (try simp only [Act.put, List.setIfInBounds_toArray, List.set_cons_zero, List.set_cons_succ])
            go_cut [77] (fun v77 wc => ∃ (kq : Nat) (x77_26 : Bool), v77 = .bool x77_26 ∧ Aside0 (graftwoodlaw18_LackOrder.j1 kq t237 t240 t243 t246 t258 x77_26 = some r) ∧ Aside0 (kq ≤ k1) ∧ Aside0 (Kd.R k31 31 wc w.heap.size (fun k_ => some k_ ≠ ((.slice Ao12 t240.length co12) : Value).ownBlock) (.slice Ao11 t237.length co11) t237) ∧ Aside0 (Kd.R k31 31 wc w.heap.size (fun k_ => some k_ ≠ ((.slice Ao11 t237.length co11) : Value).ownBlock) (.slice Ao12 t240.length co12) t240) ∧ Aside0 (Kd.R k33 33 wc w.heap.size (fun _ => True) (.slice Ao13 t243.length co13) t243) ∧ Aside0 (Kd.S k37 37 wc w.heap.size (fun k_ => some k_ ≠ ((.slice Ao11 t237.length co11) : Value).ownBlock ∧ some k_ ≠ ((.slice Ao12 t240.length co12) : Value).ownBlock ∧ some k_ ≠ (v260 : Value).ownBlock) v248 t246) ∧ Aside0 (Kd.S k37 37 wc w.heap.size (fun k_ => some k_ ≠ ((.slice Ao11 t237.length co11) : Value).ownBlock ∧ some k_ ≠ ((.slice Ao12 t240.length co12) : Value).ownBlock ∧ some k_ ≠ (v248 : Value).ownBlock) v260 t258) ∧ Aside0 (Below w.heap.size w wc))
            case first =>
              have H := HC27.out
              clear HC27
              replace H := Option.bind_eq_some_iff.mp H
              obtain ⟨t263, A300, H⟩ := H
              replace H : (if t263 = true then (graftwoodlaw18_LackOrder.j1 k1 t237 t240 t243 t246 t258 ((t246.length : Int) == 0)) else (graftwoodlaw18_LackOrder.j1 k1 t237 t240 t243 t246 t258 true)) = some r := H
              have A30 := Aside0.mk A300
              clear A300
              by_cases c31 : t263 = true
              · subst c31
                have H1 : (graftwoodlaw18_LackOrder.j1 k1 t237 t240 t243 t246 t258 ((t246.length : Int) == 0)) = some r := by rw [if_pos rfl] at H; exact H
                clear H
                have H := H1
                clear H1
                have H' := Aside0.mk H
                clear H
                obtain ⟨Ao32, co32, eo32⟩ := Kd.S_slice HO_7.out
                subst eo32
                obtain ⟨Ao33, co33, eo33⟩ := Kd.S_slice HO261.out
                subst eo33
                go_wp2_with (first | ((with_reducible refine gate_callee (f := 10) rfl ?_); refine goesL_ (some 71) rfl rfl Tryd.func10 (by kernel_rfl) rfl #[.slice Ao32 t246.length co32, .slice Ao33 t258.length co33] rfl (by (try simp only [List.map_toArray, List.map_cons, List.map_nil]); first | done | rfl | (simp only [List.length_drop, List.length_take]; rfl)) ?_; (with_reducible refine (graftwoodref18_Same.calls k1 _ _ t246 _ _ t258 true _ ?side1 ?side2 ?side3 ?side4 A30.out).mono ?_); (case side1 => repeat (first | exact (Kd.S_reads' HO_7.out).2.2 | (with_reducible refine Kd.C_alloc ?_ _) | (with_reducible refine Kd.C_drewN ?_ _) | (with_reducible refine Kd.C_drew ?_))); (case side2 => exact (Kd.S_reads' HO_7.out).2.1); (case side3 => repeat (first | exact (Kd.S_reads' HO261.out).2.2 | (with_reducible refine Kd.C_alloc ?_ _) | (with_reducible refine Kd.C_drewN ?_ _) | (with_reducible refine Kd.C_drew ?_))); (case side4 => exact (Kd.S_reads' HO261.out).2.1); rintro e w34 ⟨rfl, hb⟩; refine ⟨_, rfl, ?_⟩; have n0_ := Aside0.mk (Kd.R_below (by (with_reducible repeat (first | apply Kd.R_alloc | apply Kd.R_drewN | apply Kd.R_drew)); exact HO_0.out) hb); have n1_ := Aside0.mk (Kd.R_below (by (with_reducible repeat (first | apply Kd.R_alloc | apply Kd.R_drewN | apply Kd.R_drew)); exact HO_1.out) hb); have n2_ := Aside0.mk (Kd.R_below (by (with_reducible repeat (first | apply Kd.R_alloc | apply Kd.R_drewN | apply Kd.R_drew)); exact HO_2.out) hb); have n3_ := Aside0.mk (Kd.S_below (by (with_reducible repeat (first | apply Kd.S_alloc | apply Kd.S_drewN | apply Kd.S_drew)); exact HO_7.out) hb); have n4_ := Aside0.mk (Kd.R_below (by (with_reducible repeat (first | apply Kd.R_alloc | apply Kd.R_drewN | apply Kd.R_drew)); exact HO_9.out) hb); have n5_ := Aside0.mk (Kd.S_below (by (with_reducible repeat (first | apply Kd.S_alloc | apply Kd.S_drewN | apply Kd.S_drew)); exact HO261.out) hb); have n6_ := Aside0.mk (below_step (by repeat (first | (with_reducible first | exact HB.out | apply below_alloc | apply pw_below_drewN | apply below_drew1) | exact HB.out)) hb); clear HO_0; clear HO_1; clear HO_2; clear HO_7; clear HO_9; clear HO261; clear HB; have HO_0 := n0_; have HO_1 := n1_; have HO_2 := n2_; have HO_7 := n3_; have HO_9 := n4_; have HO261 := n5_; have HB := n6_; clear n0_ n1_ n2_ n3_ n4_ n5_ n6_; (try clear hb); (try clear hb2); (try clear hk); (try clear hi)))
                go_meet
                case rel => exact ⟨_, (((t246.length : Int) == 0)), (by first | rfl | (simp; done) | (simp [*]; done)), H', ⟨by have := HK1.out; first | omega | exact Nat.le_refl _⟩, ⟨by (with_reducible repeat (first | apply Kd.R_alloc | apply Kd.R_drewN | apply Kd.R_drew)); exact HO_0.out⟩, ⟨by (with_reducible repeat (first | apply Kd.R_alloc | apply Kd.R_drewN | apply Kd.R_drew)); exact HO_1.out⟩, ⟨by (with_reducible repeat (first | apply Kd.R_alloc | apply Kd.R_drewN | apply Kd.R_drew)); exact Kd.R_mono HO_2.out (fun _ hk => trivial)⟩, ⟨by (with_reducible repeat (first | apply Kd.S_alloc | apply Kd.S_drewN | apply Kd.S_drew)); exact Kd.S_mono HO_7.out (fun _ hk => ⟨hk.1.1, ⟨hk.1.2, hk.2⟩⟩)⟩, ⟨by (with_reducible repeat (first | apply Kd.S_alloc | apply Kd.S_drewN | apply Kd.S_drew)); exact Kd.S_mono HO261.out (fun _ hk => ⟨hk.1.1.2, ⟨hk.1.2, hk.2⟩⟩)⟩, ⟨by repeat (first | (with_reducible first | exact HB.out | apply below_alloc | apply pw_below_drewN | apply below_drew1) | exact HB.out)⟩⟩
              · replace c31 := Bool.eq_false_iff.mpr c31
                subst c31
                have H1 : (graftwoodlaw18_LackOrder.j1 k1 t237 t240 t243 t246 t258 true) = some r := by rw [if_neg (show ¬ (false = true) by decide)] at H; exact H
                clear H
                have H := H1
                clear H1
                have H' := Aside0.mk H
                clear H
                obtain ⟨Ao35, co35, eo35⟩ := Kd.S_slice HO_7.out
                subst eo35
                obtain ⟨Ao36, co36, eo36⟩ := Kd.S_slice HO261.out
                subst eo36
                go_wp2_with (first | ((with_reducible refine gate_callee (f := 10) rfl ?_); refine goesL_ (some 71) rfl rfl Tryd.func10 (by kernel_rfl) rfl #[.slice Ao35 t246.length co35, .slice Ao36 t258.length co36] rfl (by (try simp only [List.map_toArray, List.map_cons, List.map_nil]); first | done | rfl | (simp only [List.length_drop, List.length_take]; rfl)) ?_; (with_reducible refine (graftwoodref18_Same.calls k1 _ _ t246 _ _ t258 false _ ?side1 ?side2 ?side3 ?side4 A30.out).mono ?_); (case side1 => repeat (first | exact (Kd.S_reads' HO_7.out).2.2 | (with_reducible refine Kd.C_alloc ?_ _) | (with_reducible refine Kd.C_drewN ?_ _) | (with_reducible refine Kd.C_drew ?_))); (case side2 => exact (Kd.S_reads' HO_7.out).2.1); (case side3 => repeat (first | exact (Kd.S_reads' HO261.out).2.2 | (with_reducible refine Kd.C_alloc ?_ _) | (with_reducible refine Kd.C_drewN ?_ _) | (with_reducible refine Kd.C_drew ?_))); (case side4 => exact (Kd.S_reads' HO261.out).2.1); rintro e w37 ⟨rfl, hb⟩; refine ⟨_, rfl, ?_⟩; have n0_ := Aside0.mk (Kd.R_below (by (with_reducible repeat (first | apply Kd.R_alloc | apply Kd.R_drewN | apply Kd.R_drew)); exact HO_0.out) hb); have n1_ := Aside0.mk (Kd.R_below (by (with_reducible repeat (first | apply Kd.R_alloc | apply Kd.R_drewN | apply Kd.R_drew)); exact HO_1.out) hb); have n2_ := Aside0.mk (Kd.R_below (by (with_reducible repeat (first | apply Kd.R_alloc | apply Kd.R_drewN | apply Kd.R_drew)); exact HO_2.out) hb); have n3_ := Aside0.mk (Kd.S_below (by (with_reducible repeat (first | apply Kd.S_alloc | apply Kd.S_drewN | apply Kd.S_drew)); exact HO_7.out) hb); have n4_ := Aside0.mk (Kd.R_below (by (with_reducible repeat (first | apply Kd.R_alloc | apply Kd.R_drewN | apply Kd.R_drew)); exact HO_9.out) hb); have n5_ := Aside0.mk (Kd.S_below (by (with_reducible repeat (first | apply Kd.S_alloc | apply Kd.S_drewN | apply Kd.S_drew)); exact HO261.out) hb); have n6_ := Aside0.mk (below_step (by repeat (first | (with_reducible first | exact HB.out | apply below_alloc | apply pw_below_drewN | apply below_drew1) | exact HB.out)) hb); clear HO_0; clear HO_1; clear HO_2; clear HO_7; clear HO_9; clear HO261; clear HB; have HO_0 := n0_; have HO_1 := n1_; have HO_2 := n2_; have HO_7 := n3_; have HO_9 := n4_; have HO261 := n5_; have HB := n6_; clear n0_ n1_ n2_ n3_ n4_ n5_ n6_; (try clear hb); (try clear hb2); (try clear hk); (try clear hi)))
                go_meet
                case rel => exact ⟨_, (true), (by first | rfl | (simp; done) | (simp [*]; done)), H', ⟨by have := HK1.out; first | omega | exact Nat.le_refl _⟩, ⟨by (with_reducible repeat (first | apply Kd.R_alloc | apply Kd.R_drewN | apply Kd.R_drew)); exact HO_0.out⟩, ⟨by (with_reducible repeat (first | apply Kd.R_alloc | apply Kd.R_drewN | apply Kd.R_drew)); exact HO_1.out⟩, ⟨by (with_reducible repeat (first | apply Kd.R_alloc | apply Kd.R_drewN | apply Kd.R_drew)); exact Kd.R_mono HO_2.out (fun _ hk => trivial)⟩, ⟨by (with_reducible repeat (first | apply Kd.S_alloc | apply Kd.S_drewN | apply Kd.S_drew)); exact Kd.S_mono HO_7.out (fun _ hk => ⟨hk.1.1, ⟨hk.1.2, hk.2⟩⟩)⟩, ⟨by (with_reducible repeat (first | apply Kd.S_alloc | apply Kd.S_drewN | apply Kd.S_drew)); exact Kd.S_mono HO261.out (fun _ hk => ⟨hk.1.1.2, ⟨hk.1.2, hk.2⟩⟩)⟩, ⟨by repeat (first | (with_reducible first | exact HB.out | apply below_alloc | apply pw_below_drewN | apply below_drew1) | exact HB.out)⟩⟩
            case rest =>
              clear HC27
              try clear c1
              try clear c2
              try clear p2
              try clear q2
              try clear hx2
              try clear c3
              try clear c4
              try clear c6
              try clear p6
              try clear c7
              try clear c8
              try clear c10
              try clear c15
              try clear c15b0
              try clear c16
              try clear c16b0
              try clear c17
              try clear c17b0
              try clear c18
              try clear c25
              try clear c25b0
              try clear c25b1
              try clear p25
              try clear q25
              try clear hx25
              try clear c26
              try clear c26b0
              try clear c26b1
              try clear c31
              try clear hx250_0
              try clear hx250_1
              try clear hx250_2
              try clear hx250_3
              try clear hx251_0
              try clear hx251_1
              try clear hx251_2
              try clear hx251_3
              try clear p2
              try clear p250
              try clear p251
              try clear p6
              try clear q250
              try clear q251
              obtain ⟨kq, x77_26, rfl, HA, HJ26, HO_0, HO_1, HO_2, HO_7, HO_11, HB⟩ := hcut
              cases kq with
              | zero => exact absurd HA.out (by simp [graftwoodlaw18_LackOrder.j1])
              | succ kj26 =>
                have H := HA.out
                clear HA
                simp only [graftwoodlaw18_LackOrder.j1] at H
                by_cases c38 : x77_26 = true
                · subst c38
                  have H1 : ((graftwoodref18_Same.f kj26 t246 t258).bind fun t264 => (if t264 = true then ((graftwoodlaw18_awake.f).bind fun t265 => (some t265)) else (some false))) = some r := by rw [if_pos rfl] at H; exact H
                  clear H
                  have H := H1
                  clear H1
                  replace H := Option.bind_eq_some_iff.mp H
                  obtain ⟨t264, A390, H⟩ := H
                  replace H : (if t264 = true then ((graftwoodlaw18_awake.f).bind fun t265 => (some t265)) else (some false)) = some r := H
                  have A39 := Aside0.mk A390
                  clear A390
                  by_cases c40 : t264 = true
                  · subst c40
                    have H1 : ((graftwoodlaw18_awake.f).bind fun t265 => (some t265)) = some r := by rw [if_pos rfl] at H; exact H
                    clear H
                    have H := H1
                    clear H1
                    replace H := Option.bind_eq_some_iff.mp H
                    obtain ⟨t265, A410, H⟩ := H
                    replace H : (some t265) = some r := H
                    have A41 := Aside0.mk A410
                    clear A410
                    obtain rfl := Option.some.inj H
                    obtain ⟨Ao42, co42, eo42⟩ := Kd.S_slice HO_7.out
                    subst eo42
                    obtain ⟨Ao43, co43, eo43⟩ := Kd.S_slice HO_11.out
                    subst eo43
                    go_wp2_with (first | ((with_reducible refine gate_callee (f := 10) rfl ?_); refine goesL_ (some 80) rfl rfl Tryd.func10 (by kernel_rfl) rfl #[.slice Ao42 t246.length co42, .slice Ao43 t258.length co43] rfl (by (try simp only [List.map_toArray, List.map_cons, List.map_nil]); first | done | rfl | (simp only [List.length_drop, List.length_take]; rfl)) ?_; (with_reducible refine (graftwoodref18_Same.calls kj26 _ _ t246 _ _ t258 true _ ?side1 ?side2 ?side3 ?side4 A39.out).mono ?_); (case side1 => repeat (first | exact (Kd.S_reads' HO_7.out).2.2 | (with_reducible refine Kd.C_alloc ?_ _) | (with_reducible refine Kd.C_drewN ?_ _) | (with_reducible refine Kd.C_drew ?_))); (case side2 => exact (Kd.S_reads' HO_7.out).2.1); (case side3 => repeat (first | exact (Kd.S_reads' HO_11.out).2.2 | (with_reducible refine Kd.C_alloc ?_ _) | (with_reducible refine Kd.C_drewN ?_ _) | (with_reducible refine Kd.C_drew ?_))); (case side4 => exact (Kd.S_reads' HO_11.out).2.1); rintro e w44 ⟨rfl, hb⟩; refine ⟨_, rfl, ?_⟩; have n0_ := Aside0.mk (Kd.R_below (by (with_reducible repeat (first | apply Kd.R_alloc | apply Kd.R_drewN | apply Kd.R_drew)); exact HO_0.out) hb); have n1_ := Aside0.mk (Kd.R_below (by (with_reducible repeat (first | apply Kd.R_alloc | apply Kd.R_drewN | apply Kd.R_drew)); exact HO_1.out) hb); have n2_ := Aside0.mk (Kd.R_below (by (with_reducible repeat (first | apply Kd.R_alloc | apply Kd.R_drewN | apply Kd.R_drew)); exact HO_2.out) hb); have n3_ := Aside0.mk (Kd.S_below (by (with_reducible repeat (first | apply Kd.S_alloc | apply Kd.S_drewN | apply Kd.S_drew)); exact HO_7.out) hb); have n4_ := Aside0.mk (Kd.S_below (by (with_reducible repeat (first | apply Kd.S_alloc | apply Kd.S_drewN | apply Kd.S_drew)); exact HO_11.out) hb); have n5_ := Aside0.mk (below_step (by repeat (first | (with_reducible first | exact HB.out | apply below_alloc | apply pw_below_drewN | apply below_drew1) | exact HB.out)) hb); clear HO_0; clear HO_1; clear HO_2; clear HO_7; clear HO_11; clear HB; have HO_0 := n0_; have HO_1 := n1_; have HO_2 := n2_; have HO_7 := n3_; have HO_11 := n4_; have HB := n5_; clear n0_ n1_ n2_ n3_ n4_ n5_; (try clear hb); (try clear hb2); (try clear hk); (try clear hi)) | (go_at_call 9; (with_reducible refine (graftwoodlaw18_awake.calls  t265 _ A41.out HR_).mono ?_); rintro e w45 ⟨rfl, hb⟩; have n0_ := Aside0.mk (Kd.R_below (by (with_reducible repeat (first | apply Kd.R_alloc | apply Kd.R_drewN | apply Kd.R_drew)); exact HO_0.out) hb); have n1_ := Aside0.mk (Kd.R_below (by (with_reducible repeat (first | apply Kd.R_alloc | apply Kd.R_drewN | apply Kd.R_drew)); exact HO_1.out) hb); have n2_ := Aside0.mk (Kd.R_below (by (with_reducible repeat (first | apply Kd.R_alloc | apply Kd.R_drewN | apply Kd.R_drew)); exact HO_2.out) hb); have n3_ := Aside0.mk (Kd.S_below (by (with_reducible repeat (first | apply Kd.S_alloc | apply Kd.S_drewN | apply Kd.S_drew)); exact HO_7.out) hb); have n4_ := Aside0.mk (Kd.S_below (by (with_reducible repeat (first | apply Kd.S_alloc | apply Kd.S_drewN | apply Kd.S_drew)); exact HO_11.out) hb); have n5_ := Aside0.mk (below_step (by repeat (first | (with_reducible first | exact HB.out | apply below_alloc | apply pw_below_drewN | apply below_drew1) | exact HB.out)) hb); clear HO_0; clear HO_1; clear HO_2; clear HO_7; clear HO_11; clear HB; have HO_0 := n0_; have HO_1 := n1_; have HO_2 := n2_; have HO_7 := n3_; have HO_11 := n4_; have HB := n5_; clear n0_ n1_ n2_ n3_ n4_ n5_; (try clear hb); (try clear hb2); (try clear hk); (try clear hi)))
                    go_ret
                    exact ⟨by first | rfl | (simp [errW_none, errW_some] <;> rfl) | (simp [*, errW_none, errW_some] <;> rfl), by repeat (first | (with_reducible first | exact HB.out | apply below_alloc | apply pw_below_drewN | apply below_drew1) | exact HB.out)⟩
                  · replace c40 := Bool.eq_false_iff.mpr c40
                    subst c40
                    have H1 : (some false) = some r := by rw [if_neg (show ¬ (false = true) by decide)] at H; exact H
                    clear H
                    have H := H1
                    clear H1
                    exact absurd ((Option.some.inj H).trans HR_.out) (by decide)
                · replace c38 := Bool.eq_false_iff.mpr c38
                  subst c38
                  have H1 : ((graftwoodlaw18_Few.f kj26 t243).bind fun t266 => (if 0 < (t246.length : Int) then ((some (([(⟨(⟨(⟨#[]⟩ : ByteArray), (⟨#[]⟩ : ByteArray)⟩ : S31), (⟨(rd_T37 t246 0).f0.f0, (rd_T37 t246 0).f0.f1⟩ : S31)⟩ : S33)] : List (S33)) : List (S33))).bind fun y270 => (if t266.length + y270.length < 2199023255552 then ((lack_Of.f t237 t240 (t266 ++ y270)).bind fun bt276 => (if bt276.2 = 0 then (if (bt276.1.length : Int) = (t246.length : Int) then (if 0 < (bt276.1.length : Int) then (if (rd_T37 bt276.1 0).f2 = true then ((graftwoodref05_Same.f kj26 ((rd_T37 bt276.1 0).f1) ((rd_T37 t246 0).f1)).bind fun t283 => (if t283 = true then (if 1 ≤ (bt276.1.length : Int) then (if 1 ≤ (t246.length : Int) then ((graftwoodref18_Same.f kj26 (bt276.1.drop 1) (t246.drop 1)).bind fun t292 => (if t292 = true then ((graftwoodlaw18_awake.f).bind fun t293 => (some t293)) else (some false))) else (none)) else (none)) else (some false))) else (some false)) else (none)) else (some false)) else (some false))) else (none))) else (none))) = some r := by rw [if_neg (show ¬ (false = true) by decide)] at H; exact H
                  clear H
                  have H := H1
                  clear H1
                  replace H := Option.bind_eq_some_iff.mp H
                  obtain ⟨t266, A460, H⟩ := H
                  replace H : (if 0 < (t246.length : Int) then ((some (([(⟨(⟨(⟨#[]⟩ : ByteArray), (⟨#[]⟩ : ByteArray)⟩ : S31), (⟨(rd_T37 t246 0).f0.f0, (rd_T37 t246 0).f0.f1⟩ : S31)⟩ : S33)] : List (S33)) : List (S33))).bind fun y270 => (if t266.length + y270.length < 2199023255552 then ((lack_Of.f t237 t240 (t266 ++ y270)).bind fun bt276 => (if bt276.2 = 0 then (if (bt276.1.length : Int) = (t246.length : Int) then (if 0 < (bt276.1.length : Int) then (if (rd_T37 bt276.1 0).f2 = true then ((graftwoodref05_Same.f kj26 ((rd_T37 bt276.1 0).f1) ((rd_T37 t246 0).f1)).bind fun t283 => (if t283 = true then (if 1 ≤ (bt276.1.length : Int) then (if 1 ≤ (t246.length : Int) then ((graftwoodref18_Same.f kj26 (bt276.1.drop 1) (t246.drop 1)).bind fun t292 => (if t292 = true then ((graftwoodlaw18_awake.f).bind fun t293 => (some t293)) else (some false))) else (none)) else (none)) else (some false))) else (some false)) else (none)) else (some false)) else (some false))) else (none))) else (none)) = some r := H
                  have A46 := Aside0.mk A460
                  clear A460
                  by_cases c47 : 0 < (t246.length : Int)
                  · rw [if_pos c47] at H
                    have c47b0 : decide (0 < (t246.length : Int)) = true := decide_eq_true c47
                    have c47b1 : decide (0 < t246.length) = true := decide_eq_true (by omega)
                    clear c47
                    obtain ⟨y270, hy270⟩ : ∃ y_ : List (S33), y_ = (([(⟨(⟨(⟨#[]⟩ : ByteArray), (⟨#[]⟩ : ByteArray)⟩ : S31), (⟨(rd_T37 t246 0).f0.f0, (rd_T37 t246 0).f0.f1⟩ : S31)⟩ : S33)] : List (S33))) := ⟨_, rfl⟩
                    replace H : (if t266.length + y270.length < 2199023255552 then ((lack_Of.f t237 t240 (t266 ++ y270)).bind fun bt276 => (if bt276.2 = 0 then (if (bt276.1.length : Int) = (t246.length : Int) then (if 0 < (bt276.1.length : Int) then (if (rd_T37 bt276.1 0).f2 = true then ((graftwoodref05_Same.f kj26 ((rd_T37 bt276.1 0).f1) ((rd_T37 t246 0).f1)).bind fun t283 => (if t283 = true then (if 1 ≤ (bt276.1.length : Int) then (if 1 ≤ (t246.length : Int) then ((graftwoodref18_Same.f kj26 (bt276.1.drop 1) (t246.drop 1)).bind fun t292 => (if t292 = true then ((graftwoodlaw18_awake.f).bind fun t293 => (some t293)) else (some false))) else (none)) else (none)) else (some false))) else (some false)) else (none)) else (some false)) else (some false))) else (none)) = some r := by first | (rw [hy270]; with_reducible exact H) | (have H2_ := (Option.bind_some _ _).symm.trans H; rw [hy270]; with_reducible exact H2_) | (have H2_ := (Option.bind_some _ _).symm.trans H; with_reducible exact H2_) | with_reducible exact H | (rw [hy270]; exact H) | exact H
                    have Ny270 := Aside0.mk hy270
                    clear hy270
                    by_cases c48 : t266.length + y270.length < 2199023255552
                    · rw [if_pos c48] at H
                      have LMc48 := Aside0.mk c48
                      clear c48
                      obtain ⟨y273, hy273⟩ : ∃ y_ : List (S33), y_ = (t266 ++ y270) := ⟨_, rfl⟩
                      replace H : ((lack_Of.f t237 t240 y273).bind fun bt276 => (if bt276.2 = 0 then (if (bt276.1.length : Int) = (t246.length : Int) then (if 0 < (bt276.1.length : Int) then (if (rd_T37 bt276.1 0).f2 = true then ((graftwoodref05_Same.f kj26 ((rd_T37 bt276.1 0).f1) ((rd_T37 t246 0).f1)).bind fun t283 => (if t283 = true then (if 1 ≤ (bt276.1.length : Int) then (if 1 ≤ (t246.length : Int) then ((graftwoodref18_Same.f kj26 (bt276.1.drop 1) (t246.drop 1)).bind fun t292 => (if t292 = true then ((graftwoodlaw18_awake.f).bind fun t293 => (some t293)) else (some false))) else (none)) else (none)) else (some false))) else (some false)) else (none)) else (some false)) else (some false))) = some r := by first | (rw [hy273]; with_reducible exact H) | (have H2_ := (Option.bind_some _ _).symm.trans H; rw [hy273]; with_reducible exact H2_) | (have H2_ := (Option.bind_some _ _).symm.trans H; with_reducible exact H2_) | with_reducible exact H | (rw [hy273]; exact H) | exact H
                      have Ny273 := Aside0.mk hy273
                      clear hy273
                      replace H := Option.bind_eq_some_iff.mp H
                      obtain ⟨⟨t276, t277⟩, A490, H⟩ := H
                      replace H : (if t277 = 0 then (if (t276.length : Int) = (t246.length : Int) then (if 0 < (t276.length : Int) then (if (rd_T37 t276 0).f2 = true then ((graftwoodref05_Same.f kj26 ((rd_T37 t276 0).f1) ((rd_T37 t246 0).f1)).bind fun t283 => (if t283 = true then (if 1 ≤ (t276.length : Int) then (if 1 ≤ (t246.length : Int) then ((graftwoodref18_Same.f kj26 (t276.drop 1) (t246.drop 1)).bind fun t292 => (if t292 = true then ((graftwoodlaw18_awake.f).bind fun t293 => (some t293)) else (some false))) else (none)) else (none)) else (some false))) else (some false)) else (none)) else (some false)) else (some false)) = some r := H
                      have A49 := Aside0.mk A490
                      clear A490
                      by_cases c50 : t277 = 0
                      · rw [if_pos c50] at H
                        have c50b0 : (t277 == 0) = true := beq_iff_eq.mpr c50
                        have c50b1 : (t277 != 0) = false := bne_eq_false_iff_eq.mpr c50
                        clear c50
                        by_cases c51 : (t276.length : Int) = (t246.length : Int)
                        · rw [if_pos c51] at H
                          have c51b0 : ((t276.length : Int) == (t246.length : Int)) = true := beq_iff_eq.mpr c51
                          have c51b1 : ((t276.length : Int) != (t246.length : Int)) = false := bne_eq_false_iff_eq.mpr c51
                          have c51b2 : (t276.length == t246.length) = true := by first | simpa using c51 | (simp at c51 ⊢; omega)
                          clear c51
                          by_cases c52 : 0 < (t276.length : Int)
                          · rw [if_pos c52] at H
                            have c52b0 : decide (0 < (t276.length : Int)) = true := decide_eq_true c52
                            have c52b1 : decide (0 < t276.length) = true := decide_eq_true (by omega)
                            clear c52
                            obtain ⟨bq53, hbq53⟩ : ∃ b_ : Bool, b_ = ((rd_T37 t276 0).f2) := ⟨_, rfl⟩
                            replace H : (if bq53 = true then ((graftwoodref05_Same.f kj26 ((rd_T37 t276 0).f1) ((rd_T37 t246 0).f1)).bind fun t283 => (if t283 = true then (if 1 ≤ (t276.length : Int) then (if 1 ≤ (t246.length : Int) then ((graftwoodref18_Same.f kj26 (t276.drop 1) (t246.drop 1)).bind fun t292 => (if t292 = true then ((graftwoodlaw18_awake.f).bind fun t293 => (some t293)) else (some false))) else (none)) else (none)) else (some false))) else (some false)) = some r := by rw [← hbq53] at H; exact H
                            have Nbq53 := Aside0.mk hbq53
                            clear hbq53
                            by_cases c54 : bq53 = true
                            · subst c54
                              have H1 : ((graftwoodref05_Same.f kj26 ((rd_T37 t276 0).f1) ((rd_T37 t246 0).f1)).bind fun t283 => (if t283 = true then (if 1 ≤ (t276.length : Int) then (if 1 ≤ (t246.length : Int) then ((graftwoodref18_Same.f kj26 (t276.drop 1) (t246.drop 1)).bind fun t292 => (if t292 = true then ((graftwoodlaw18_awake.f).bind fun t293 => (some t293)) else (some false))) else (none)) else (none)) else (some false))) = some r := by rw [if_pos rfl] at H; exact H
                              clear H
                              have H := H1
                              clear H1
                              replace H := Option.bind_eq_some_iff.mp H
                              obtain ⟨t283, A550, H⟩ := H
                              replace H : (if t283 = true then (if 1 ≤ (t276.length : Int) then (if 1 ≤ (t246.length : Int) then ((graftwoodref18_Same.f kj26 (t276.drop 1) (t246.drop 1)).bind fun t292 => (if t292 = true then ((graftwoodlaw18_awake.f).bind fun t293 => (some t293)) else (some false))) else (none)) else (none)) else (some false)) = some r := H
                              have A55 := Aside0.mk A550
                              clear A550
                              by_cases c56 : t283 = true
                              · subst c56
                                have H1 : (if 1 ≤ (t276.length : Int) then (if 1 ≤ (t246.length : Int) then ((graftwoodref18_Same.f kj26 (t276.drop 1) (t246.drop 1)).bind fun t292 => (if t292 = true then ((graftwoodlaw18_awake.f).bind fun t293 => (some t293)) else (some false))) else (none)) else (none)) = some r := by rw [if_pos rfl] at H; exact H
                                clear H
                                have H := H1
                                clear H1
                                by_cases c57 : 1 ≤ (t276.length : Int)
                                · rw [if_pos c57] at H
                                  have c57b0 := eq_true c57
                                  have c57b1 : decide (1 ≤ (t276.length : Int)) = true := decide_eq_true c57
                                  clear c57
                                  obtain ⟨y284, hy284⟩ : ∃ y_ : List (S37), y_ = (t276.drop 1) := ⟨_, rfl⟩
                                  replace H : (if 1 ≤ (t246.length : Int) then ((graftwoodref18_Same.f kj26 y284 (t246.drop 1)).bind fun t292 => (if t292 = true then ((graftwoodlaw18_awake.f).bind fun t293 => (some t293)) else (some false))) else (none)) = some r := by first | (rw [hy284]; with_reducible exact H) | (have H2_ := (Option.bind_some _ _).symm.trans H; rw [hy284]; with_reducible exact H2_) | (have H2_ := (Option.bind_some _ _).symm.trans H; with_reducible exact H2_) | with_reducible exact H | (rw [hy284]; exact H) | exact H
                                  have Ny284 := Aside0.mk hy284
                                  clear hy284
                                  by_cases c58 : 1 ≤ (t246.length : Int)
                                  · rw [if_pos c58] at H
                                    have c58b0 := eq_true c58
                                    have c58b1 : decide (1 ≤ (t246.length : Int)) = true := decide_eq_true c58
                                    clear c58
                                    obtain ⟨y288, hy288⟩ : ∃ y_ : List (S37), y_ = (t246.drop 1) := ⟨_, rfl⟩
                                    replace H : ((graftwoodref18_Same.f kj26 y284 y288).bind fun t292 => (if t292 = true then ((graftwoodlaw18_awake.f).bind fun t293 => (some t293)) else (some false))) = some r := by first | (rw [hy288]; with_reducible exact H) | (have H2_ := (Option.bind_some _ _).symm.trans H; rw [hy288]; with_reducible exact H2_) | (have H2_ := (Option.bind_some _ _).symm.trans H; with_reducible exact H2_) | with_reducible exact H | (rw [hy288]; exact H) | exact H
                                    have Ny288 := Aside0.mk hy288
                                    clear hy288
                                    replace H := Option.bind_eq_some_iff.mp H
                                    obtain ⟨t292, A590, H⟩ := H
                                    replace H : (if t292 = true then ((graftwoodlaw18_awake.f).bind fun t293 => (some t293)) else (some false)) = some r := H
                                    have A59 := Aside0.mk A590
                                    clear A590
                                    by_cases c60 : t292 = true
                                    · subst c60
                                      have H1 : ((graftwoodlaw18_awake.f).bind fun t293 => (some t293)) = some r := by rw [if_pos rfl] at H; exact H
                                      clear H
                                      have H := H1
                                      clear H1
                                      replace H := Option.bind_eq_some_iff.mp H
                                      obtain ⟨t293, A610, H⟩ := H
                                      replace H : (some t293) = some r := H
                                      have A61 := Aside0.mk A610
                                      clear A610
                                      obtain rfl := Option.some.inj H
                                      try go_wp2
                                      have n0_ := Aside0.mk (Kd.R_drew HO_0.out)
                                      have n1_ := Aside0.mk (Kd.R_drew HO_1.out)
                                      have n2_ := Aside0.mk (Kd.R_drew HO_2.out)
                                      have n3_ := Aside0.mk (Kd.S_drew HO_7.out)
                                      have n4_ := Aside0.mk (Kd.S_drew HO_11.out)
                                      have n5_ := Aside0.mk (below_drew1 HB.out)
                                      clear HO_0
                                      clear HO_1
                                      clear HO_2
                                      clear HO_7
                                      clear HO_11
                                      clear HB
                                      have HO_0 := n0_
                                      have HO_1 := n1_
                                      have HO_2 := n2_
                                      have HO_7 := n3_
                                      have HO_11 := n4_
                                      have HB := n5_
                                      clear n0_ n1_ n2_ n3_ n4_ n5_
                                      obtain ⟨Ao63, co63, eo63⟩ := Kd.S_slice HO_7.out
                                      (first | subst eo63 | (injection eo63 with f1_ f2_ f3_; have f4_ := f1_.symm; have f5_ := f3_.symm; clear f1_ f2_ f3_; subst f4_; subst f5_))
                                      have p269 : 0 ≤ (0 : Int) := (by omega)
                                      have q269 : 0 < (t246.length : Int) := of_decide_eq_true (by first | (with_reducible assumption) | assumption)
                                      obtain ⟨ad269, A269_2, c269_2, e269, hx269_0, hx269_1, hx269_2, hx269_3, hl269_2, hi269_2⟩ := at_T37 (Kd.S_reads' HO_7.out).2.2 0 p269 q269
                                      (try rw [← Nbq53.out] at hx269_3)
                                      cases e269
                                      obtain ⟨ce269, hce269, hMe269, hcc269⟩ := Kd.S_get HO_7.out z37 0 p269 (by first | exact q269 | exact of_decide_eq_true (by first | (with_reducible assumption) | assumption) | (have e_ := (Kd.S_reads' HO_7.out).1; omega))
                                      obtain ⟨ve269_2, rfl, ge269_2⟩ := k37_openM hMe269
                                      have hv269_2 := hcc269 2 _ rfl
                                      rw [add_field _ _ 2 (by omega)] at hv269_2
                                      replace hv269_2 := Option.some.inj (hv269_2.symm.trans hx269_2)
                                      rw [hv269_2] at ge269_2
                                      have HL269_2 := Aside0.mk (show Kd.R k31 31 _ _ _ _ ((rd_T37 t246 0).f1) from ge269_2)
                                      clear hv269_2 ge269_2
                                      clear hcc269 hce269
                                      have qi269 : (0 < t246.length) = True := eq_true (by omega)
                                      (try rw [show ((0 : Int)).toNat = 0 from rfl] at hx269_0)
                                      (try rw [show 0 * 4 = 0 from rfl] at hx269_0)
                                      (try rw [Addr.add_zero'] at hx269_0)
                                      (try rw [show ((0 : Int)).toNat = 0 from rfl] at hx269_1)
                                      (try rw [show 0 * 4 = 0 from rfl] at hx269_1)
                                      (try rw [Addr.add_zero'] at hx269_1)
                                      (try rw [show ((0 : Int)).toNat = 0 from rfl] at hx269_2)
                                      (try rw [show 0 * 4 = 0 from rfl] at hx269_2)
                                      (try rw [Addr.add_zero'] at hx269_2)
                                      (try rw [show ((0 : Int)).toNat = 0 from rfl] at hx269_3)
                                      (try rw [show 0 * 4 = 0 from rfl] at hx269_3)
                                      (try rw [Addr.add_zero'] at hx269_3)
                                      have HR269_2 := Aside0.mk hi269_2
                                      have HC269_2 := Aside0.mk hl269_2
                                      clear hi269_2 hl269_2
                                      replace p269 := eq_true p269
                                      replace q269 := eq_true q269
                                      refine start_ (n := 17) (S := fun w' => w'.cell? ad269 = some (.string ((rd_T37 t246 0).f0.f0)) ∧ w'.cell? ⟨ad269.block, ad269.off + 1, none⟩ = some (.string ((rd_T37 t246 0).f0.f1)) ∧ w'.cell? ⟨ad269.block, ad269.off + 2, none⟩ = some (.slice A269_2 ((rd_T37 t246 0).f1).length c269_2) ∧ w'.cell? ⟨ad269.block, ad269.off + 3, none⟩ = some (.bool ((rd_T37 t246 0).f2))) (ds := [10]) #[false, false, false, false, false, false, false, false, false, false, false, false, false, false, false, false, false] (by kernel_rfl) rfl rfl ⟨hx269_0, hx269_1, hx269_2, hx269_3⟩ (fun hHeld => ?_); refine with_tabW graftwoodlaw18_LackOrder.tab15 graftwoodlaw18_LackOrder.bits15 (fun HT_ HW_ => ?_)
                                      generalize wc.drew = w62 at HO_0 HO_1 HO_2 HO_7 HO_11 HB HL269_2 HR269_2 hx269_0 hx269_1 hx269_2 hx269_3 hHeld ⊢
                                      refine pure_ (i := 0) (N := some 85) (v := ?_) (a' := ?_) #[true, false, false, false, false, false, false, false, false, false, false, false, false, false, false, false, false] rfl rfl (any_of HT_.out (by kernel_rfl)) (fun _ _ _ h => h) (Or.inl ⟨by rfl, ?_⟩) ?_ ?_
                                      rotate_left
                                      · intro w'
                                        go_simp
                                        with_reducible rfl
                                      rotate_left
                                      · simp only [Act.put, List.setIfInBounds_toArray, List.set_cons_zero, List.set_cons_succ, i64_w, i32_w]
                                        rfl
                                      refine pure_ (i := 1) (N := some 86) (v := ?_) (a' := ?_) #[true, true, false, false, false, false, false, false, false, false, false, false, false, false, false, false, false] rfl rfl (any_of HT_.out (by kernel_rfl)) (fun _ _ _ h => h) (Or.inl ⟨by rfl, ?_⟩) ?_ ?_
                                      rotate_left
                                      · intro w'
                                        go_simp
                                        with_reducible rfl
                                      rotate_left
                                      · simp only [Act.put, List.setIfInBounds_toArray, List.set_cons_zero, List.set_cons_succ, i64_w, i32_w]
                                        rfl
                                      refine pure_ (i := 2) (N := some 87) (v := ?_) (a' := ?_) #[true, true, true, false, false, false, false, false, false, false, false, false, false, false, false, false, false] rfl rfl (any_of HT_.out (by kernel_rfl)) (fun _ _ _ h => h) (Or.inl ⟨by rfl, ?_⟩) ?_ ?_
                                      rotate_left
                                      · intro w'
                                        go_simp
                                        with_reducible rfl
                                      rotate_left
                                      · simp only [Act.put, List.setIfInBounds_toArray, List.set_cons_zero, List.set_cons_succ, i64_w, i32_w]
                                        rfl
                                      refine pure_ (i := 4) (N := some 89) (v := ?_) (a' := ?_) #[true, true, true, false, true, false, false, false, false, false, false, false, false, false, false, false, false] rfl rfl (any_of HT_.out (by kernel_rfl)) (fun _ _ _ h => h) (Or.inl ⟨by rfl, ?_⟩) ?_ ?_
                                      rotate_left
                                      · intro w'
                                        go_simp
                                        with_reducible rfl
                                      rotate_left
                                      · simp only [Act.put, List.setIfInBounds_toArray, List.set_cons_zero, List.set_cons_succ, i64_w, i32_w]
                                        rfl
                                      refine pure_ (i := 5) (N := some 90) (v := ?_) (a' := ?_) #[true, true, true, false, true, true, false, false, false, false, false, false, false, false, false, false, false] rfl rfl (any_of HT_.out (by kernel_rfl)) (fun _ _ _ h => h) (Or.inl ⟨by rfl, ?_⟩) ?_ ?_
                                      rotate_left
                                      · intro w'
                                        go_simp
                                        with_reducible rfl
                                      rotate_left
                                      · simp only [Act.put, List.setIfInBounds_toArray, List.set_cons_zero, List.set_cons_succ, i64_w, i32_w]
                                        rfl
                                      refine pure_ (i := 6) (N := some 91) (v := ?_) (a' := ?_) #[true, true, true, false, true, true, true, false, false, false, false, false, false, false, false, false, false] rfl rfl (any_of HT_.out (by kernel_rfl)) (fun _ _ _ h => h) (Or.inl ⟨by rfl, ?_⟩) ?_ ?_
                                      rotate_left
                                      · intro w'
                                        go_simp
                                        with_reducible rfl
                                      rotate_left
                                      · simp only [Act.put, List.setIfInBounds_toArray, List.set_cons_zero, List.set_cons_succ, i64_w, i32_w]
                                        rfl
                                      refine take_ (i := 7) (N := some 92) (v := ?_) (a' := ?_) #[true, true, true, false, true, true, true, true, false, false, false, false, false, false, false, false, false] rfl rfl (take_ofW HT_.out HW_.out (by kernel_rfl)) (fun _ _ _ h => h) (Or.inl ⟨by rfl, ?_⟩) hHeld ?_ ?_
                                      rotate_left
                                      · rintro w' ⟨s0, s1, s2, s3⟩
                                        go_simp
                                        with_reducible rfl
                                      rotate_left
                                      · simp only [Act.put, List.setIfInBounds_toArray, List.set_cons_zero, List.set_cons_succ, i64_w, i32_w]
                                        rfl
                                      refine pure_ (i := 8) (N := some 93) (v := ?_) (a' := ?_) #[true, true, true, false, true, true, true, true, true, false, false, false, false, false, false, false, false] rfl rfl (any_of HT_.out (by kernel_rfl)) (fun _ _ _ h => h) (Or.inl ⟨by rfl, ?_⟩) ?_ ?_
                                      rotate_left
                                      · intro w'
                                        go_simp
                                        with_reducible rfl
                                      rotate_left
                                      · simp only [Act.put, List.setIfInBounds_toArray, List.set_cons_zero, List.set_cons_succ, i64_w, i32_w]
                                        rfl
                                      refine join_ (σ := Value × Value) 7 #[true, true, true, true, true, true, true, true, true, true, false, false, false, false, false, false, false] (fun s_ => [(88, s_.1), (94, s_.2)]) (fun s_ w' => (w'.cell? ad269 = some (.string ((rd_T37 t246 0).f0.f0)) ∧ w'.cell? ⟨ad269.block, ad269.off + 1, none⟩ = some (.string ((rd_T37 t246 0).f0.f1)) ∧ w'.cell? ⟨ad269.block, ad269.off + 2, none⟩ = some (.slice A269_2 ((rd_T37 t246 0).f1).length c269_2) ∧ w'.cell? ⟨ad269.block, ad269.off + 3, none⟩ = some (.bool ((rd_T37 t246 0).f2))) ∧ (Kd.R k31 31 w' w.heap.size (fun k_ => some k_ ≠ (.slice Ao11 t237.length co11 : Value).ownBlock ∧ some k_ ≠ (.slice Ao12 t240.length co12 : Value).ownBlock ∧ some k_ ≠ (v260 : Value).ownBlock ∧ some k_ ≠ (.slice (some ad269) t246.length co63 : Value).ownBlock) (.slice A269_2 ((rd_T37 t246 0).f1).length c269_2) ((rd_T37 t246 0).f1)) ∧ (Kd.R k33 33 w' w.heap.size (fun k_ => some k_ ≠ (s_.2 : Value).ownBlock ∧ some k_ ≠ (.slice Ao13 t243.length co13 : Value).ownBlock) s_.1 t266) ∧ (Kd.R k33 33 w' w.heap.size (fun k_ => some k_ ≠ (s_.1 : Value).ownBlock ∧ some k_ ≠ (.slice Ao13 t243.length co13 : Value).ownBlock) s_.2 y270) ∧ (Kd.R k31 31 w' w.heap.size (fun k_ => some k_ ≠ (.slice Ao12 t240.length co12 : Value).ownBlock) (.slice Ao11 t237.length co11) t237) ∧ (Kd.R k31 31 w' w.heap.size (fun k_ => some k_ ≠ (.slice Ao11 t237.length co11 : Value).ownBlock) (.slice Ao12 t240.length co12) t240) ∧ (Kd.S k37 37 w' w.heap.size (fun k_ => some k_ ≠ (.slice Ao11 t237.length co11 : Value).ownBlock ∧ some k_ ≠ (.slice Ao12 t240.length co12 : Value).ownBlock ∧ some k_ ≠ (.slice (some ad269) t246.length co63 : Value).ownBlock) v260 t258) ∧ (Kd.R k33 33 w' w.heap.size (fun k_ => some k_ ≠ (s_.1 : Value).ownBlock ∧ some k_ ≠ (s_.2 : Value).ownBlock) (.slice Ao13 t243.length co13) t243) ∧ (Kd.S k37 37 w' w.heap.size (fun k_ => some k_ ≠ (.slice Ao11 t237.length co11 : Value).ownBlock ∧ some k_ ≠ (.slice Ao12 t240.length co12 : Value).ownBlock ∧ some k_ ≠ (v260 : Value).ownBlock) (.slice (some ad269) t246.length co63) t246) ∧ (Below w.heap.size w w')) ?_ ?_
                                      rotate_left
                                      · intro hCont
                                        refine two_ (i := 3) (j := 9) (Ni := some 88) (Nj := some 94) #[true, true, true, true, true, true, true, true, true, false, false, false, false, false, false, false, false] #[true, true, true, false, true, true, true, true, true, true, false, false, false, false, false, false, false] rfl rfl rfl rfl (two_of HT_.out (by kernel_rfl)) (by decide) (by decide) (fun K hK => ?_) (fun K hK => ?_)
                                        · skip
                                          refine goes_ Tryd.func7 (by kernel_rfl) rfl #[.slice Ao13 t243.length co13] (by rfl) rfl rfl (by (try simp only [List.map_toArray, List.map_cons, List.map_nil]); first | done | rfl | (simp only [List.length_drop, List.length_take]; rfl)) ?_
                                          with_reducible refine (graftwoodlaw18_Few.calls kj26 _ _ t243 t266 _ ?side1 ?side2 A46.out).mono ?_
                                          (case side1 => repeat (first | exact (Kd.R_reads' HO_2.out).2.2 | (with_reducible refine Kd.C_alloc ?_ _) | (with_reducible refine Kd.C_drewN ?_ _) | (with_reducible refine Kd.C_drew ?_)))
                                          (case side2 => exact (Kd.R_reads' HO_2.out).2.1)
                                          rintro e w64 ⟨v267, rfl, ho0, hb⟩
                                          have HS0_ := (hb.cell (World.block_lt_of_cell? _ _ (hHeld.1))).trans (hHeld.1)
                                          have HS1_ := (hb.cell (World.block_lt_of_cell? _ _ (hHeld.2.1))).trans (hHeld.2.1)
                                          have HS2_ := (hb.cell (World.block_lt_of_cell? _ _ (hHeld.2.2.1))).trans (hHeld.2.2.1)
                                          have HS3_ := (hb.cell (World.block_lt_of_cell? _ _ (hHeld.2.2.2))).trans (hHeld.2.2.2)
                                          refine ⟨_, rfl, ?_⟩
                                          have n0_ := Aside0.mk (Kd.R_below (by (with_reducible repeat (first | apply Kd.R_alloc | apply Kd.R_drewN | apply Kd.R_drew)); exact HO_0.out) hb)
                                          have n1_ := Aside0.mk (Kd.R_below (by (with_reducible repeat (first | apply Kd.R_alloc | apply Kd.R_drewN | apply Kd.R_drew)); exact HO_1.out) hb)
                                          have n2_ := Aside0.mk (Kd.R_elder' (by (with_reducible repeat (first | apply Kd.R_alloc | apply Kd.R_drewN | apply Kd.R_drew)); exact HO_2.out) (Kd.R_base ho0) hb)
                                          have n3_ := Aside0.mk (Kd.S_below (by (with_reducible repeat (first | apply Kd.S_alloc | apply Kd.S_drewN | apply Kd.S_drew)); exact HO_7.out) hb)
                                          have n4_ := Aside0.mk (Kd.S_below (by (with_reducible repeat (first | apply Kd.S_alloc | apply Kd.S_drewN | apply Kd.S_drew)); exact HO_11.out) hb)
                                          have n5_ := Aside0.mk (Kd.R_below (by (with_reducible repeat (first | apply Kd.R_alloc | apply Kd.R_drewN | apply Kd.R_drew)); exact HL269_2.out) hb)
                                          have n6_ := Aside0.mk (Kd.R_lower (Kd.R_new' ho0 (Kd.R_lt (by (with_reducible repeat (first | apply Kd.R_alloc | apply Kd.R_drewN | apply Kd.R_drew)); exact HO_2.out))) (below_size (by repeat (first | (with_reducible first | exact HB.out | apply below_alloc | apply pw_below_drewN | apply below_drew1) | exact HB.out))))
                                          have n7_ := Aside0.mk (Kd.C_below (by (with_reducible repeat (first | apply Kd.C_alloc | apply Kd.C_drewN | apply Kd.C_drew)); exact HR269_2.out) hb)
                                          have n8_ := Aside0.mk (below_step (by repeat (first | (with_reducible first | exact HB.out | apply below_alloc | apply pw_below_drewN | apply below_drew1) | exact HB.out)) hb)
                                          clear HO_0
                                          clear HO_1
                                          clear HO_2
                                          clear HO_7
                                          clear HO_11
                                          clear HL269_2
                                          clear HR269_2
                                          clear HB
                                          have HO_0 := n0_
                                          have HO_1 := n1_
                                          have HO_2 := n2_
                                          have HO_7 := n3_
                                          have HO_11 := n4_
                                          have HL269_2 := n5_
                                          have HO268 := n6_
                                          have HR269_2 := n7_
                                          have HB := n8_
                                          clear n0_ n1_ n2_ n3_ n4_ n5_ n6_ n7_ n8_
                                          (try clear hb)
                                          (try clear hb2)
                                          (try clear hk)
                                          (try clear hi)
                                          (try clear ho0)
                                          refine hK.out _ _ ⟨HS0_, HS1_, HS2_, HS3_⟩ (fun hHeld => ?_)
                                          clear hK K
                                          refine norm_ (a' := ?_) ?_ ?_
                                          rotate_left
                                          · show Act.put _ (some 88) _ = _
                                            simp only [Act.put, List.setIfInBounds_toArray, List.set_cons_zero, List.set_cons_succ, i64_w, i32_w]
                                            rfl
                                          refine one_ (i := 9) (N := some 94) #[true, true, true, true, true, true, true, true, true, true, false, false, false, false, false, false, false] rfl rfl (one_of HT_.out (by kernel_rfl)) (by decide) (fun K hK => ?_)
                                          refine Kd.R_lit_step k33 _ 33 ?hg (N := 94) ?hd (xs := ([(⟨(⟨(⟨#[]⟩ : ByteArray), (⟨#[]⟩ : ByteArray)⟩ : S31), (⟨(rd_T37 t246 0).f0.f0, (rd_T37 t246 0).f0.f1⟩ : S31)⟩ : S33)] : List (S33))) (inner := [.string (⟨#[]⟩ : ByteArray), .string (⟨#[]⟩ : ByteArray), .string ((rd_T37 t246 0).f0.f0), .string ((rd_T37 t246 0).f0.f1)]) (ok := fun _ => True) (okp := fun _ => True) ?hr ?hp (fun _ hk => hk) trivial (Below.refl _ _) (Nat.le_refl _) (by simp) ?_; (case hd => rfl); (case hg => rfl); (case hr => first | (go_simp; done) | (go_simp; rfl)); (case hp => exact (Reps.c4 (show Kd.M k33 _ _ _ (⟨(⟨(⟨#[]⟩ : ByteArray), (⟨#[]⟩ : ByteArray)⟩ : S31), (⟨(rd_T37 t246 0).f0.f0, (rd_T37 t246 0).f0.f1⟩ : S31)⟩ : S33) [.string (⟨#[]⟩ : ByteArray), .string (⟨#[]⟩ : ByteArray), .string ((rd_T37 t246 0).f0.f0), .string ((rd_T37 t246 0).f0.f1)] from (k33_mkM _ _ _ (⟨(⟨(⟨#[]⟩ : ByteArray), (⟨#[]⟩ : ByteArray)⟩ : S31), (⟨(rd_T37 t246 0).f0.f0, (rd_T37 t246 0).f0.f1⟩ : S31)⟩ : S33) )) (Reps.none _ _)))
                                          intro v271 w65 ho66 hb hg_ hnew_
                                          have HS0_ := (hb.cell (World.block_lt_of_cell? _ _ (hHeld.1))).trans (hHeld.1)
                                          have HS1_ := (hb.cell (World.block_lt_of_cell? _ _ (hHeld.2.1))).trans (hHeld.2.1)
                                          have HS2_ := (hb.cell (World.block_lt_of_cell? _ _ (hHeld.2.2.1))).trans (hHeld.2.2.1)
                                          have HS3_ := (hb.cell (World.block_lt_of_cell? _ _ (hHeld.2.2.2))).trans (hHeld.2.2.2)
                                          clear hg_ hnew_
                                          (first | rw [← Ny270.out] at ho66 | (simp only [Int.reduceToNat] at ho66; rw [← Ny270.out] at ho66))
                                          have n0_ := Aside0.mk (Kd.R_below (by (with_reducible repeat (first | apply Kd.R_alloc | apply Kd.R_drewN | apply Kd.R_drew)); exact HO_0.out) hb)
                                          have n1_ := Aside0.mk (Kd.R_below (by (with_reducible repeat (first | apply Kd.R_alloc | apply Kd.R_drewN | apply Kd.R_drew)); exact HO_1.out) hb)
                                          have n2_ := Aside0.mk (Kd.R_elder' (by (with_reducible repeat (first | apply Kd.R_alloc | apply Kd.R_drewN | apply Kd.R_drew)); exact HO_2.out) (Kd.R_base ho66) hb)
                                          have n3_ := Aside0.mk (Kd.S_below (by (with_reducible repeat (first | apply Kd.S_alloc | apply Kd.S_drewN | apply Kd.S_drew)); exact HO_7.out) hb)
                                          have n4_ := Aside0.mk (Kd.S_below (by (with_reducible repeat (first | apply Kd.S_alloc | apply Kd.S_drewN | apply Kd.S_drew)); exact HO_11.out) hb)
                                          have n5_ := Aside0.mk (Kd.R_below (by (with_reducible repeat (first | apply Kd.R_alloc | apply Kd.R_drewN | apply Kd.R_drew)); exact HL269_2.out) hb)
                                          have n6_ := Aside0.mk (Kd.R_elder' (by (with_reducible repeat (first | apply Kd.R_alloc | apply Kd.R_drewN | apply Kd.R_drew)); exact HO268.out) (Kd.R_base ho66) hb)
                                          have n7_ := Aside0.mk (Kd.R_lower (Kd.R_new' (Kd.R_new' ho66 (Kd.R_lt (by (with_reducible repeat (first | apply Kd.R_alloc | apply Kd.R_drewN | apply Kd.R_drew)); exact HO_2.out))) (Kd.R_lt (by (with_reducible repeat (first | apply Kd.R_alloc | apply Kd.R_drewN | apply Kd.R_drew)); exact HO268.out))) (below_size (by repeat (first | (with_reducible first | exact HB.out | apply below_alloc | apply pw_below_drewN | apply below_drew1) | exact HB.out))))
                                          have n8_ := Aside0.mk (Kd.C_below (by (with_reducible repeat (first | apply Kd.C_alloc | apply Kd.C_drewN | apply Kd.C_drew)); exact HR269_2.out) hb)
                                          have n9_ := Aside0.mk (below_step (by repeat (first | (with_reducible first | exact HB.out | apply below_alloc | apply pw_below_drewN | apply below_drew1) | exact HB.out)) hb)
                                          clear HO_0
                                          clear HO_1
                                          clear HO_2
                                          clear HO_7
                                          clear HO_11
                                          clear HL269_2
                                          clear HO268
                                          clear HR269_2
                                          clear HB
                                          have HO_0 := n0_
                                          have HO_1 := n1_
                                          have HO_2 := n2_
                                          have HO_7 := n3_
                                          have HO_11 := n4_
                                          have HL269_2 := n5_
                                          have HO268 := n6_
                                          have HO272 := n7_
                                          have HR269_2 := n8_
                                          have HB := n9_
                                          clear n0_ n1_ n2_ n3_ n4_ n5_ n6_ n7_ n8_ n9_
                                          clear hb ho66
                                          refine hK.out _ _ ⟨HS0_, HS1_, HS2_, HS3_⟩ (fun hHeld => ?_)
                                          clear hK K
                                          refine norm_ (a' := ?_) ?_ ?_
                                          rotate_left
                                          · show Act.put _ (some 94) _ = _
                                            simp only [Act.put, List.setIfInBounds_toArray, List.set_cons_zero, List.set_cons_succ, i64_w, i32_w]
                                            rfl
                                          exact norm_ (by simp only [putAll, Act.put, List.setIfInBounds_toArray, List.set_cons_zero, List.set_cons_succ]) (hCont (v267, v271) _ ⟨hHeld, (by (with_reducible repeat (first | apply Kd.R_alloc | apply Kd.R_drewN | apply Kd.R_drew)); exact Kd.R_mono HL269_2.out (fun _ hk => ⟨hk.1.1, ⟨hk.1.2.1, ⟨hk.1.2.2, hk.2⟩⟩⟩)), (by (with_reducible repeat (first | apply Kd.R_alloc | apply Kd.R_drewN | apply Kd.R_drew)); exact Kd.R_mono HO268.out (fun _ hk => ⟨hk.2, hk.1.2⟩)), (by (with_reducible repeat (first | apply Kd.R_alloc | apply Kd.R_drewN | apply Kd.R_drew)); exact Kd.R_mono HO272.out (fun _ hk => ⟨hk.2, hk.1.2⟩)), (by (with_reducible repeat (first | apply Kd.R_alloc | apply Kd.R_drewN | apply Kd.R_drew)); exact HO_0.out), (by (with_reducible repeat (first | apply Kd.R_alloc | apply Kd.R_drewN | apply Kd.R_drew)); exact HO_1.out), (by (with_reducible repeat (first | apply Kd.S_alloc | apply Kd.S_drewN | apply Kd.S_drew)); exact HO_11.out), (by (with_reducible repeat (first | apply Kd.R_alloc | apply Kd.R_drewN | apply Kd.R_drew)); exact Kd.R_mono HO_2.out (fun _ hk => ⟨hk.1.2, hk.2⟩)), (by (with_reducible repeat (first | apply Kd.S_alloc | apply Kd.S_drewN | apply Kd.S_drew)); exact HO_7.out), (by repeat (first | (with_reducible first | exact HB.out | apply below_alloc | apply pw_below_drewN | apply below_drew1) | exact HB.out))⟩)
                                        · skip
                                          refine Kd.R_lit_step k33 _ 33 ?hg (N := 94) ?hd (xs := ([(⟨(⟨(⟨#[]⟩ : ByteArray), (⟨#[]⟩ : ByteArray)⟩ : S31), (⟨(rd_T37 t246 0).f0.f0, (rd_T37 t246 0).f0.f1⟩ : S31)⟩ : S33)] : List (S33))) (inner := [.string (⟨#[]⟩ : ByteArray), .string (⟨#[]⟩ : ByteArray), .string ((rd_T37 t246 0).f0.f0), .string ((rd_T37 t246 0).f0.f1)]) (ok := fun _ => True) (okp := fun _ => True) ?hr ?hp (fun _ hk => hk) trivial (Below.refl _ _) (Nat.le_refl _) (by simp) ?_; (case hd => rfl); (case hg => rfl); (case hr => first | (go_simp; done) | (go_simp; rfl)); (case hp => exact (Reps.c4 (show Kd.M k33 _ _ _ (⟨(⟨(⟨#[]⟩ : ByteArray), (⟨#[]⟩ : ByteArray)⟩ : S31), (⟨(rd_T37 t246 0).f0.f0, (rd_T37 t246 0).f0.f1⟩ : S31)⟩ : S33) [.string (⟨#[]⟩ : ByteArray), .string (⟨#[]⟩ : ByteArray), .string ((rd_T37 t246 0).f0.f0), .string ((rd_T37 t246 0).f0.f1)] from (k33_mkM _ _ _ (⟨(⟨(⟨#[]⟩ : ByteArray), (⟨#[]⟩ : ByteArray)⟩ : S31), (⟨(rd_T37 t246 0).f0.f0, (rd_T37 t246 0).f0.f1⟩ : S31)⟩ : S33) )) (Reps.none _ _)))
                                          intro v271 w64 ho65 hb hg_ hnew_
                                          have HS0_ := (hb.cell (World.block_lt_of_cell? _ _ (hHeld.1))).trans (hHeld.1)
                                          have HS1_ := (hb.cell (World.block_lt_of_cell? _ _ (hHeld.2.1))).trans (hHeld.2.1)
                                          have HS2_ := (hb.cell (World.block_lt_of_cell? _ _ (hHeld.2.2.1))).trans (hHeld.2.2.1)
                                          have HS3_ := (hb.cell (World.block_lt_of_cell? _ _ (hHeld.2.2.2))).trans (hHeld.2.2.2)
                                          clear hg_ hnew_
                                          (first | rw [← Ny270.out] at ho65 | (simp only [Int.reduceToNat] at ho65; rw [← Ny270.out] at ho65))
                                          have n0_ := Aside0.mk (Kd.R_below (by (with_reducible repeat (first | apply Kd.R_alloc | apply Kd.R_drewN | apply Kd.R_drew)); exact HO_0.out) hb)
                                          have n1_ := Aside0.mk (Kd.R_below (by (with_reducible repeat (first | apply Kd.R_alloc | apply Kd.R_drewN | apply Kd.R_drew)); exact HO_1.out) hb)
                                          have n2_ := Aside0.mk (Kd.R_elder' (by (with_reducible repeat (first | apply Kd.R_alloc | apply Kd.R_drewN | apply Kd.R_drew)); exact HO_2.out) (Kd.R_base ho65) hb)
                                          have n3_ := Aside0.mk (Kd.S_below (by (with_reducible repeat (first | apply Kd.S_alloc | apply Kd.S_drewN | apply Kd.S_drew)); exact HO_7.out) hb)
                                          have n4_ := Aside0.mk (Kd.S_below (by (with_reducible repeat (first | apply Kd.S_alloc | apply Kd.S_drewN | apply Kd.S_drew)); exact HO_11.out) hb)
                                          have n5_ := Aside0.mk (Kd.R_below (by (with_reducible repeat (first | apply Kd.R_alloc | apply Kd.R_drewN | apply Kd.R_drew)); exact HL269_2.out) hb)
                                          have n6_ := Aside0.mk (Kd.R_lower (Kd.R_new' ho65 (Kd.R_lt (by (with_reducible repeat (first | apply Kd.R_alloc | apply Kd.R_drewN | apply Kd.R_drew)); exact HO_2.out))) (below_size (by repeat (first | (with_reducible first | exact HB.out | apply below_alloc | apply pw_below_drewN | apply below_drew1) | exact HB.out))))
                                          have n7_ := Aside0.mk (Kd.C_below (by (with_reducible repeat (first | apply Kd.C_alloc | apply Kd.C_drewN | apply Kd.C_drew)); exact HR269_2.out) hb)
                                          have n8_ := Aside0.mk (below_step (by repeat (first | (with_reducible first | exact HB.out | apply below_alloc | apply pw_below_drewN | apply below_drew1) | exact HB.out)) hb)
                                          clear HO_0
                                          clear HO_1
                                          clear HO_2
                                          clear HO_7
                                          clear HO_11
                                          clear HL269_2
                                          clear HR269_2
                                          clear HB
                                          have HO_0 := n0_
                                          have HO_1 := n1_
                                          have HO_2 := n2_
                                          have HO_7 := n3_
                                          have HO_11 := n4_
                                          have HL269_2 := n5_
                                          have HO272 := n6_
                                          have HR269_2 := n7_
                                          have HB := n8_
                                          clear n0_ n1_ n2_ n3_ n4_ n5_ n6_ n7_ n8_
                                          clear hb ho65
                                          refine hK.out _ _ ⟨HS0_, HS1_, HS2_, HS3_⟩ (fun hHeld => ?_)
                                          clear hK K
                                          refine norm_ (a' := ?_) ?_ ?_
                                          rotate_left
                                          · show Act.put _ (some 94) _ = _
                                            simp only [Act.put, List.setIfInBounds_toArray, List.set_cons_zero, List.set_cons_succ, i64_w, i32_w]
                                            rfl
                                          refine one_ (i := 3) (N := some 88) #[true, true, true, true, true, true, true, true, true, true, false, false, false, false, false, false, false] rfl rfl (one_of HT_.out (by kernel_rfl)) (by decide) (fun K hK => ?_)
                                          refine goes_ Tryd.func7 (by kernel_rfl) rfl #[.slice Ao13 t243.length co13] (by rfl) rfl rfl (by (try simp only [List.map_toArray, List.map_cons, List.map_nil]); first | done | rfl | (simp only [List.length_drop, List.length_take]; rfl)) ?_
                                          with_reducible refine (graftwoodlaw18_Few.calls kj26 _ _ t243 t266 _ ?side1 ?side2 A46.out).mono ?_
                                          (case side1 => repeat (first | exact (Kd.R_reads' HO_2.out).2.2 | (with_reducible refine Kd.C_alloc ?_ _) | (with_reducible refine Kd.C_drewN ?_ _) | (with_reducible refine Kd.C_drew ?_)))
                                          (case side2 => exact (Kd.R_reads' HO_2.out).2.1)
                                          rintro e w66 ⟨v267, rfl, ho0, hb⟩
                                          have HS0_ := (hb.cell (World.block_lt_of_cell? _ _ (hHeld.1))).trans (hHeld.1)
                                          have HS1_ := (hb.cell (World.block_lt_of_cell? _ _ (hHeld.2.1))).trans (hHeld.2.1)
                                          have HS2_ := (hb.cell (World.block_lt_of_cell? _ _ (hHeld.2.2.1))).trans (hHeld.2.2.1)
                                          have HS3_ := (hb.cell (World.block_lt_of_cell? _ _ (hHeld.2.2.2))).trans (hHeld.2.2.2)
                                          refine ⟨_, rfl, ?_⟩
                                          have n0_ := Aside0.mk (Kd.R_below (by (with_reducible repeat (first | apply Kd.R_alloc | apply Kd.R_drewN | apply Kd.R_drew)); exact HO_0.out) hb)
                                          have n1_ := Aside0.mk (Kd.R_below (by (with_reducible repeat (first | apply Kd.R_alloc | apply Kd.R_drewN | apply Kd.R_drew)); exact HO_1.out) hb)
                                          have n2_ := Aside0.mk (Kd.R_elder' (by (with_reducible repeat (first | apply Kd.R_alloc | apply Kd.R_drewN | apply Kd.R_drew)); exact HO_2.out) (Kd.R_base ho0) hb)
                                          have n3_ := Aside0.mk (Kd.S_below (by (with_reducible repeat (first | apply Kd.S_alloc | apply Kd.S_drewN | apply Kd.S_drew)); exact HO_7.out) hb)
                                          have n4_ := Aside0.mk (Kd.S_below (by (with_reducible repeat (first | apply Kd.S_alloc | apply Kd.S_drewN | apply Kd.S_drew)); exact HO_11.out) hb)
                                          have n5_ := Aside0.mk (Kd.R_below (by (with_reducible repeat (first | apply Kd.R_alloc | apply Kd.R_drewN | apply Kd.R_drew)); exact HL269_2.out) hb)
                                          have n6_ := Aside0.mk (Kd.R_elder' (by (with_reducible repeat (first | apply Kd.R_alloc | apply Kd.R_drewN | apply Kd.R_drew)); exact HO272.out) (Kd.R_base ho0) hb)
                                          have n7_ := Aside0.mk (Kd.R_lower (Kd.R_new' (Kd.R_new' ho0 (Kd.R_lt (by (with_reducible repeat (first | apply Kd.R_alloc | apply Kd.R_drewN | apply Kd.R_drew)); exact HO_2.out))) (Kd.R_lt (by (with_reducible repeat (first | apply Kd.R_alloc | apply Kd.R_drewN | apply Kd.R_drew)); exact HO272.out))) (below_size (by repeat (first | (with_reducible first | exact HB.out | apply below_alloc | apply pw_below_drewN | apply below_drew1) | exact HB.out))))
                                          have n8_ := Aside0.mk (Kd.C_below (by (with_reducible repeat (first | apply Kd.C_alloc | apply Kd.C_drewN | apply Kd.C_drew)); exact HR269_2.out) hb)
                                          have n9_ := Aside0.mk (below_step (by repeat (first | (with_reducible first | exact HB.out | apply below_alloc | apply pw_below_drewN | apply below_drew1) | exact HB.out)) hb)
                                          clear HO_0
                                          clear HO_1
                                          clear HO_2
                                          clear HO_7
                                          clear HO_11
                                          clear HL269_2
                                          clear HO272
                                          clear HR269_2
                                          clear HB
                                          have HO_0 := n0_
                                          have HO_1 := n1_
                                          have HO_2 := n2_
                                          have HO_7 := n3_
                                          have HO_11 := n4_
                                          have HL269_2 := n5_
                                          have HO272 := n6_
                                          have HO268 := n7_
                                          have HR269_2 := n8_
                                          have HB := n9_
                                          clear n0_ n1_ n2_ n3_ n4_ n5_ n6_ n7_ n8_ n9_
                                          (try clear hb)
                                          (try clear hb2)
                                          (try clear hk)
                                          (try clear hi)
                                          (try clear ho0)
                                          refine hK.out _ _ ⟨HS0_, HS1_, HS2_, HS3_⟩ (fun hHeld => ?_)
                                          clear hK K
                                          refine norm_ (a' := ?_) ?_ ?_
                                          rotate_left
                                          · show Act.put _ (some 88) _ = _
                                            simp only [Act.put, List.setIfInBounds_toArray, List.set_cons_zero, List.set_cons_succ, i64_w, i32_w]
                                            rfl
                                          exact norm_ (by simp only [putAll, Act.put, List.setIfInBounds_toArray, List.set_cons_zero, List.set_cons_succ]) (hCont (v267, v271) _ ⟨hHeld, (by (with_reducible repeat (first | apply Kd.R_alloc | apply Kd.R_drewN | apply Kd.R_drew)); exact Kd.R_mono HL269_2.out (fun _ hk => ⟨hk.1.1, ⟨hk.1.2.1, ⟨hk.1.2.2, hk.2⟩⟩⟩)), (by (with_reducible repeat (first | apply Kd.R_alloc | apply Kd.R_drewN | apply Kd.R_drew)); exact Kd.R_mono HO268.out (fun _ hk => ⟨hk.2, hk.1.2⟩)), (by (with_reducible repeat (first | apply Kd.R_alloc | apply Kd.R_drewN | apply Kd.R_drew)); exact Kd.R_mono HO272.out (fun _ hk => ⟨hk.2, hk.1.2⟩)), (by (with_reducible repeat (first | apply Kd.R_alloc | apply Kd.R_drewN | apply Kd.R_drew)); exact HO_0.out), (by (with_reducible repeat (first | apply Kd.R_alloc | apply Kd.R_drewN | apply Kd.R_drew)); exact HO_1.out), (by (with_reducible repeat (first | apply Kd.S_alloc | apply Kd.S_drewN | apply Kd.S_drew)); exact HO_11.out), (by (with_reducible repeat (first | apply Kd.R_alloc | apply Kd.R_drewN | apply Kd.R_drew)); exact Kd.R_mono HO_2.out (fun _ hk => ⟨hk.2, hk.1.2⟩)), (by (with_reducible repeat (first | apply Kd.S_alloc | apply Kd.S_drewN | apply Kd.S_drew)); exact HO_7.out), (by repeat (first | (with_reducible first | exact HB.out | apply below_alloc | apply pw_below_drewN | apply below_drew1) | exact HB.out))⟩)
                                      rintro ⟨v267, v271⟩ w67 ⟨hS_, h0_, h1_, h2_, h3_, h4_, h5_, h6_, h7_, h8_⟩
                                      have n0_ : Aside0 (Kd.R k31 31 w67 w.heap.size (fun k_ => some k_ ≠ (.slice Ao11 t237.length co11 : Value).ownBlock ∧ some k_ ≠ (.slice Ao12 t240.length co12 : Value).ownBlock ∧ some k_ ≠ (v260 : Value).ownBlock ∧ some k_ ≠ (.slice (some ad269) t246.length co63 : Value).ownBlock) (.slice A269_2 ((rd_T37 t246 0).f1).length c269_2) ((rd_T37 t246 0).f1)) := ⟨h0_⟩
                                      have n1_ : Aside0 (Kd.R k33 33 w67 w.heap.size (fun k_ => some k_ ≠ (v271 : Value).ownBlock ∧ some k_ ≠ (.slice Ao13 t243.length co13 : Value).ownBlock) v267 t266) := ⟨h1_⟩
                                      have n2_ : Aside0 (Kd.R k33 33 w67 w.heap.size (fun k_ => some k_ ≠ (v267 : Value).ownBlock ∧ some k_ ≠ (.slice Ao13 t243.length co13 : Value).ownBlock) v271 y270) := ⟨h2_⟩
                                      have n3_ : Aside0 (Kd.R k31 31 w67 w.heap.size (fun k_ => some k_ ≠ (.slice Ao12 t240.length co12 : Value).ownBlock) (.slice Ao11 t237.length co11) t237) := ⟨h3_⟩
                                      have n4_ : Aside0 (Kd.R k31 31 w67 w.heap.size (fun k_ => some k_ ≠ (.slice Ao11 t237.length co11 : Value).ownBlock) (.slice Ao12 t240.length co12) t240) := ⟨h4_⟩
                                      have n5_ : Aside0 (Kd.S k37 37 w67 w.heap.size (fun k_ => some k_ ≠ (.slice Ao11 t237.length co11 : Value).ownBlock ∧ some k_ ≠ (.slice Ao12 t240.length co12 : Value).ownBlock ∧ some k_ ≠ (.slice (some ad269) t246.length co63 : Value).ownBlock) v260 t258) := ⟨h5_⟩
                                      have n6_ : Aside0 (Kd.R k33 33 w67 w.heap.size (fun k_ => some k_ ≠ (v267 : Value).ownBlock ∧ some k_ ≠ (v271 : Value).ownBlock) (.slice Ao13 t243.length co13) t243) := ⟨h6_⟩
                                      have n7_ : Aside0 (Kd.S k37 37 w67 w.heap.size (fun k_ => some k_ ≠ (.slice Ao11 t237.length co11 : Value).ownBlock ∧ some k_ ≠ (.slice Ao12 t240.length co12 : Value).ownBlock ∧ some k_ ≠ (v260 : Value).ownBlock) (.slice (some ad269) t246.length co63) t246) := ⟨h7_⟩
                                      have n8_ : Aside0 (Below w.heap.size w w67) := ⟨h8_⟩
                                      clear HO_0
                                      clear HO_1
                                      clear HO_2
                                      clear HO_7
                                      clear HO_11
                                      clear HB
                                      clear h0_ h1_ h2_ h3_ h4_ h5_ h6_ h7_ h8_
                                      have HL269_2 := n0_
                                      have HO268 := n1_
                                      have HO272 := n2_
                                      have HO_0 := n3_
                                      have HO_1 := n4_
                                      have HO_11 := n5_
                                      have HO_2 := n6_
                                      have HO_7 := n7_
                                      have HB := n8_
                                      clear n0_ n1_ n2_ n3_ n4_ n5_ n6_ n7_ n8_
                                      have hHeld : w67.cell? ad269 = some (.string ((rd_T37 t246 0).f0.f0)) ∧ w67.cell? ⟨ad269.block, ad269.off + 1, none⟩ = some (.string ((rd_T37 t246 0).f0.f1)) ∧ w67.cell? ⟨ad269.block, ad269.off + 2, none⟩ = some (.slice A269_2 ((rd_T37 t246 0).f1).length c269_2) ∧ w67.cell? ⟨ad269.block, ad269.off + 3, none⟩ = some (.bool ((rd_T37 t246 0).f2)) := hS_
                                      obtain ⟨Ao69, co69, eo69⟩ := Kd.R_slice HO272.out
                                      (first | subst eo69 | (injection eo69 with f1_ f2_ f3_; have f4_ := f1_.symm; have f5_ := f3_.symm; clear f1_ f2_ f3_; subst f4_; subst f5_))
                                      refine norm_ (a' := ?_) ?_ ?_
                                      rotate_left
                                      · simp only [putAll, Act.put, List.setIfInBounds_toArray, List.set_cons_zero, List.set_cons_succ]
                                        rfl
                                      refine last_ (i := 10) (N := some 95) #[true, true, true, true, true, true, true, true, true, true, true, false, false, false, false, false, false] rfl rfl (one_of HT_.out (by kernel_rfl)) (by decide) (fun K hK => ?_)
                                      refine Kd.R_append_rows_step k33 (w0 := w) w.heap.size (by rfl) (.tmp 88) (.tmp 94) 23 33 (.agg #[(.string ⟨#[]⟩), (.string ⟨#[]⟩), (.string ⟨#[]⟩), (.string ⟨#[]⟩)]) 64 rfl Tryd.underlying23 info33 rfl (by decide) (by omega) v267 t266 y270 _ _ _ (fun k_ => some k_ ≠ (.slice Ao13 t243.length co13 : Value).ownBlock ∧ some k_ ≠ (.slice Ao69 y270.length co69 : Value).ownBlock) (fun _ => False) rfl rfl ?aO ?aR (fun _ _ h => h) (fun _ h => h.elim) ?aF ?aB ?aS ?aL ?_
                                      (case aR => repeat (first | exact (Kd.R_reads' HO272.out).2.2 | (with_reducible refine Kd.C_alloc ?_ _) | (with_reducible refine Kd.C_drewN ?_ _) | (with_reducible refine Kd.C_drew ?_)))
                                      (case aB => exact (by repeat (first | (with_reducible first | exact HB.out | apply below_alloc | apply pw_below_drewN | apply below_drew1) | exact HB.out)))
                                      (case aF => exact (fun k_ hk => ⟨Kd.fresh' (Kd.R_lt (by (with_reducible repeat (first | apply Kd.R_alloc | apply Kd.R_drewN | apply Kd.R_drew)); exact HO_2.out)) k_ hk, Kd.fresh' (Kd.R_lt (by (with_reducible repeat (first | apply Kd.R_alloc | apply Kd.R_drewN | apply Kd.R_drew)); exact HO272.out)) k_ hk⟩))
                                      (case aO => exact (by (with_reducible repeat (first | apply Kd.R_alloc | apply Kd.R_drewN | apply Kd.R_drew)); exact Kd.R_mono HO268.out (fun _ hk => ⟨hk.2, hk.1⟩)))
                                      (case aS => exact (below_size (by repeat (first | (with_reducible first | exact HB.out | apply below_alloc | apply pw_below_drewN | apply below_drew1) | exact HB.out))))
                                      (case aL => have := LMc48.out; omega)
                                      intro v274 w68 ho hb hg hat
                                      have hX_ := fun (p : Addr) (u : Value) (h : w67.cell? p = some u) (hp : p.block = ad269.block) => held_grown h hg (by rw [hp]; exact held_ne HO_7.out HO268.out (by decide))
                                      have hHeld := And.intro (hX_ _ _ (hHeld.1) rfl) (And.intro (hX_ _ _ (hHeld.2.1) rfl) (And.intro (hX_ _ _ (hHeld.2.2.1) rfl) (hX_ _ _ (hHeld.2.2.2) rfl)))
                                      rw [← Ny273.out] at ho
                                      have n0_ := Aside0.mk (Kd.R_over' (by (with_reducible repeat (first | apply Kd.R_alloc | apply Kd.R_drewN | apply Kd.R_drew)); exact HO_0.out) (Kd.R_typed (by (with_reducible repeat (first | apply Kd.R_alloc | apply Kd.R_drewN | apply Kd.R_drew)); exact HO268.out)) (by decide) hg)
                                      have n1_ := Aside0.mk (Kd.R_over' (by (with_reducible repeat (first | apply Kd.R_alloc | apply Kd.R_drewN | apply Kd.R_drew)); exact HO_1.out) (Kd.R_typed (by (with_reducible repeat (first | apply Kd.R_alloc | apply Kd.R_drewN | apply Kd.R_drew)); exact HO268.out)) (by decide) hg)
                                      have n2_ := Aside0.mk (Kd.R_after (ok := (fun k_ => some k_ ≠ (.slice Ao69 y270.length co69 : Value).ownBlock)) (by (with_reducible repeat (first | apply Kd.R_alloc | apply Kd.R_drewN | apply Kd.R_drew)); exact Kd.R_mono HO_2.out (fun _ hk => ⟨hk.2, hk.1⟩)) hg hat)
                                      have n3_ := Aside0.mk (Kd.S_over' (by (with_reducible repeat (first | apply Kd.S_alloc | apply Kd.S_drewN | apply Kd.S_drew)); exact HO_7.out) (Kd.R_typed (by (with_reducible repeat (first | apply Kd.R_alloc | apply Kd.R_drewN | apply Kd.R_drew)); exact HO268.out)) (by decide) hg)
                                      have n4_ := Aside0.mk (Kd.S_over' (by (with_reducible repeat (first | apply Kd.S_alloc | apply Kd.S_drewN | apply Kd.S_drew)); exact HO_11.out) (Kd.R_typed (by (with_reducible repeat (first | apply Kd.R_alloc | apply Kd.R_drewN | apply Kd.R_drew)); exact HO268.out)) (by decide) hg)
                                      have n5_ := Aside0.mk (Kd.R_over' (by (with_reducible repeat (first | apply Kd.R_alloc | apply Kd.R_drewN | apply Kd.R_drew)); exact HL269_2.out) (Kd.R_typed (by (with_reducible repeat (first | apply Kd.R_alloc | apply Kd.R_drewN | apply Kd.R_drew)); exact HO268.out)) (by decide) hg)
                                      have n6_ := Aside0.mk (Kd.R_after (ok := (fun k_ => some k_ ≠ (.slice Ao13 t243.length co13 : Value).ownBlock)) (by (with_reducible repeat (first | apply Kd.R_alloc | apply Kd.R_drewN | apply Kd.R_drew)); exact Kd.R_mono HO272.out (fun _ hk => ⟨hk.2, hk.1⟩)) hg hat)
                                      have n7_ := Aside0.mk (hb)
                                      have n8_ := Aside0.mk (ho)
                                      clear HO_0
                                      clear HO_1
                                      clear HO_2
                                      clear HO_7
                                      clear HO_11
                                      clear HL269_2
                                      clear HO272
                                      clear HB
                                      clear HO268
                                      have HO_0 := n0_
                                      have HO_1 := n1_
                                      have HO_2 := n2_
                                      have HO_7 := n3_
                                      have HO_11 := n4_
                                      have HL269_2 := n5_
                                      have HO272 := n6_
                                      have HB := n7_
                                      have HO275 := n8_
                                      clear n0_ n1_ n2_ n3_ n4_ n5_ n6_ n7_ n8_
                                      clear ho hb hg hat
                                      obtain ⟨Ao70, co70, eo70⟩ := Kd.R_slice HO275.out
                                      (first | subst eo70 | (injection eo70 with f1_ f2_ f3_; have f4_ := f1_.symm; have f5_ := f3_.symm; clear f1_ f2_ f3_; subst f4_; subst f5_))
                                      refine hK.out _ _ ?_
                                      clear hK K
                                      refine norm_ (a' := ?_) ?_ ?_
                                      rotate_left
                                      · show Act.put _ (some 95) _ = _
                                        simp only [Act.put, List.setIfInBounds_toArray, List.set_cons_zero, List.set_cons_succ, i64_w, i32_w]
                                        rfl
                                      refine one_ (i := 11) (N := some 96) #[true, true, true, true, true, true, true, true, true, true, true, true, false, false, false, false, false] rfl rfl (one_of HT_.out (by kernel_rfl)) (by decide) (fun K hK => ?_)
                                      refine goes_ Tryd.func8 (by kernel_rfl) rfl #[.slice Ao11 t237.length co11, .slice Ao12 t240.length co12, .slice Ao70 y273.length co70] (by rfl) rfl rfl (by (try simp only [List.map_toArray, List.map_cons, List.map_nil]); first | done | rfl | (simp only [List.length_drop, List.length_take]; rfl)) ?_
                                      with_reducible refine (lack_Of.calls _ _ t237 _ _ t240 _ _ y273 t276 t277 _ ?side1 ?side2 ?side3 ?side4 ?side5 ?side6 A49.out).mono ?_
                                      (case side1 => repeat (first | exact (Kd.R_reads' HO_0.out).2.2 | (with_reducible refine Kd.C_alloc ?_ _) | (with_reducible refine Kd.C_drewN ?_ _) | (with_reducible refine Kd.C_drew ?_)))
                                      (case side2 => exact (Kd.R_reads' HO_0.out).2.1)
                                      (case side3 => repeat (first | exact (Kd.R_reads' HO_1.out).2.2 | (with_reducible refine Kd.C_alloc ?_ _) | (with_reducible refine Kd.C_drewN ?_ _) | (with_reducible refine Kd.C_drew ?_)))
                                      (case side4 => exact (Kd.R_reads' HO_1.out).2.1)
                                      (case side5 => repeat (first | exact (Kd.R_reads' HO275.out).2.2 | (with_reducible refine Kd.C_alloc ?_ _) | (with_reducible refine Kd.C_drewN ?_ _) | (with_reducible refine Kd.C_drew ?_)))
                                      (case side6 => exact (Kd.R_reads' HO275.out).2.1)
                                      rintro e w71 ⟨v278, rfl, ho0, hb⟩
                                      have HS0_ := (hb.cell (World.block_lt_of_cell? _ _ (hHeld.1))).trans (hHeld.1)
                                      have HS1_ := (hb.cell (World.block_lt_of_cell? _ _ (hHeld.2.1))).trans (hHeld.2.1)
                                      have HS2_ := (hb.cell (World.block_lt_of_cell? _ _ (hHeld.2.2.1))).trans (hHeld.2.2.1)
                                      have HS3_ := (hb.cell (World.block_lt_of_cell? _ _ (hHeld.2.2.2))).trans (hHeld.2.2.2)
                                      refine ⟨_, rfl, ?_⟩
                                      have n0_ := Aside0.mk (Kd.R_below (by (with_reducible repeat (first | apply Kd.R_alloc | apply Kd.R_drewN | apply Kd.R_drew)); exact HO_0.out) hb)
                                      have n1_ := Aside0.mk (Kd.R_below (by (with_reducible repeat (first | apply Kd.R_alloc | apply Kd.R_drewN | apply Kd.R_drew)); exact HO_1.out) hb)
                                      have n2_ := Aside0.mk (Kd.R_below (by (with_reducible repeat (first | apply Kd.R_alloc | apply Kd.R_drewN | apply Kd.R_drew)); exact HO_2.out) hb)
                                      have n3_ := Aside0.mk (Kd.S_elder' (by (with_reducible repeat (first | apply Kd.S_alloc | apply Kd.S_drewN | apply Kd.S_drew)); exact HO_7.out) (Kd.S_base ho0) hb)
                                      have n4_ := Aside0.mk (Kd.S_elder' (by (with_reducible repeat (first | apply Kd.S_alloc | apply Kd.S_drewN | apply Kd.S_drew)); exact HO_11.out) (Kd.S_base ho0) hb)
                                      have n5_ := Aside0.mk (Kd.R_below (by (with_reducible repeat (first | apply Kd.R_alloc | apply Kd.R_drewN | apply Kd.R_drew)); exact HL269_2.out) hb)
                                      have n6_ := Aside0.mk (Kd.R_below (by (with_reducible repeat (first | apply Kd.R_alloc | apply Kd.R_drewN | apply Kd.R_drew)); exact HO272.out) hb)
                                      have n7_ := Aside0.mk (Kd.R_below (by (with_reducible repeat (first | apply Kd.R_alloc | apply Kd.R_drewN | apply Kd.R_drew)); exact HO275.out) hb)
                                      have n8_ := Aside0.mk (Kd.S_lower (Kd.S_new' (Kd.S_new' (Kd.S_new' (Kd.S_new' (Kd.S_new' ho0 (Kd.R_lt (by (with_reducible repeat (first | apply Kd.R_alloc | apply Kd.R_drewN | apply Kd.R_drew)); exact HO_0.out))) (Kd.R_lt (by (with_reducible repeat (first | apply Kd.R_alloc | apply Kd.R_drewN | apply Kd.R_drew)); exact HO_1.out))) (Kd.S_lt (by (with_reducible repeat (first | apply Kd.S_alloc | apply Kd.S_drewN | apply Kd.S_drew)); exact HO_7.out))) (Kd.S_lt (by (with_reducible repeat (first | apply Kd.S_alloc | apply Kd.S_drewN | apply Kd.S_drew)); exact HO_11.out))) (Kd.R_lt (by (with_reducible repeat (first | apply Kd.R_alloc | apply Kd.R_drewN | apply Kd.R_drew)); exact HL269_2.out))) (below_size (by repeat (first | (with_reducible first | exact HB.out | apply below_alloc | apply pw_below_drewN | apply below_drew1) | exact HB.out))))
                                      have n9_ := Aside0.mk (below_step (by repeat (first | (with_reducible first | exact HB.out | apply below_alloc | apply pw_below_drewN | apply below_drew1) | exact HB.out)) hb)
                                      clear HO_0
                                      clear HO_1
                                      clear HO_2
                                      clear HO_7
                                      clear HO_11
                                      clear HL269_2
                                      clear HO272
                                      clear HO275
                                      clear HB
                                      have HO_0 := n0_
                                      have HO_1 := n1_
                                      have HO_2 := n2_
                                      have HO_7 := n3_
                                      have HO_11 := n4_
                                      have HL269_2 := n5_
                                      have HO272 := n6_
                                      have HO275 := n7_
                                      have HO279 := n8_
                                      have HB := n9_
                                      clear n0_ n1_ n2_ n3_ n4_ n5_ n6_ n7_ n8_ n9_
                                      (try clear hb)
                                      (try clear hb2)
                                      (try clear hk)
                                      (try clear hi)
                                      (try clear ho0)
                                      refine hK.out _ _ ⟨HS0_, HS1_, HS2_, HS3_⟩ (fun hHeld => ?_)
                                      clear hK K
                                      refine norm_ (a' := ?_) ?_ ?_
                                      rotate_left
                                      · show Act.put _ (some 96) _ = _
                                        simp only [Act.put, List.setIfInBounds_toArray, List.set_cons_zero, List.set_cons_succ, i64_w, i32_w]
                                        rfl
                                      refine pure_ (i := 12) (N := some 84) (v := ?_) (a' := ?_) #[true, true, true, true, true, true, true, true, true, true, true, true, true, false, false, false, false] rfl rfl (any_of HT_.out (by kernel_rfl)) (fun _ _ _ h => h) (Or.inl ⟨by rfl, ?_⟩) ?_ ?_
                                      rotate_left
                                      · intro w'
                                        go_simp
                                        with_reducible rfl
                                      rotate_left
                                      · simp only [Act.put, List.setIfInBounds_toArray, List.set_cons_zero, List.set_cons_succ, i64_w, i32_w]
                                        rfl
                                      refine pure_ (i := 13) (N := some 97) (v := ?_) (a' := ?_) #[true, true, true, true, true, true, true, true, true, true, true, true, true, true, false, false, false] rfl rfl (any_of HT_.out (by kernel_rfl)) (fun _ _ _ h => h) (Or.inl ⟨by rfl, ?_⟩) ?_ ?_
                                      rotate_left
                                      · intro w'
                                        go_simp
                                        with_reducible rfl
                                      rotate_left
                                      · simp only [Act.put, List.setIfInBounds_toArray, List.set_cons_zero, List.set_cons_succ, i64_w, i32_w]
                                        rfl
                                      refine pure_ (i := 14) (N := some 98) (v := ?_) (a' := ?_) #[true, true, true, true, true, true, true, true, true, true, true, true, true, true, true, false, false] rfl rfl (any_of HT_.out (by kernel_rfl)) (fun _ _ _ h => h) (Or.inl ⟨by rfl, ?_⟩) ?_ ?_
                                      rotate_left
                                      · intro w'
                                        go_simp
                                        with_reducible rfl
                                      rotate_left
                                      · simp only [Act.put, List.setIfInBounds_toArray, List.set_cons_zero, List.set_cons_succ, i64_w, i32_w]
                                        rfl
                                      refine pure_ (i := 15) (N := some 13) (v := ?_) (a' := ?_) #[true, true, true, true, true, true, true, true, true, true, true, true, true, true, true, true, false] rfl rfl (any_of HT_.out (by kernel_rfl)) (fun _ _ _ h => h) (Or.inl ⟨by rfl, ?_⟩) ?_ ?_
                                      rotate_left
                                      · intro w'
                                        go_simp
                                        with_reducible rfl
                                      rotate_left
                                      · simp only [Act.put, List.setIfInBounds_toArray, List.set_cons_zero, List.set_cons_succ, i64_w, i32_w]
                                        rfl
                                      refine pure_ (i := 16) (N := some 14) (v := ?_) (a' := ?_) #[true, true, true, true, true, true, true, true, true, true, true, true, true, true, true, true, true] rfl rfl (any_of HT_.out (by kernel_rfl)) (fun _ _ _ h => h) (Or.inl ⟨by rfl, ?_⟩) ?_ ?_
                                      rotate_left
                                      · intro w'
                                        go_simp
                                        with_reducible rfl
                                      rotate_left
                                      · simp only [Act.put, List.setIfInBounds_toArray, List.set_cons_zero, List.set_cons_succ, i64_w, i32_w]
                                        rfl
                                      refine done_ (done_of HT_.out (by kernel_rfl)) ?_
                                      try go_wp2
                                      have n0_ := Aside0.mk (Kd.R_drew HO_0.out)
                                      have n1_ := Aside0.mk (Kd.R_drew HO_1.out)
                                      have n2_ := Aside0.mk (Kd.R_drew HO_2.out)
                                      have n3_ := Aside0.mk (Kd.S_drew HO_7.out)
                                      have n4_ := Aside0.mk (Kd.S_drew HO_11.out)
                                      have n5_ := Aside0.mk (Kd.R_drew HL269_2.out)
                                      have n6_ := Aside0.mk (Kd.R_drew HO272.out)
                                      have n7_ := Aside0.mk (Kd.R_drew HO275.out)
                                      have n8_ := Aside0.mk (Kd.S_drew HO279.out)
                                      have n9_ := Aside0.mk (below_drew1 HB.out)
                                      clear HO_0
                                      clear HO_1
                                      clear HO_2
                                      clear HO_7
                                      clear HO_11
                                      clear HL269_2
                                      clear HO272
                                      clear HO275
                                      clear HO279
                                      clear HB
                                      have HO_0 := n0_
                                      have HO_1 := n1_
                                      have HO_2 := n2_
                                      have HO_7 := n3_
                                      have HO_11 := n4_
                                      have HL269_2 := n5_
                                      have HO272 := n6_
                                      have HO275 := n7_
                                      have HO279 := n8_
                                      have HB := n9_
                                      clear n0_ n1_ n2_ n3_ n4_ n5_ n6_ n7_ n8_ n9_
                                      obtain ⟨Ao73, co73, eo73⟩ := Kd.S_slice HO279.out
                                      (first | subst eo73 | (injection eo73 with f1_ f2_ f3_; have f4_ := f1_.symm; have f5_ := f3_.symm; clear f1_ f2_ f3_; subst f4_; subst f5_))
                                      have p280 : 0 ≤ (0 : Int) := (by omega)
                                      have q280 : 0 < (t276.length : Int) := of_decide_eq_true (by first | (with_reducible assumption) | assumption)
                                      obtain ⟨ad280, A280_2, c280_2, e280, hx280_0, hx280_1, hx280_2, hx280_3, hl280_2, hi280_2⟩ := at_T37 (Kd.S_reads' HO279.out).2.2 0 p280 q280
                                      (try rw [← Nbq53.out] at hx280_3)
                                      cases e280
                                      obtain ⟨ce280, hce280, hMe280, hcc280⟩ := Kd.S_get HO279.out z37 0 p280 (by first | exact q280 | exact of_decide_eq_true (by first | (with_reducible assumption) | assumption) | (have e_ := (Kd.S_reads' HO279.out).1; omega))
                                      obtain ⟨ve280_2, rfl, ge280_2⟩ := k37_openM hMe280
                                      have hv280_2 := hcc280 2 _ rfl
                                      rw [add_field _ _ 2 (by omega)] at hv280_2
                                      replace hv280_2 := Option.some.inj (hv280_2.symm.trans hx280_2)
                                      rw [hv280_2] at ge280_2
                                      have HL280_2 := Aside0.mk (show Kd.R k31 31 _ _ _ _ ((rd_T37 t276 0).f1) from ge280_2)
                                      clear hv280_2 ge280_2
                                      clear hcc280 hce280
                                      have qi280 : (0 < t276.length) = True := eq_true (by omega)
                                      (try rw [show ((0 : Int)).toNat = 0 from rfl] at hx280_0)
                                      (try rw [show 0 * 4 = 0 from rfl] at hx280_0)
                                      (try rw [Addr.add_zero'] at hx280_0)
                                      (try rw [show ((0 : Int)).toNat = 0 from rfl] at hx280_1)
                                      (try rw [show 0 * 4 = 0 from rfl] at hx280_1)
                                      (try rw [Addr.add_zero'] at hx280_1)
                                      (try rw [show ((0 : Int)).toNat = 0 from rfl] at hx280_2)
                                      (try rw [show 0 * 4 = 0 from rfl] at hx280_2)
                                      (try rw [Addr.add_zero'] at hx280_2)
                                      (try rw [show ((0 : Int)).toNat = 0 from rfl] at hx280_3)
                                      (try rw [show 0 * 4 = 0 from rfl] at hx280_3)
                                      (try rw [Addr.add_zero'] at hx280_3)
                                      have HR280_2 := Aside0.mk hi280_2
                                      have HC280_2 := Aside0.mk hl280_2
                                      clear hi280_2 hl280_2
                                      replace p280 := eq_true p280
                                      replace q280 := eq_true q280
                                      have p281 : 0 ≤ (0 : Int) := (by omega)
                                      have q281 : 0 < (t276.length : Int) := of_decide_eq_true (by first | (with_reducible assumption) | assumption)
                                      obtain ⟨ad281, A281_2, c281_2, e281, hx281_0, hx281_1, hx281_2, hx281_3, hl281_2, hi281_2⟩ := at_T37 (Kd.S_reads' HO279.out).2.2 0 p281 q281
                                      (try rw [← Nbq53.out] at hx281_3)
                                      obtain rfl : ad280 = ad281 := (by injection e281)
                                      obtain ⟨ce281, hce281, hMe281, hcc281⟩ := Kd.S_get HO279.out z37 0 p281 (by first | exact q281 | exact of_decide_eq_true (by first | (with_reducible assumption) | assumption) | (have e_ := (Kd.S_reads' HO279.out).1; omega))
                                      obtain ⟨ve281_2, rfl, ge281_2⟩ := k37_openM hMe281
                                      have hv281_2 := hcc281 2 _ rfl
                                      rw [add_field _ _ 2 (by omega)] at hv281_2
                                      replace hv281_2 := Option.some.inj (hv281_2.symm.trans hx281_2)
                                      rw [hv281_2] at ge281_2
                                      have HL281_2 := Aside0.mk (show Kd.R k31 31 _ _ _ _ ((rd_T37 t276 0).f1) from ge281_2)
                                      clear hv281_2 ge281_2
                                      clear hcc281 hce281
                                      have qi281 : (0 < t276.length) = True := eq_true (by omega)
                                      (try rw [show ((0 : Int)).toNat = 0 from rfl] at hx281_0)
                                      (try rw [show 0 * 4 = 0 from rfl] at hx281_0)
                                      (try rw [Addr.add_zero'] at hx281_0)
                                      (try rw [show ((0 : Int)).toNat = 0 from rfl] at hx281_1)
                                      (try rw [show 0 * 4 = 0 from rfl] at hx281_1)
                                      (try rw [Addr.add_zero'] at hx281_1)
                                      (try rw [show ((0 : Int)).toNat = 0 from rfl] at hx281_2)
                                      (try rw [show 0 * 4 = 0 from rfl] at hx281_2)
                                      (try rw [Addr.add_zero'] at hx281_2)
                                      (try rw [show ((0 : Int)).toNat = 0 from rfl] at hx281_3)
                                      (try rw [show 0 * 4 = 0 from rfl] at hx281_3)
                                      (try rw [Addr.add_zero'] at hx281_3)
                                      have HR281_2 := Aside0.mk hi281_2
                                      have HC281_2 := Aside0.mk hl281_2
                                      clear hi281_2 hl281_2
                                      replace p281 := eq_true p281
                                      replace q281 := eq_true q281
                                      have ea_ := Option.some.inj (hx280_2.symm.trans hx281_2)
                                      injection ea_ with ea_ en_ ec_
                                      subst ea_
                                      subst ec_
                                      clear en_
                                      have p282 : 0 ≤ (0 : Int) := (by omega)
                                      have q282 : 0 < (t246.length : Int) := of_decide_eq_true (by first | (with_reducible assumption) | assumption)
                                      obtain ⟨ad282, A282_2, c282_2, e282, hx282_0, hx282_1, hx282_2, hx282_3, hl282_2, hi282_2⟩ := at_T37 (Kd.S_reads' HO_7.out).2.2 0 p282 q282
                                      (try rw [← Nbq53.out] at hx282_3)
                                      obtain rfl : ad269 = ad282 := (by injection e282)
                                      obtain ⟨ce282, hce282, hMe282, hcc282⟩ := Kd.S_get HO_7.out z37 0 p282 (by first | exact q282 | exact of_decide_eq_true (by first | (with_reducible assumption) | assumption) | (have e_ := (Kd.S_reads' HO_7.out).1; omega))
                                      obtain ⟨ve282_2, rfl, ge282_2⟩ := k37_openM hMe282
                                      have hv282_2 := hcc282 2 _ rfl
                                      rw [add_field _ _ 2 (by omega)] at hv282_2
                                      replace hv282_2 := Option.some.inj (hv282_2.symm.trans hx282_2)
                                      rw [hv282_2] at ge282_2
                                      have HL282_2 := Aside0.mk (show Kd.R k31 31 _ _ _ _ ((rd_T37 t246 0).f1) from ge282_2)
                                      clear hv282_2 ge282_2
                                      clear hcc282 hce282
                                      have qi282 : (0 < t246.length) = True := eq_true (by omega)
                                      (try rw [show ((0 : Int)).toNat = 0 from rfl] at hx282_0)
                                      (try rw [show 0 * 4 = 0 from rfl] at hx282_0)
                                      (try rw [Addr.add_zero'] at hx282_0)
                                      (try rw [show ((0 : Int)).toNat = 0 from rfl] at hx282_1)
                                      (try rw [show 0 * 4 = 0 from rfl] at hx282_1)
                                      (try rw [Addr.add_zero'] at hx282_1)
                                      (try rw [show ((0 : Int)).toNat = 0 from rfl] at hx282_2)
                                      (try rw [show 0 * 4 = 0 from rfl] at hx282_2)
                                      (try rw [Addr.add_zero'] at hx282_2)
                                      (try rw [show ((0 : Int)).toNat = 0 from rfl] at hx282_3)
                                      (try rw [show 0 * 4 = 0 from rfl] at hx282_3)
                                      (try rw [Addr.add_zero'] at hx282_3)
                                      have HR282_2 := Aside0.mk hi282_2
                                      have HC282_2 := Aside0.mk hl282_2
                                      clear hi282_2 hl282_2
                                      replace p282 := eq_true p282
                                      replace q282 := eq_true q282
                                      refine start_ (n := 37) (S := fun w' => w'.cell? ad280 = some (.string ((rd_T37 t276 0).f0.f0)) ∧ w'.cell? ⟨ad280.block, ad280.off + 1, none⟩ = some (.string ((rd_T37 t276 0).f0.f1)) ∧ w'.cell? ⟨ad280.block, ad280.off + 2, none⟩ = some (.slice A280_2 ((rd_T37 t276 0).f1).length c280_2) ∧ w'.cell? ⟨ad280.block, ad280.off + 3, none⟩ = some (.bool true) ∧ w'.cell? ad280 = some (.string ((rd_T37 t276 0).f0.f0)) ∧ w'.cell? ⟨ad280.block, ad280.off + 1, none⟩ = some (.string ((rd_T37 t276 0).f0.f1)) ∧ w'.cell? ⟨ad280.block, ad280.off + 2, none⟩ = some (.slice A280_2 ((rd_T37 t276 0).f1).length c280_2) ∧ w'.cell? ⟨ad280.block, ad280.off + 3, none⟩ = some (.bool (true)) ∧ w'.cell? ad269 = some (.string ((rd_T37 t246 0).f0.f0)) ∧ w'.cell? ⟨ad269.block, ad269.off + 1, none⟩ = some (.string ((rd_T37 t246 0).f0.f1)) ∧ w'.cell? ⟨ad269.block, ad269.off + 2, none⟩ = some (.slice A282_2 ((rd_T37 t246 0).f1).length c282_2) ∧ w'.cell? ⟨ad269.block, ad269.off + 3, none⟩ = some (.bool ((rd_T37 t246 0).f2))) (ds := []) #[false, false, false, false, false, false, false, false, false, false, false, false, false, false, false, false, false, false, false, false, false, false, false, false, false, false, false, false, false, false, false, false, false, false, false, false, false] (by kernel_rfl) rfl rfl ⟨hx280_0, hx280_1, hx280_2, hx280_3, hx281_0, hx281_1, hx281_2, hx281_3, hx282_0, hx282_1, hx282_2, hx282_3⟩ (fun hHeld => ?_); refine with_tabW graftwoodlaw18_LackOrder.tab16 graftwoodlaw18_LackOrder.bits16 (fun HT_ HW_ => ?_)
                                      generalize w71.drew = w72 at HO_0 HO_1 HO_2 HO_7 HO_11 HL269_2 HO272 HO275 HO279 HB HL280_2 HL281_2 HL282_2 HR280_2 HR281_2 HR282_2 hx280_0 hx280_1 hx280_2 hx280_3 hx281_0 hx281_1 hx281_2 hx281_3 hx282_0 hx282_1 hx282_2 hx282_3 hHeld ⊢
                                      refine pure_ (i := 0) (N := some 99) (v := ?_) (a' := ?_) #[true, false, false, false, false, false, false, false, false, false, false, false, false, false, false, false, false, false, false, false, false, false, false, false, false, false, false, false, false, false, false, false, false, false, false, false, false] rfl rfl (any_of HT_.out (by kernel_rfl)) (fun _ _ _ h => h) (Or.inl ⟨by rfl, ?_⟩) ?_ ?_
                                      rotate_left
                                      · intro w'
                                        go_simp
                                        with_reducible rfl
                                      rotate_left
                                      · simp only [Act.put, List.setIfInBounds_toArray, List.set_cons_zero, List.set_cons_succ, i64_w, i32_w]
                                        rfl
                                      refine pure_ (i := 1) (N := some 100) (v := ?_) (a' := ?_) #[true, true, false, false, false, false, false, false, false, false, false, false, false, false, false, false, false, false, false, false, false, false, false, false, false, false, false, false, false, false, false, false, false, false, false, false, false] rfl rfl (any_of HT_.out (by kernel_rfl)) (fun _ _ _ h => h) (Or.inl ⟨by rfl, ?_⟩) ?_ ?_
                                      rotate_left
                                      · intro w'
                                        go_simp
                                        with_reducible rfl
                                      rotate_left
                                      · simp only [Act.put, List.setIfInBounds_toArray, List.set_cons_zero, List.set_cons_succ, i64_w, i32_w]
                                        rfl
                                      refine pure_ (i := 2) (N := some 101) (v := ?_) (a' := ?_) #[true, true, true, false, false, false, false, false, false, false, false, false, false, false, false, false, false, false, false, false, false, false, false, false, false, false, false, false, false, false, false, false, false, false, false, false, false] rfl rfl (any_of HT_.out (by kernel_rfl)) (fun _ _ _ h => h) (Or.inl ⟨by rfl, ?_⟩) ?_ ?_
                                      rotate_left
                                      · intro w'
                                        go_simp
                                        with_reducible rfl
                                      rotate_left
                                      · simp only [Act.put, List.setIfInBounds_toArray, List.set_cons_zero, List.set_cons_succ, i64_w, i32_w]
                                        rfl
                                      refine pure_ (i := 3) (N := some 102) (v := ?_) (a' := ?_) #[true, true, true, true, false, false, false, false, false, false, false, false, false, false, false, false, false, false, false, false, false, false, false, false, false, false, false, false, false, false, false, false, false, false, false, false, false] rfl rfl (any_of HT_.out (by kernel_rfl)) (fun _ _ _ h => h) (Or.inl ⟨by rfl, ?_⟩) ?_ ?_
                                      rotate_left
                                      · intro w'
                                        go_simp
                                        with_reducible rfl
                                      rotate_left
                                      · simp only [Act.put, List.setIfInBounds_toArray, List.set_cons_zero, List.set_cons_succ, i64_w, i32_w]
                                        rfl
                                      refine pure_ (i := 4) (N := some 103) (v := ?_) (a' := ?_) #[true, true, true, true, true, false, false, false, false, false, false, false, false, false, false, false, false, false, false, false, false, false, false, false, false, false, false, false, false, false, false, false, false, false, false, false, false] rfl rfl (any_of HT_.out (by kernel_rfl)) (fun _ _ _ h => h) (Or.inl ⟨by rfl, ?_⟩) ?_ ?_
                                      rotate_left
                                      · intro w'
                                        go_simp
                                        with_reducible rfl
                                      rotate_left
                                      · simp only [Act.put, List.setIfInBounds_toArray, List.set_cons_zero, List.set_cons_succ, i64_w, i32_w]
                                        rfl
                                      refine pure_ (i := 5) (N := some 104) (v := ?_) (a' := ?_) #[true, true, true, true, true, true, false, false, false, false, false, false, false, false, false, false, false, false, false, false, false, false, false, false, false, false, false, false, false, false, false, false, false, false, false, false, false] rfl rfl (any_of HT_.out (by kernel_rfl)) (fun _ _ _ h => h) (Or.inl ⟨by rfl, ?_⟩) ?_ ?_
                                      rotate_left
                                      · intro w'
                                        go_simp
                                        with_reducible rfl
                                      rotate_left
                                      · simp only [Act.put, List.setIfInBounds_toArray, List.set_cons_zero, List.set_cons_succ, i64_w, i32_w]
                                        rfl
                                      refine pure_ (i := 6) (N := some 105) (v := ?_) (a' := ?_) #[true, true, true, true, true, true, true, false, false, false, false, false, false, false, false, false, false, false, false, false, false, false, false, false, false, false, false, false, false, false, false, false, false, false, false, false, false] rfl rfl (any_of HT_.out (by kernel_rfl)) (fun _ _ _ h => h) (Or.inl ⟨by rfl, ?_⟩) ?_ ?_
                                      rotate_left
                                      · intro w'
                                        go_simp
                                        with_reducible rfl
                                      rotate_left
                                      · simp only [Act.put, List.setIfInBounds_toArray, List.set_cons_zero, List.set_cons_succ, i64_w, i32_w]
                                        rfl
                                      refine pure_ (i := 7) (N := some 106) (v := ?_) (a' := ?_) #[true, true, true, true, true, true, true, true, false, false, false, false, false, false, false, false, false, false, false, false, false, false, false, false, false, false, false, false, false, false, false, false, false, false, false, false, false] rfl rfl (any_of HT_.out (by kernel_rfl)) (fun _ _ _ h => h) (Or.inl ⟨by rfl, ?_⟩) ?_ ?_
                                      rotate_left
                                      · intro w'
                                        go_simp
                                        with_reducible rfl
                                      rotate_left
                                      · simp only [Act.put, List.setIfInBounds_toArray, List.set_cons_zero, List.set_cons_succ, i64_w, i32_w]
                                        rfl
                                      refine pure_ (i := 8) (N := some 107) (v := ?_) (a' := ?_) #[true, true, true, true, true, true, true, true, true, false, false, false, false, false, false, false, false, false, false, false, false, false, false, false, false, false, false, false, false, false, false, false, false, false, false, false, false] rfl rfl (any_of HT_.out (by kernel_rfl)) (fun _ _ _ h => h) (Or.inl ⟨by rfl, ?_⟩) ?_ ?_
                                      rotate_left
                                      · intro w'
                                        go_simp
                                        with_reducible rfl
                                      rotate_left
                                      · simp only [Act.put, List.setIfInBounds_toArray, List.set_cons_zero, List.set_cons_succ, i64_w, i32_w]
                                        rfl
                                      refine pure_ (i := 9) (N := some 108) (v := ?_) (a' := ?_) #[true, true, true, true, true, true, true, true, true, true, false, false, false, false, false, false, false, false, false, false, false, false, false, false, false, false, false, false, false, false, false, false, false, false, false, false, false] rfl rfl (any_of HT_.out (by kernel_rfl)) (fun _ _ _ h => h) (Or.inl ⟨by rfl, ?_⟩) ?_ ?_
                                      rotate_left
                                      · intro w'
                                        go_simp
                                        with_reducible rfl
                                      rotate_left
                                      · simp only [Act.put, List.setIfInBounds_toArray, List.set_cons_zero, List.set_cons_succ, i64_w, i32_w]
                                        rfl
                                      refine pure_ (i := 10) (N := some 109) (v := ?_) (a' := ?_) #[true, true, true, true, true, true, true, true, true, true, true, false, false, false, false, false, false, false, false, false, false, false, false, false, false, false, false, false, false, false, false, false, false, false, false, false, false] rfl rfl (any_of HT_.out (by kernel_rfl)) (fun _ _ _ h => h) (Or.inl ⟨by rfl, ?_⟩) ?_ ?_
                                      rotate_left
                                      · intro w'
                                        go_simp
                                        with_reducible rfl
                                      rotate_left
                                      · simp only [Act.put, List.setIfInBounds_toArray, List.set_cons_zero, List.set_cons_succ, i64_w, i32_w]
                                        rfl
                                      refine pure_ (i := 11) (N := some 110) (v := ?_) (a' := ?_) #[true, true, true, true, true, true, true, true, true, true, true, true, false, false, false, false, false, false, false, false, false, false, false, false, false, false, false, false, false, false, false, false, false, false, false, false, false] rfl rfl (any_of HT_.out (by kernel_rfl)) (fun _ _ _ h => h) (Or.inl ⟨by rfl, ?_⟩) ?_ ?_
                                      rotate_left
                                      · intro w'
                                        go_simp
                                        with_reducible rfl
                                      rotate_left
                                      · simp only [Act.put, List.setIfInBounds_toArray, List.set_cons_zero, List.set_cons_succ, i64_w, i32_w]
                                        rfl
                                      refine pure_ (i := 12) (N := some 111) (v := ?_) (a' := ?_) #[true, true, true, true, true, true, true, true, true, true, true, true, true, false, false, false, false, false, false, false, false, false, false, false, false, false, false, false, false, false, false, false, false, false, false, false, false] rfl rfl (any_of HT_.out (by kernel_rfl)) (fun _ _ _ h => h) (Or.inl ⟨by rfl, ?_⟩) ?_ ?_
                                      rotate_left
                                      · intro w'
                                        go_simp
                                        with_reducible rfl
                                      rotate_left
                                      · simp only [Act.put, List.setIfInBounds_toArray, List.set_cons_zero, List.set_cons_succ, i64_w, i32_w]
                                        rfl
                                      refine take_ (i := 13) (N := some 112) (v := ?_) (a' := ?_) #[true, true, true, true, true, true, true, true, true, true, true, true, true, true, false, false, false, false, false, false, false, false, false, false, false, false, false, false, false, false, false, false, false, false, false, false, false] rfl rfl (take_ofW HT_.out HW_.out (by kernel_rfl)) (fun _ _ _ h => h) (Or.inl ⟨by rfl, ?_⟩) hHeld ?_ ?_
                                      rotate_left
                                      · rintro w' ⟨s0, s1, s2, s3, s4, s5, s6, s7, s8, s9, s10, s11⟩
                                        go_simp
                                        with_reducible rfl
                                      rotate_left
                                      · simp only [Act.put, List.setIfInBounds_toArray, List.set_cons_zero, List.set_cons_succ, i64_w, i32_w]
                                        rfl
                                      refine pure_ (i := 14) (N := some 113) (v := ?_) (a' := ?_) #[true, true, true, true, true, true, true, true, true, true, true, true, true, true, true, false, false, false, false, false, false, false, false, false, false, false, false, false, false, false, false, false, false, false, false, false, false] rfl rfl (any_of HT_.out (by kernel_rfl)) (fun _ _ _ h => h) (Or.inl ⟨by rfl, ?_⟩) ?_ ?_
                                      rotate_left
                                      · intro w'
                                        go_simp
                                        with_reducible rfl
                                      rotate_left
                                      · simp only [Act.put, List.setIfInBounds_toArray, List.set_cons_zero, List.set_cons_succ, i64_w, i32_w]
                                        rfl
                                      refine pure_ (i := 15) (N := some 114) (v := ?_) (a' := ?_) #[true, true, true, true, true, true, true, true, true, true, true, true, true, true, true, true, false, false, false, false, false, false, false, false, false, false, false, false, false, false, false, false, false, false, false, false, false] rfl rfl (any_of HT_.out (by kernel_rfl)) (fun _ _ _ h => h) (Or.inl ⟨by rfl, ?_⟩) ?_ ?_
                                      rotate_left
                                      · intro w'
                                        go_simp
                                        with_reducible rfl
                                      rotate_left
                                      · simp only [Act.put, List.setIfInBounds_toArray, List.set_cons_zero, List.set_cons_succ, i64_w, i32_w]
                                        rfl
                                      refine pure_ (i := 16) (N := some 115) (v := ?_) (a' := ?_) #[true, true, true, true, true, true, true, true, true, true, true, true, true, true, true, true, true, false, false, false, false, false, false, false, false, false, false, false, false, false, false, false, false, false, false, false, false] rfl rfl (any_of HT_.out (by kernel_rfl)) (fun _ _ _ h => h) (Or.inl ⟨by rfl, ?_⟩) ?_ ?_
                                      rotate_left
                                      · intro w'
                                        go_simp
                                        with_reducible rfl
                                      rotate_left
                                      · simp only [Act.put, List.setIfInBounds_toArray, List.set_cons_zero, List.set_cons_succ, i64_w, i32_w]
                                        rfl
                                      refine pure_ (i := 17) (N := some 116) (v := ?_) (a' := ?_) #[true, true, true, true, true, true, true, true, true, true, true, true, true, true, true, true, true, true, false, false, false, false, false, false, false, false, false, false, false, false, false, false, false, false, false, false, false] rfl rfl (any_of HT_.out (by kernel_rfl)) (fun _ _ _ h => h) (Or.inl ⟨by rfl, ?_⟩) ?_ ?_
                                      rotate_left
                                      · intro w'
                                        go_simp
                                        with_reducible rfl
                                      rotate_left
                                      · simp only [Act.put, List.setIfInBounds_toArray, List.set_cons_zero, List.set_cons_succ, i64_w, i32_w]
                                        rfl
                                      refine pure_ (i := 18) (N := some 117) (v := ?_) (a' := ?_) #[true, true, true, true, true, true, true, true, true, true, true, true, true, true, true, true, true, true, true, false, false, false, false, false, false, false, false, false, false, false, false, false, false, false, false, false, false] rfl rfl (any_of HT_.out (by kernel_rfl)) (fun _ _ _ h => h) (Or.inl ⟨by rfl, ?_⟩) ?_ ?_
                                      rotate_left
                                      · intro w'
                                        go_simp
                                        with_reducible rfl
                                      rotate_left
                                      · simp only [Act.put, List.setIfInBounds_toArray, List.set_cons_zero, List.set_cons_succ, i64_w, i32_w]
                                        rfl
                                      refine pure_ (i := 20) (N := some 119) (v := ?_) (a' := ?_) #[true, true, true, true, true, true, true, true, true, true, true, true, true, true, true, true, true, true, true, false, true, false, false, false, false, false, false, false, false, false, false, false, false, false, false, false, false] rfl rfl (any_of HT_.out (by kernel_rfl)) (fun _ _ _ h => h) (Or.inl ⟨by rfl, ?_⟩) ?_ ?_
                                      rotate_left
                                      · intro w'
                                        go_simp
                                        with_reducible rfl
                                      rotate_left
                                      · simp only [Act.put, List.setIfInBounds_toArray, List.set_cons_zero, List.set_cons_succ, i64_w, i32_w]
                                        rfl
                                      refine pure_ (i := 21) (N := some 120) (v := ?_) (a' := ?_) #[true, true, true, true, true, true, true, true, true, true, true, true, true, true, true, true, true, true, true, false, true, true, false, false, false, false, false, false, false, false, false, false, false, false, false, false, false] rfl rfl (any_of HT_.out (by kernel_rfl)) (fun _ _ _ h => h) (Or.inl ⟨by rfl, ?_⟩) ?_ ?_
                                      rotate_left
                                      · intro w'
                                        go_simp
                                        with_reducible rfl
                                      rotate_left
                                      · simp only [Act.put, List.setIfInBounds_toArray, List.set_cons_zero, List.set_cons_succ, i64_w, i32_w]
                                        rfl
                                      refine pure_ (i := 22) (N := some 121) (v := ?_) (a' := ?_) #[true, true, true, true, true, true, true, true, true, true, true, true, true, true, true, true, true, true, true, false, true, true, true, false, false, false, false, false, false, false, false, false, false, false, false, false, false] rfl rfl (any_of HT_.out (by kernel_rfl)) (fun _ _ _ h => h) (Or.inl ⟨by rfl, ?_⟩) ?_ ?_
                                      rotate_left
                                      · intro w'
                                        go_simp
                                        with_reducible rfl
                                      rotate_left
                                      · simp only [Act.put, List.setIfInBounds_toArray, List.set_cons_zero, List.set_cons_succ, i64_w, i32_w]
                                        rfl
                                      refine take_ (i := 19) (N := some 118) (v := ?_) (a' := ?_) #[true, true, true, true, true, true, true, true, true, true, true, true, true, true, true, true, true, true, true, true, true, true, true, false, false, false, false, false, false, false, false, false, false, false, false, false, false] rfl rfl (take_ofW HT_.out HW_.out (by kernel_rfl)) (fun _ _ _ h => h) (Or.inl ⟨by rfl, ?_⟩) hHeld ?_ ?_
                                      rotate_left
                                      · rintro w' ⟨s0, s1, s2, s3, s4, s5, s6, s7, s8, s9, s10, s11⟩
                                        go_simp
                                        with_reducible rfl
                                      rotate_left
                                      · simp only [Act.put, List.setIfInBounds_toArray, List.set_cons_zero, List.set_cons_succ, i64_w, i32_w]
                                        rfl
                                      refine take_ (i := 23) (N := some 122) (v := ?_) (a' := ?_) #[true, true, true, true, true, true, true, true, true, true, true, true, true, true, true, true, true, true, true, true, true, true, true, true, false, false, false, false, false, false, false, false, false, false, false, false, false] rfl rfl (take_ofW HT_.out HW_.out (by kernel_rfl)) (fun _ _ _ h => h) (Or.inl ⟨by rfl, ?_⟩) hHeld ?_ ?_
                                      rotate_left
                                      · rintro w' ⟨s0, s1, s2, s3, s4, s5, s6, s7, s8, s9, s10, s11⟩
                                        go_simp
                                        with_reducible rfl
                                      rotate_left
                                      · simp only [Act.put, List.setIfInBounds_toArray, List.set_cons_zero, List.set_cons_succ, i64_w, i32_w]
                                        rfl
                                      refine one_ (i := 24) (N := some 123) #[true, true, true, true, true, true, true, true, true, true, true, true, true, true, true, true, true, true, true, true, true, true, true, true, true, false, false, false, false, false, false, false, false, false, false, false, false] rfl rfl (one_of HT_.out (by kernel_rfl)) (by decide) (fun K hK => ?_)
                                      refine goes_ Tryd.func11 (by kernel_rfl) rfl #[.slice A280_2 ((rd_T37 t276 0).f1).length c280_2, .slice A282_2 ((rd_T37 t246 0).f1).length c282_2] (by rfl) rfl rfl (by (try simp only [List.map_toArray, List.map_cons, List.map_nil]); first | done | rfl | (simp only [List.length_drop, List.length_take]; rfl)) ?_
                                      with_reducible refine (graftwoodref05_Same.calls kj26 _ _ ((rd_T37 t276 0).f1) _ _ ((rd_T37 t246 0).f1) true _ ?side1 ?side2 ?side3 ?side4 A55.out).mono ?_
                                      (case side1 => repeat (first | exact (by repeat (first | (with_reducible exact HR281_2.out) | (with_reducible refine Kd.C_alloc ?_ _) | (with_reducible refine Kd.C_drewN ?_ _) | (with_reducible refine Kd.C_drew ?_) | exact HR281_2.out)) | (with_reducible refine Kd.C_alloc ?_ _) | (with_reducible refine Kd.C_drewN ?_ _) | (with_reducible refine Kd.C_drew ?_)))
                                      (case side2 => exact HC281_2.out)
                                      (case side3 => repeat (first | exact (by repeat (first | (with_reducible exact HR282_2.out) | (with_reducible refine Kd.C_alloc ?_ _) | (with_reducible refine Kd.C_drewN ?_ _) | (with_reducible refine Kd.C_drew ?_) | exact HR282_2.out)) | (with_reducible refine Kd.C_alloc ?_ _) | (with_reducible refine Kd.C_drewN ?_ _) | (with_reducible refine Kd.C_drew ?_)))
                                      (case side4 => exact HC282_2.out)
                                      rintro e w' ⟨rfl, ⟨nd, rfl⟩⟩
                                      refine ⟨_, rfl, ?_⟩
                                      have q74 : (1 : Int) ≤ ((t276.length : Int) : Int) := of_decide_eq_true (by first | (with_reducible assumption) | assumption)
                                      obtain ⟨i074, hi074, _, hsz74, _⟩ := info_parts info37
                                      have hroom74 : t276.length ≤ co73 := (Kd.S_reads' HO279.out).2.1
                                      have hC74 : Kd.C k37 _ (some ad280) t276.length t276 := (Kd.S_reads' HO279.out).2.2
                                      have hcut74 := cut_from (P := Tryd.prog) 26 37 .i64 Tryd.underlying26 hi074 4 hsz74 (some ad280) t276.length co73 1 (by omega) q74
                                      have hr74 := Kd.C_drop (m := (1 : Int).toNat) (c := co73) hC74 (by omega) hroom74
                                      obtain ⟨A74, hA74⟩ : ∃ A1, A1 = (if co73 = (1 : Int).toNat then (some ad280) else ((some ad280) : Option Addr).map (·.add ((1 : Int).toNat * 4))) := ⟨_, rfl⟩
                                      obtain ⟨c74, hc74⟩ : ∃ c1, c1 = co73 - (1 : Int).toNat := ⟨_, rfl⟩
                                      have hy74 : y284.length = t276.length - (1 : Int).toNat := (by rw [Ny284.out, List.length_drop] <;> omega)
                                      rw [show (t276).drop (1 : Int).toNat = y284 from Ny284.out.symm] at hr74
                                      replace hr74 : Kd.C k37 _ A74 y284.length y284 := (by rw [hA74]; exact hr74)
                                      rw [← hy74, ← hA74, ← hc74] at hcut74
                                      have HR287 := Aside0.mk hr74
                                      have HC287 := Aside0.mk (show y284.length ≤ c74 from by rw [hy74, hc74]; exact Nat.sub_le_sub_right hroom74 _)
                                      clear hr74 hC74 hroom74 hi074 hsz74 hc74
                                      have KY74 := Aside0.mk hy74
                                      have KA74 := Aside0.mk hA74
                                      clear hy74 hA74
                                      have KL74 := Aside0.mk (show 1 ≤ t276.length from by omega)
                                      replace q74 := eq_true q74
                                      have q75 : (1 : Int) ≤ ((t246.length : Int) : Int) := of_decide_eq_true (by first | (with_reducible assumption) | assumption)
                                      obtain ⟨i075, hi075, _, hsz75, _⟩ := info_parts info37
                                      have hroom75 : t246.length ≤ co63 := (Kd.S_reads' HO_7.out).2.1
                                      have hC75 : Kd.C k37 _ (some ad269) t246.length t246 := (Kd.S_reads' HO_7.out).2.2
                                      have hcut75 := cut_from (P := Tryd.prog) 26 37 .i64 Tryd.underlying26 hi075 4 hsz75 (some ad269) t246.length co63 1 (by omega) q75
                                      have hr75 := Kd.C_drop (m := (1 : Int).toNat) (c := co63) hC75 (by omega) hroom75
                                      obtain ⟨A75, hA75⟩ : ∃ A1, A1 = (if co63 = (1 : Int).toNat then (some ad269) else ((some ad269) : Option Addr).map (·.add ((1 : Int).toNat * 4))) := ⟨_, rfl⟩
                                      obtain ⟨c75, hc75⟩ : ∃ c1, c1 = co63 - (1 : Int).toNat := ⟨_, rfl⟩
                                      have hy75 : y288.length = t246.length - (1 : Int).toNat := (by rw [Ny288.out, List.length_drop] <;> omega)
                                      rw [show (t246).drop (1 : Int).toNat = y288 from Ny288.out.symm] at hr75
                                      replace hr75 : Kd.C k37 _ A75 y288.length y288 := (by rw [hA75]; exact hr75)
                                      rw [← hy75, ← hA75, ← hc75] at hcut75
                                      have HR291 := Aside0.mk hr75
                                      have HC291 := Aside0.mk (show y288.length ≤ c75 from by rw [hy75, hc75]; exact Nat.sub_le_sub_right hroom75 _)
                                      clear hr75 hC75 hroom75 hi075 hsz75 hc75
                                      have KY75 := Aside0.mk hy75
                                      have KA75 := Aside0.mk hA75
                                      clear hy75 hA75
                                      have KL75 := Aside0.mk (show 1 ≤ t246.length from by omega)
                                      replace q75 := eq_true q75
                                      refine hK.out _ _ ⟨hHeld.1, hHeld.2.1, hHeld.2.2.1, hHeld.2.2.2.1, hHeld.2.2.2.2.1, hHeld.2.2.2.2.2.1, hHeld.2.2.2.2.2.2.1, hHeld.2.2.2.2.2.2.2.1, hHeld.2.2.2.2.2.2.2.2.1, hHeld.2.2.2.2.2.2.2.2.2.1, hHeld.2.2.2.2.2.2.2.2.2.2.1, hHeld.2.2.2.2.2.2.2.2.2.2.2⟩ (fun hHeld => ?_)
                                      clear hK K
                                      refine norm_ (a' := ?_) ?_ ?_
                                      rotate_left
                                      · show Act.put _ (some 123) _ = _
                                        simp only [Act.put, List.setIfInBounds_toArray, List.set_cons_zero, List.set_cons_succ, i64_w, i32_w]
                                        rfl
                                      refine pure_ (i := 25) (N := some 124) (v := ?_) (a' := ?_) #[true, true, true, true, true, true, true, true, true, true, true, true, true, true, true, true, true, true, true, true, true, true, true, true, true, true, false, false, false, false, false, false, false, false, false, false, false] rfl rfl (any_of HT_.out (by kernel_rfl)) (fun _ _ _ h => h) (Or.inl ⟨by rfl, ?_⟩) ?_ ?_
                                      rotate_left
                                      · intro w'
                                        go_simp
                                        with_reducible rfl
                                      rotate_left
                                      · simp only [Act.put, List.setIfInBounds_toArray, List.set_cons_zero, List.set_cons_succ, i64_w, i32_w]
                                        rfl
                                      refine pure_ (i := 26) (N := some 125) (v := ?_) (a' := ?_) #[true, true, true, true, true, true, true, true, true, true, true, true, true, true, true, true, true, true, true, true, true, true, true, true, true, true, true, false, false, false, false, false, false, false, false, false, false] rfl rfl (any_of HT_.out (by kernel_rfl)) (fun _ _ _ h => h) (Or.inl ⟨by rfl, ?_⟩) ?_ ?_
                                      rotate_left
                                      · intro w'
                                        go_simp
                                        with_reducible rfl
                                      rotate_left
                                      · simp only [Act.put, List.setIfInBounds_toArray, List.set_cons_zero, List.set_cons_succ, i64_w, i32_w]
                                        rfl
                                      refine pure_ (i := 27) (N := some 126) (v := ?_) (a' := ?_) #[true, true, true, true, true, true, true, true, true, true, true, true, true, true, true, true, true, true, true, true, true, true, true, true, true, true, true, true, false, false, false, false, false, false, false, false, false] rfl rfl (any_of HT_.out (by kernel_rfl)) (fun _ _ _ h => h) (Or.inl ⟨by rfl, ?_⟩) ?_ ?_
                                      rotate_left
                                      · intro w'
                                        go_simp
                                        with_reducible rfl
                                      rotate_left
                                      · simp only [Act.put, List.setIfInBounds_toArray, List.set_cons_zero, List.set_cons_succ, i64_w, i32_w]
                                        rfl
                                      refine pure_ (i := 28) (N := some 127) (v := ?_) (a' := ?_) #[true, true, true, true, true, true, true, true, true, true, true, true, true, true, true, true, true, true, true, true, true, true, true, true, true, true, true, true, true, false, false, false, false, false, false, false, false] rfl rfl (any_of HT_.out (by kernel_rfl)) (fun _ _ _ h => h) (Or.inl ⟨by rfl, ?_⟩) ?_ ?_
                                      rotate_left
                                      · intro w'
                                        go_simp
                                        with_reducible rfl
                                      rotate_left
                                      · simp only [Act.put, List.setIfInBounds_toArray, List.set_cons_zero, List.set_cons_succ, i64_w, i32_w]
                                        rfl
                                      refine pure_ (i := 29) (N := some 128) (v := ?_) (a' := ?_) #[true, true, true, true, true, true, true, true, true, true, true, true, true, true, true, true, true, true, true, true, true, true, true, true, true, true, true, true, true, true, false, false, false, false, false, false, false] rfl rfl (any_of HT_.out (by kernel_rfl)) (fun _ _ _ h => h) (Or.inl ⟨by rfl, ?_⟩) ?_ ?_
                                      rotate_left
                                      · intro w'
                                        go_simp
                                        with_reducible rfl
                                      rotate_left
                                      · simp only [Act.put, List.setIfInBounds_toArray, List.set_cons_zero, List.set_cons_succ, i64_w, i32_w]
                                        rfl
                                      refine pure_ (i := 30) (N := some 129) (v := ?_) (a' := ?_) #[true, true, true, true, true, true, true, true, true, true, true, true, true, true, true, true, true, true, true, true, true, true, true, true, true, true, true, true, true, true, true, false, false, false, false, false, false] rfl rfl (any_of HT_.out (by kernel_rfl)) (fun _ _ _ h => h) (Or.inl ⟨by rfl, ?_⟩) ?_ ?_
                                      rotate_left
                                      · intro w'
                                        go_simp
                                        with_reducible rfl
                                      rotate_left
                                      · simp only [Act.put, List.setIfInBounds_toArray, List.set_cons_zero, List.set_cons_succ, i64_w, i32_w]
                                        rfl
                                      refine one_ (i := 31) (N := some 130) #[true, true, true, true, true, true, true, true, true, true, true, true, true, true, true, true, true, true, true, true, true, true, true, true, true, true, true, true, true, true, true, true, false, false, false, false, false] rfl rfl (one_of HT_.out (by kernel_rfl)) (by decide) (fun K hK => ?_)
                                      refine goes_ Tryd.func10 (by kernel_rfl) rfl #[.slice A74 y284.length c74, .slice A75 y288.length c75] (by rfl) rfl rfl (by (try simp only [List.map_toArray, List.map_cons, List.map_nil]); first | done | rfl | (simp only [List.length_drop, List.length_take]; rfl)) ?_
                                      with_reducible refine (graftwoodref18_Same.calls kj26 _ _ y284 _ _ y288 true _ ?side1 ?side2 ?side3 ?side4 A59.out).mono ?_
                                      (case side1 => repeat (first | exact (by repeat (first | (with_reducible exact HR287.out) | (with_reducible refine Kd.C_alloc ?_ _) | (with_reducible refine Kd.C_drewN ?_ _) | (with_reducible refine Kd.C_drew ?_) | exact HR287.out)) | (with_reducible refine Kd.C_alloc ?_ _) | (with_reducible refine Kd.C_drewN ?_ _) | (with_reducible refine Kd.C_drew ?_)))
                                      (case side2 => exact HC287.out)
                                      (case side3 => repeat (first | exact (by repeat (first | (with_reducible exact HR291.out) | (with_reducible refine Kd.C_alloc ?_ _) | (with_reducible refine Kd.C_drewN ?_ _) | (with_reducible refine Kd.C_drew ?_) | exact HR291.out)) | (with_reducible refine Kd.C_alloc ?_ _) | (with_reducible refine Kd.C_drewN ?_ _) | (with_reducible refine Kd.C_drew ?_)))
                                      (case side4 => exact HC291.out)
                                      rintro e w76 ⟨rfl, hb⟩
                                      have HS0_ := (hb.cell (World.block_lt_of_cell? _ _ (hHeld.1))).trans (hHeld.1)
                                      have HS1_ := (hb.cell (World.block_lt_of_cell? _ _ (hHeld.2.1))).trans (hHeld.2.1)
                                      have HS2_ := (hb.cell (World.block_lt_of_cell? _ _ (hHeld.2.2.1))).trans (hHeld.2.2.1)
                                      have HS3_ := (hb.cell (World.block_lt_of_cell? _ _ (hHeld.2.2.2.1))).trans (hHeld.2.2.2.1)
                                      have HS4_ := (hb.cell (World.block_lt_of_cell? _ _ (hHeld.2.2.2.2.1))).trans (hHeld.2.2.2.2.1)
                                      have HS5_ := (hb.cell (World.block_lt_of_cell? _ _ (hHeld.2.2.2.2.2.1))).trans (hHeld.2.2.2.2.2.1)
                                      have HS6_ := (hb.cell (World.block_lt_of_cell? _ _ (hHeld.2.2.2.2.2.2.1))).trans (hHeld.2.2.2.2.2.2.1)
                                      have HS7_ := (hb.cell (World.block_lt_of_cell? _ _ (hHeld.2.2.2.2.2.2.2.1))).trans (hHeld.2.2.2.2.2.2.2.1)
                                      have HS8_ := (hb.cell (World.block_lt_of_cell? _ _ (hHeld.2.2.2.2.2.2.2.2.1))).trans (hHeld.2.2.2.2.2.2.2.2.1)
                                      have HS9_ := (hb.cell (World.block_lt_of_cell? _ _ (hHeld.2.2.2.2.2.2.2.2.2.1))).trans (hHeld.2.2.2.2.2.2.2.2.2.1)
                                      have HS10_ := (hb.cell (World.block_lt_of_cell? _ _ (hHeld.2.2.2.2.2.2.2.2.2.2.1))).trans (hHeld.2.2.2.2.2.2.2.2.2.2.1)
                                      have HS11_ := (hb.cell (World.block_lt_of_cell? _ _ (hHeld.2.2.2.2.2.2.2.2.2.2.2))).trans (hHeld.2.2.2.2.2.2.2.2.2.2.2)
                                      refine ⟨_, rfl, ?_⟩
                                      have n0_ := Aside0.mk (Kd.R_below (by (with_reducible repeat (first | apply Kd.R_alloc | apply Kd.R_drewN | apply Kd.R_drew)); exact HO_0.out) hb)
                                      have n1_ := Aside0.mk (Kd.R_below (by (with_reducible repeat (first | apply Kd.R_alloc | apply Kd.R_drewN | apply Kd.R_drew)); exact HO_1.out) hb)
                                      have n2_ := Aside0.mk (Kd.R_below (by (with_reducible repeat (first | apply Kd.R_alloc | apply Kd.R_drewN | apply Kd.R_drew)); exact HO_2.out) hb)
                                      have n3_ := Aside0.mk (Kd.S_below (by (with_reducible repeat (first | apply Kd.S_alloc | apply Kd.S_drewN | apply Kd.S_drew)); exact HO_7.out) hb)
                                      have n4_ := Aside0.mk (Kd.S_below (by (with_reducible repeat (first | apply Kd.S_alloc | apply Kd.S_drewN | apply Kd.S_drew)); exact HO_11.out) hb)
                                      have n5_ := Aside0.mk (Kd.R_below (by (with_reducible repeat (first | apply Kd.R_alloc | apply Kd.R_drewN | apply Kd.R_drew)); exact HL269_2.out) hb)
                                      have n6_ := Aside0.mk (Kd.R_below (by (with_reducible repeat (first | apply Kd.R_alloc | apply Kd.R_drewN | apply Kd.R_drew)); exact HO272.out) hb)
                                      have n7_ := Aside0.mk (Kd.R_below (by (with_reducible repeat (first | apply Kd.R_alloc | apply Kd.R_drewN | apply Kd.R_drew)); exact HO275.out) hb)
                                      have n8_ := Aside0.mk (Kd.S_below (by (with_reducible repeat (first | apply Kd.S_alloc | apply Kd.S_drewN | apply Kd.S_drew)); exact HO279.out) hb)
                                      have n9_ := Aside0.mk (Kd.R_below (by (with_reducible repeat (first | apply Kd.R_alloc | apply Kd.R_drewN | apply Kd.R_drew)); exact HL280_2.out) hb)
                                      have n10_ := Aside0.mk (Kd.R_below (by (with_reducible repeat (first | apply Kd.R_alloc | apply Kd.R_drewN | apply Kd.R_drew)); exact HL281_2.out) hb)
                                      have n11_ := Aside0.mk (Kd.R_below (by (with_reducible repeat (first | apply Kd.R_alloc | apply Kd.R_drewN | apply Kd.R_drew)); exact HL282_2.out) hb)
                                      have n12_ := Aside0.mk (Kd.C_below (by (with_reducible repeat (first | apply Kd.C_alloc | apply Kd.C_drewN | apply Kd.C_drew)); exact HR280_2.out) hb)
                                      have n13_ := Aside0.mk (Kd.C_below (by (with_reducible repeat (first | apply Kd.C_alloc | apply Kd.C_drewN | apply Kd.C_drew)); exact HR281_2.out) hb)
                                      have n14_ := Aside0.mk (Kd.C_below (by (with_reducible repeat (first | apply Kd.C_alloc | apply Kd.C_drewN | apply Kd.C_drew)); exact HR282_2.out) hb)
                                      have n15_ := Aside0.mk (Kd.C_below (by (with_reducible repeat (first | apply Kd.C_alloc | apply Kd.C_drewN | apply Kd.C_drew)); exact HR287.out) hb)
                                      have n16_ := Aside0.mk (Kd.C_below (by (with_reducible repeat (first | apply Kd.C_alloc | apply Kd.C_drewN | apply Kd.C_drew)); exact HR291.out) hb)
                                      have n17_ := Aside0.mk (below_step (by repeat (first | (with_reducible first | exact HB.out | apply below_alloc | apply pw_below_drewN | apply below_drew1) | exact HB.out)) hb)
                                      clear HO_0
                                      clear HO_1
                                      clear HO_2
                                      clear HO_7
                                      clear HO_11
                                      clear HL269_2
                                      clear HO272
                                      clear HO275
                                      clear HO279
                                      clear HL280_2
                                      clear HL281_2
                                      clear HL282_2
                                      clear HR280_2
                                      clear HR281_2
                                      clear HR282_2
                                      clear HR287
                                      clear HR291
                                      clear HB
                                      have HO_0 := n0_
                                      have HO_1 := n1_
                                      have HO_2 := n2_
                                      have HO_7 := n3_
                                      have HO_11 := n4_
                                      have HL269_2 := n5_
                                      have HO272 := n6_
                                      have HO275 := n7_
                                      have HO279 := n8_
                                      have HL280_2 := n9_
                                      have HL281_2 := n10_
                                      have HL282_2 := n11_
                                      have HR280_2 := n12_
                                      have HR281_2 := n13_
                                      have HR282_2 := n14_
                                      have HR287 := n15_
                                      have HR291 := n16_
                                      have HB := n17_
                                      clear n0_ n1_ n2_ n3_ n4_ n5_ n6_ n7_ n8_ n9_ n10_ n11_ n12_ n13_ n14_ n15_ n16_ n17_
                                      (try clear hb)
                                      (try clear hb2)
                                      (try clear hk)
                                      (try clear hi)
                                      refine hK.out _ _ ⟨HS0_, HS1_, HS2_, HS3_, HS4_, HS5_, HS6_, HS7_, HS8_, HS9_, HS10_, HS11_⟩ (fun hHeld => ?_)
                                      clear hK K
                                      refine norm_ (a' := ?_) ?_ ?_
                                      rotate_left
                                      · show Act.put _ (some 130) _ = _
                                        simp only [Act.put, List.setIfInBounds_toArray, List.set_cons_zero, List.set_cons_succ, i64_w, i32_w]
                                        rfl
                                      refine pure_ (i := 32) (N := some 131) (v := ?_) (a' := ?_) #[true, true, true, true, true, true, true, true, true, true, true, true, true, true, true, true, true, true, true, true, true, true, true, true, true, true, true, true, true, true, true, true, true, false, false, false, false] rfl rfl (any_of HT_.out (by kernel_rfl)) (fun _ _ _ h => h) (Or.inl ⟨by rfl, ?_⟩) ?_ ?_
                                      rotate_left
                                      · intro w'
                                        go_simp
                                        with_reducible rfl
                                      rotate_left
                                      · simp only [Act.put, List.setIfInBounds_toArray, List.set_cons_zero, List.set_cons_succ, i64_w, i32_w]
                                        rfl
                                      refine pure_ (i := 33) (N := some 132) (v := ?_) (a' := ?_) #[true, true, true, true, true, true, true, true, true, true, true, true, true, true, true, true, true, true, true, true, true, true, true, true, true, true, true, true, true, true, true, true, true, true, false, false, false] rfl rfl (any_of HT_.out (by kernel_rfl)) (fun _ _ _ h => h) (Or.inl ⟨by rfl, ?_⟩) ?_ ?_
                                      rotate_left
                                      · intro w'
                                        go_simp
                                        with_reducible rfl
                                      rotate_left
                                      · simp only [Act.put, List.setIfInBounds_toArray, List.set_cons_zero, List.set_cons_succ, i64_w, i32_w]
                                        rfl
                                      refine one_ (i := 34) (N := some 133) #[true, true, true, true, true, true, true, true, true, true, true, true, true, true, true, true, true, true, true, true, true, true, true, true, true, true, true, true, true, true, true, true, true, true, true, false, false] rfl rfl (one_of HT_.out (by kernel_rfl)) (by decide) (fun K hK => ?_)
                                      refine goes_ Tryd.func9 (by kernel_rfl) rfl #[] (by rfl) rfl rfl (by (try simp only [List.map_toArray, List.map_cons, List.map_nil]); first | done | rfl | (simp only [List.length_drop, List.length_take]; rfl)) ?_
                                      with_reducible refine (graftwoodlaw18_awake.calls  t293 _ A61.out HR_).mono ?_
                                      rintro e w77 ⟨rfl, hb⟩
                                      have HS0_ := (hb.cell (World.block_lt_of_cell? _ _ (hHeld.1))).trans (hHeld.1)
                                      have HS1_ := (hb.cell (World.block_lt_of_cell? _ _ (hHeld.2.1))).trans (hHeld.2.1)
                                      have HS2_ := (hb.cell (World.block_lt_of_cell? _ _ (hHeld.2.2.1))).trans (hHeld.2.2.1)
                                      have HS3_ := (hb.cell (World.block_lt_of_cell? _ _ (hHeld.2.2.2.1))).trans (hHeld.2.2.2.1)
                                      have HS4_ := (hb.cell (World.block_lt_of_cell? _ _ (hHeld.2.2.2.2.1))).trans (hHeld.2.2.2.2.1)
                                      have HS5_ := (hb.cell (World.block_lt_of_cell? _ _ (hHeld.2.2.2.2.2.1))).trans (hHeld.2.2.2.2.2.1)
                                      have HS6_ := (hb.cell (World.block_lt_of_cell? _ _ (hHeld.2.2.2.2.2.2.1))).trans (hHeld.2.2.2.2.2.2.1)
                                      have HS7_ := (hb.cell (World.block_lt_of_cell? _ _ (hHeld.2.2.2.2.2.2.2.1))).trans (hHeld.2.2.2.2.2.2.2.1)
                                      have HS8_ := (hb.cell (World.block_lt_of_cell? _ _ (hHeld.2.2.2.2.2.2.2.2.1))).trans (hHeld.2.2.2.2.2.2.2.2.1)
                                      have HS9_ := (hb.cell (World.block_lt_of_cell? _ _ (hHeld.2.2.2.2.2.2.2.2.2.1))).trans (hHeld.2.2.2.2.2.2.2.2.2.1)
                                      have HS10_ := (hb.cell (World.block_lt_of_cell? _ _ (hHeld.2.2.2.2.2.2.2.2.2.2.1))).trans (hHeld.2.2.2.2.2.2.2.2.2.2.1)
                                      have HS11_ := (hb.cell (World.block_lt_of_cell? _ _ (hHeld.2.2.2.2.2.2.2.2.2.2.2))).trans (hHeld.2.2.2.2.2.2.2.2.2.2.2)
                                      refine ⟨_, rfl, ?_⟩
                                      have n0_ := Aside0.mk (Kd.R_below (by (with_reducible repeat (first | apply Kd.R_alloc | apply Kd.R_drewN | apply Kd.R_drew)); exact HO_0.out) hb)
                                      have n1_ := Aside0.mk (Kd.R_below (by (with_reducible repeat (first | apply Kd.R_alloc | apply Kd.R_drewN | apply Kd.R_drew)); exact HO_1.out) hb)
                                      have n2_ := Aside0.mk (Kd.R_below (by (with_reducible repeat (first | apply Kd.R_alloc | apply Kd.R_drewN | apply Kd.R_drew)); exact HO_2.out) hb)
                                      have n3_ := Aside0.mk (Kd.S_below (by (with_reducible repeat (first | apply Kd.S_alloc | apply Kd.S_drewN | apply Kd.S_drew)); exact HO_7.out) hb)
                                      have n4_ := Aside0.mk (Kd.S_below (by (with_reducible repeat (first | apply Kd.S_alloc | apply Kd.S_drewN | apply Kd.S_drew)); exact HO_11.out) hb)
                                      have n5_ := Aside0.mk (Kd.R_below (by (with_reducible repeat (first | apply Kd.R_alloc | apply Kd.R_drewN | apply Kd.R_drew)); exact HL269_2.out) hb)
                                      have n6_ := Aside0.mk (Kd.R_below (by (with_reducible repeat (first | apply Kd.R_alloc | apply Kd.R_drewN | apply Kd.R_drew)); exact HO272.out) hb)
                                      have n7_ := Aside0.mk (Kd.R_below (by (with_reducible repeat (first | apply Kd.R_alloc | apply Kd.R_drewN | apply Kd.R_drew)); exact HO275.out) hb)
                                      have n8_ := Aside0.mk (Kd.S_below (by (with_reducible repeat (first | apply Kd.S_alloc | apply Kd.S_drewN | apply Kd.S_drew)); exact HO279.out) hb)
                                      have n9_ := Aside0.mk (Kd.R_below (by (with_reducible repeat (first | apply Kd.R_alloc | apply Kd.R_drewN | apply Kd.R_drew)); exact HL280_2.out) hb)
                                      have n10_ := Aside0.mk (Kd.R_below (by (with_reducible repeat (first | apply Kd.R_alloc | apply Kd.R_drewN | apply Kd.R_drew)); exact HL281_2.out) hb)
                                      have n11_ := Aside0.mk (Kd.R_below (by (with_reducible repeat (first | apply Kd.R_alloc | apply Kd.R_drewN | apply Kd.R_drew)); exact HL282_2.out) hb)
                                      have n12_ := Aside0.mk (Kd.C_below (by (with_reducible repeat (first | apply Kd.C_alloc | apply Kd.C_drewN | apply Kd.C_drew)); exact HR280_2.out) hb)
                                      have n13_ := Aside0.mk (Kd.C_below (by (with_reducible repeat (first | apply Kd.C_alloc | apply Kd.C_drewN | apply Kd.C_drew)); exact HR281_2.out) hb)
                                      have n14_ := Aside0.mk (Kd.C_below (by (with_reducible repeat (first | apply Kd.C_alloc | apply Kd.C_drewN | apply Kd.C_drew)); exact HR282_2.out) hb)
                                      have n15_ := Aside0.mk (Kd.C_below (by (with_reducible repeat (first | apply Kd.C_alloc | apply Kd.C_drewN | apply Kd.C_drew)); exact HR287.out) hb)
                                      have n16_ := Aside0.mk (Kd.C_below (by (with_reducible repeat (first | apply Kd.C_alloc | apply Kd.C_drewN | apply Kd.C_drew)); exact HR291.out) hb)
                                      have n17_ := Aside0.mk (below_step (by repeat (first | (with_reducible first | exact HB.out | apply below_alloc | apply pw_below_drewN | apply below_drew1) | exact HB.out)) hb)
                                      clear HO_0
                                      clear HO_1
                                      clear HO_2
                                      clear HO_7
                                      clear HO_11
                                      clear HL269_2
                                      clear HO272
                                      clear HO275
                                      clear HO279
                                      clear HL280_2
                                      clear HL281_2
                                      clear HL282_2
                                      clear HR280_2
                                      clear HR281_2
                                      clear HR282_2
                                      clear HR287
                                      clear HR291
                                      clear HB
                                      have HO_0 := n0_
                                      have HO_1 := n1_
                                      have HO_2 := n2_
                                      have HO_7 := n3_
                                      have HO_11 := n4_
                                      have HL269_2 := n5_
                                      have HO272 := n6_
                                      have HO275 := n7_
                                      have HO279 := n8_
                                      have HL280_2 := n9_
                                      have HL281_2 := n10_
                                      have HL282_2 := n11_
                                      have HR280_2 := n12_
                                      have HR281_2 := n13_
                                      have HR282_2 := n14_
                                      have HR287 := n15_
                                      have HR291 := n16_
                                      have HB := n17_
                                      clear n0_ n1_ n2_ n3_ n4_ n5_ n6_ n7_ n8_ n9_ n10_ n11_ n12_ n13_ n14_ n15_ n16_ n17_
                                      (try clear hb)
                                      (try clear hb2)
                                      (try clear hk)
                                      (try clear hi)
                                      refine hK.out _ _ ⟨HS0_, HS1_, HS2_, HS3_, HS4_, HS5_, HS6_, HS7_, HS8_, HS9_, HS10_, HS11_⟩ (fun hHeld => ?_)
                                      clear hK K
                                      refine norm_ (a' := ?_) ?_ ?_
                                      rotate_left
                                      · show Act.put _ (some 133) _ = _
                                        simp only [Act.put, List.setIfInBounds_toArray, List.set_cons_zero, List.set_cons_succ, i64_w, i32_w]
                                        rfl
                                      refine pure_ (i := 35) (N := some 134) (v := ?_) (a' := ?_) #[true, true, true, true, true, true, true, true, true, true, true, true, true, true, true, true, true, true, true, true, true, true, true, true, true, true, true, true, true, true, true, true, true, true, true, true, false] rfl rfl (any_of HT_.out (by kernel_rfl)) (fun _ _ _ h => h) (Or.inl ⟨by rfl, ?_⟩) ?_ ?_
                                      rotate_left
                                      · intro w'
                                        go_simp
                                        with_reducible rfl
                                      rotate_left
                                      · simp only [Act.put, List.setIfInBounds_toArray, List.set_cons_zero, List.set_cons_succ, i64_w, i32_w]
                                        rfl
                                      refine pure_ (i := 36) (N := some 6) (v := ?_) (a' := ?_) #[true, true, true, true, true, true, true, true, true, true, true, true, true, true, true, true, true, true, true, true, true, true, true, true, true, true, true, true, true, true, true, true, true, true, true, true, true] rfl rfl (any_of HT_.out (by kernel_rfl)) (fun _ _ _ h => h) (Or.inl ⟨by rfl, ?_⟩) ?_ ?_
                                      rotate_left
                                      · intro w'
                                        go_simp
                                        with_reducible rfl
                                      rotate_left
                                      · simp only [Act.put, List.setIfInBounds_toArray, List.set_cons_zero, List.set_cons_succ, i64_w, i32_w]
                                        rfl
                                      refine done_ (done_of HT_.out (by kernel_rfl)) ?_
                                      try go_wp2
                                      go_ret
                                      exact ⟨by first | rfl | (simp [errW_none, errW_some] <;> rfl) | (simp [*, errW_none, errW_some] <;> rfl), by repeat (first | (with_reducible first | exact HB.out | apply below_alloc | apply pw_below_drewN | apply below_drew1) | exact HB.out)⟩
                                    · replace c60 := Bool.eq_false_iff.mpr c60
                                      subst c60
                                      have H1 : (some false) = some r := by rw [if_neg (show ¬ (false = true) by decide)] at H; exact H
                                      clear H
                                      have H := H1
                                      clear H1
                                      exact absurd ((Option.some.inj H).trans HR_.out) (by decide)
                                  · rw [if_neg c58] at H
                                    exact absurd H (by simp)
                                · rw [if_neg c57] at H
                                  exact absurd H (by simp)
                              · replace c56 := Bool.eq_false_iff.mpr c56
                                subst c56
                                have H1 : (some false) = some r := by rw [if_neg (show ¬ (false = true) by decide)] at H; exact H
                                clear H
                                have H := H1
                                clear H1
                                exact absurd ((Option.some.inj H).trans HR_.out) (by decide)
                            · replace c54 := Bool.eq_false_iff.mpr c54
                              subst c54
                              have H1 : (some false) = some r := by rw [if_neg (show ¬ (false = true) by decide)] at H; exact H
                              clear H
                              have H := H1
                              clear H1
                              exact absurd ((Option.some.inj H).trans HR_.out) (by decide)
                          · rw [if_neg c52] at H
                            exact absurd H (by simp)
                        · rw [if_neg c51] at H
                          have c51b0 : ((t276.length : Int) == (t246.length : Int)) = false := beq_eq_false_iff_ne.mpr c51
                          have c51b1 : ((t276.length : Int) != (t246.length : Int)) = true := bne_iff_ne.mpr c51
                          have c51b2 : (t276.length == t246.length) = false := by first | simpa using c51 | (simp at c51 ⊢; omega)
                          exact absurd ((Option.some.inj H).trans HR_.out) (by decide)
                      · rw [if_neg c50] at H
                        have c50b0 : (t277 == 0) = false := beq_eq_false_iff_ne.mpr c50
                        have c50b1 : (t277 != 0) = true := bne_iff_ne.mpr c50
                        exact absurd ((Option.some.inj H).trans HR_.out) (by decide)
                    · rw [if_neg c48] at H
                      exact absurd H (by simp)
                  · rw [if_neg c47] at H
                    exact absurd H (by simp)
          · rw [if_neg c26] at H
            have c26b0 : (t247 == 0) = false := beq_eq_false_iff_ne.mpr c26
            have c26b1 : (t247 != 0) = true := bne_iff_ne.mpr c26
            by_cases c78 : (t246.length : Int) = 0
            · rw [if_pos c78] at H
              have c78b0 : ((t246.length : Int) == 0) = true := beq_iff_eq.mpr c78
              have c78b1 : ((t246.length : Int) != 0) = false := bne_eq_false_iff_eq.mpr c78
              clear c78
              by_cases c79 : (t258.length : Int) = 0
              · rw [if_pos c79] at H
                have c79b0 : ((t258.length : Int) == 0) = true := beq_iff_eq.mpr c79
                have c79b1 : ((t258.length : Int) != 0) = false := bne_eq_false_iff_eq.mpr c79
                clear c79
                replace H := Option.bind_eq_some_iff.mp H
                obtain ⟨t262, A800, H⟩ := H
                replace H : (some t262) = some r := H
                have A80 := Aside0.mk A800
                clear A800
                obtain rfl := Option.some.inj H
                obtain ⟨Ao81, co81, eo81⟩ := Kd.R_slice HO_9.out
                subst eo81
                go_wp2_with (first | ((with_reducible refine gate_callee (f := 8) rfl ?_); refine goesL_ (some 50) rfl rfl Tryd.func8 (by kernel_rfl) rfl #[.slice Ao11 t237.length co11, .slice Ao12 t240.length co12, .slice Ao81 x9_1.length co81] rfl (by (try simp only [List.map_toArray, List.map_cons, List.map_nil]); first | done | rfl | (simp only [List.length_drop, List.length_take]; rfl)) ?_; (with_reducible refine (lack_Of.calls _ _ t237 _ _ t240 _ _ x9_1 t258 t259 _ ?side1 ?side2 ?side3 ?side4 ?side5 ?side6 A24.out).mono ?_); (case side1 => repeat (first | exact (Kd.R_reads' HO_0.out).2.2 | (with_reducible refine Kd.C_alloc ?_ _) | (with_reducible refine Kd.C_drewN ?_ _) | (with_reducible refine Kd.C_drew ?_))); (case side2 => exact (Kd.R_reads' HO_0.out).2.1); (case side3 => repeat (first | exact (Kd.R_reads' HO_1.out).2.2 | (with_reducible refine Kd.C_alloc ?_ _) | (with_reducible refine Kd.C_drewN ?_ _) | (with_reducible refine Kd.C_drew ?_))); (case side4 => exact (Kd.R_reads' HO_1.out).2.1); (case side5 => repeat (first | exact (Kd.R_reads' HO_9.out).2.2 | (with_reducible refine Kd.C_alloc ?_ _) | (with_reducible refine Kd.C_drewN ?_ _) | (with_reducible refine Kd.C_drew ?_))); (case side6 => exact (Kd.R_reads' HO_9.out).2.1); rintro e w82 ⟨v260, rfl, ho0, hb⟩; refine ⟨_, rfl, ?_⟩; have n0_ := Aside0.mk (Kd.R_below (by (with_reducible repeat (first | apply Kd.R_alloc | apply Kd.R_drewN | apply Kd.R_drew)); exact HO_0.out) hb); have n1_ := Aside0.mk (Kd.R_below (by (with_reducible repeat (first | apply Kd.R_alloc | apply Kd.R_drewN | apply Kd.R_drew)); exact HO_1.out) hb); have n2_ := Aside0.mk (Kd.R_below (by (with_reducible repeat (first | apply Kd.R_alloc | apply Kd.R_drewN | apply Kd.R_drew)); exact HO_2.out) hb); have n3_ := Aside0.mk (Kd.S_elder' (by (with_reducible repeat (first | apply Kd.S_alloc | apply Kd.S_drewN | apply Kd.S_drew)); exact HO_7.out) (Kd.S_base ho0) hb); have n4_ := Aside0.mk (Kd.R_below (by (with_reducible repeat (first | apply Kd.R_alloc | apply Kd.R_drewN | apply Kd.R_drew)); exact HO_9.out) hb); have n5_ := Aside0.mk (Kd.S_lower (Kd.S_new' (Kd.S_new' (Kd.S_new' ho0 (Kd.R_lt (by (with_reducible repeat (first | apply Kd.R_alloc | apply Kd.R_drewN | apply Kd.R_drew)); exact HO_0.out))) (Kd.R_lt (by (with_reducible repeat (first | apply Kd.R_alloc | apply Kd.R_drewN | apply Kd.R_drew)); exact HO_1.out))) (Kd.S_lt (by (with_reducible repeat (first | apply Kd.S_alloc | apply Kd.S_drewN | apply Kd.S_drew)); exact HO_7.out))) (below_size (by repeat (first | (with_reducible first | exact HB.out | apply below_alloc | apply pw_below_drewN | apply below_drew1) | exact HB.out)))); have n6_ := Aside0.mk (below_step (by repeat (first | (with_reducible first | exact HB.out | apply below_alloc | apply pw_below_drewN | apply below_drew1) | exact HB.out)) hb); clear HO_0; clear HO_1; clear HO_2; clear HO_7; clear HO_9; clear HB; have HO_0 := n0_; have HO_1 := n1_; have HO_2 := n2_; have HO_7 := n3_; have HO_9 := n4_; have HO261 := n5_; have HB := n6_; clear n0_ n1_ n2_ n3_ n4_ n5_ n6_; (try clear hb); (try clear hb2); (try clear hk); (try clear hi); (try clear ho0); obtain ⟨Ao83, co83, eo83⟩ := Kd.S_slice HO_7.out; subst eo83; obtain ⟨Ao84, co84, eo84⟩ := Kd.S_slice HO261.out; subst eo84) | (go_at_call 9; (with_reducible refine (graftwoodlaw18_awake.calls  t262 _ A80.out HR_).mono ?_); rintro e w85 ⟨rfl, hb⟩; have n0_ := Aside0.mk (Kd.R_below (by (with_reducible repeat (first | apply Kd.R_alloc | apply Kd.R_drewN | apply Kd.R_drew)); exact HO_0.out) hb); have n1_ := Aside0.mk (Kd.R_below (by (with_reducible repeat (first | apply Kd.R_alloc | apply Kd.R_drewN | apply Kd.R_drew)); exact HO_1.out) hb); have n2_ := Aside0.mk (Kd.R_below (by (with_reducible repeat (first | apply Kd.R_alloc | apply Kd.R_drewN | apply Kd.R_drew)); exact HO_2.out) hb); have n3_ := Aside0.mk (Kd.S_below (by (with_reducible repeat (first | apply Kd.S_alloc | apply Kd.S_drewN | apply Kd.S_drew)); exact HO_7.out) hb); have n4_ := Aside0.mk (Kd.R_below (by (with_reducible repeat (first | apply Kd.R_alloc | apply Kd.R_drewN | apply Kd.R_drew)); exact HO_9.out) hb); have n5_ := Aside0.mk (Kd.S_below (by (with_reducible repeat (first | apply Kd.S_alloc | apply Kd.S_drewN | apply Kd.S_drew)); exact HO261.out) hb); have n6_ := Aside0.mk (below_step (by repeat (first | (with_reducible first | exact HB.out | apply below_alloc | apply pw_below_drewN | apply below_drew1) | exact HB.out)) hb); clear HO_0; clear HO_1; clear HO_2; clear HO_7; clear HO_9; clear HO261; clear HB; have HO_0 := n0_; have HO_1 := n1_; have HO_2 := n2_; have HO_7 := n3_; have HO_9 := n4_; have HO261 := n5_; have HB := n6_; clear n0_ n1_ n2_ n3_ n4_ n5_ n6_; (try clear hb); (try clear hb2); (try clear hk); (try clear hi)))
                go_ret
                exact ⟨by first | rfl | (simp [errW_none, errW_some] <;> rfl) | (simp [*, errW_none, errW_some] <;> rfl), by repeat (first | (with_reducible first | exact HB.out | apply below_alloc | apply pw_below_drewN | apply below_drew1) | exact HB.out)⟩
              · rw [if_neg c79] at H
                have c79b0 : ((t258.length : Int) == 0) = false := beq_eq_false_iff_ne.mpr c79
                have c79b1 : ((t258.length : Int) != 0) = true := bne_iff_ne.mpr c79
                have c79b2 : ¬ (t258 = []) := fun h_ => c79 (by rw [h_]; rfl)
                exact absurd ((Option.some.inj H).trans HR_.out) (by decide)
            · rw [if_neg c78] at H
              have c78b0 : ((t246.length : Int) == 0) = false := beq_eq_false_iff_ne.mpr c78
              have c78b1 : ((t246.length : Int) != 0) = true := bne_iff_ne.mpr c78
              have c78b2 : ¬ (t246 = []) := fun h_ => c78 (by rw [h_]; rfl)
              exact absurd ((Option.some.inj H).trans HR_.out) (by decide)
        · rw [if_neg c25] at H
          have c25b0 : (t247 == t259) = false := beq_eq_false_iff_ne.mpr c25
          have c25b1 : (t247 != t259) = true := bne_iff_ne.mpr c25
          exact absurd ((Option.some.inj H).trans HR_.out) (by decide)
end Go.Proofs.YtffcbfclpfchnaaDoor.Q
end
