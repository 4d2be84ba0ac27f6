/- Part 9 of this claim: several texts one behind the other: Aw18, Fgraftwoodlaw18LackLess, PureKLess. What each shows stands in its theorems; conditions: sizes of texts and lists, as the functions' definitions say. -/
import Derived.Test.YtffcbfclpfchnaaDoorMLackLess8
import Derived.Test.YtffcbfclpfchnaaDoorMLackLess6
import Derived.Test.YtffcbfclpfchnaaDoorMLackLess5
import Derived.Test.YtffcbfclpfchnaaDoorMLackLess4
import Derived.Test.YtffcbfclpfchnaaDoorMLackLess7
import Derived.Test.YtffcbfclpfchnaaDoorMLackLess0
import Derived.Test.YtffcbfclpfchnaaDoorMLackLess1
section
namespace Go.Proofs.YtffcbfclpfchnaaDoor.Q
open Go.Proofs.YtffcbfclpfchnaaDoor.QB.D
open Go Go.RowKit Go.Lib Go.Proofs.YtffcbfclpfchnaaDoorW.PrintWords Go.Proofs.YtffcbfclpfchnaaDoorW.PrintLast Go.Proofs.YtffcbfclpfchnaaDoorW.PrintMore Gw
set_option linter.unusedVariables false
set_option linter.unusedSimpArgs false
def nW (c : UInt8) : S31 := ⟨⟨#[c]⟩, ⟨#[118, 49, 46, 48, 46, 48]⟩⟩
set_option maxRecDepth 100000 in
theorem awake18_val : graftwoodlaw18_awake.f = some true := by
  have b : ∀ c, Brief (nW c) := fun c => ⟨show (1 : Nat) ≤ 400 by decide, show (6 : Nat) ≤ 400 by decide⟩
  have bz : Brief z31 := by unfold Brief; decide +kernel
  have h1 := lackOf_val [nW 97, nW 98] [nW 98] [⟨nW 98, nW 97⟩, ⟨z31, nW 98⟩] (by decide) (by decide) (by decide) (fun x hx => by simp only [List.mem_cons, List.not_mem_nil, or_false] at hx; rcases hx with rfl | rfl <;> exact b _) (fun x hx => by simp only [List.mem_cons, List.not_mem_nil, or_false] at hx; subst hx; exact b _) (fun x hx => by
    simp only [List.mem_cons, List.not_mem_nil, or_false] at hx
    rcases hx with rfl | rfl
    · exact ⟨b _, b _⟩
    · exact ⟨bz, b _⟩)
  have h2 := missing_val [nW 97] [nW 97] (by decide) (by decide) (fun x hx => by simp only [List.mem_cons, List.not_mem_nil, or_false] at hx; subst hx; exact b _) (fun x hx => by simp only [List.mem_cons, List.not_mem_nil, or_false] at hx; subst hx; exact b _)
  have c1 : checkN [nW 97, nW 98] = true := by decide +kernel
  have c2 : checkN [nW 98] = true := by decide +kernel
  have c3 : okE [⟨nW 98, nW 97⟩, ⟨z31, nW 98⟩] = true := by decide +kernel
  have c4 : ofF [nW 97, nW 98] [nW 98] [⟨nW 98, nW 97⟩, ⟨z31, nW 98⟩] = [⟨nW 97, [nW 98], false⟩] := by
    have e1 : goneF [nW 97, nW 98] [nW 98] = [nW 97] := by decide +kernel
    have e2 : byF [⟨nW 98, nW 97⟩, ⟨z31, nW 98⟩] (nW 97) = [nW 98] := by decide +kernel
    have e3 : rootF [⟨nW 98, nW 97⟩, ⟨z31, nW 98⟩] (nW 97) = false := by decide +kernel
    unfold ofF lackOf
    rw [e1, List.map_cons, List.map_nil, e2, e3]
    rfl
  have c5 : checkN [nW 97] = true := by decide +kernel
  rw [if_pos ⟨c1, c2, c3⟩, c4] at h1
  rw [if_pos ⟨c5, c5⟩, goneF_self] at h2
  unfold graftwoodlaw18_awake.f
  unfold nW z31 at h1
  unfold nW at h2
  rw [h1, Option.bind_some, h2, Option.bind_some]
  simp [rd_T31, rd_T37, ByteArray.toList_eq]
end Go.Proofs.YtffcbfclpfchnaaDoor.Q
end

section
namespace Go.Proofs.YtffcbfclpfchnaaDoor.Q
open Go.RowKit Go.Proofs.YtffcbfclpfchnaaDoorW.PrintWords Go.Proofs.YtffcbfclpfchnaaDoorW.PrintLast Go.Proofs.YtffcbfclpfchnaaDoorW.PrintMore
attribute [local go_sem] max2_int min2_int max_two min_two max_three min_three max_four min_four   -- for this text's walks alone
set_option linter.unusedVariables false
set_option linter.unusedSimpArgs false
/-! ### graftwoodlaw18_LackLess: function 5 -/
mutual
def graftwoodlaw18_LackLess.j0 : Nat → List (S31) → List (S31) → List (S31) → List (S31) → Bool → ByteArray → ByteArray → Option (Bool)
  | 0, _, _, _, _, _, _, _ => none
  | k + 1, x0, x1, x7, x9, x43, x320000, x320001 => if x43 = true then ((graftwoodlaw18_awake.f).bind fun t336 => (some t336)) else ((lack_Missing.f x0 x9).bind fun bt337 => ((node_Without.f x7 x320000 x320001).bind fun bt341 => ((lack_Missing.f x0 x0).bind fun bt345 => ((lack_Missing.f x0 ([] : List (S31))).bind fun bt349 => (graftwoodlaw18_LackLess.l0 k x0 x1 x7 bt337.1 bt337.2 bt341.1 bt341.2 bt345.1 bt345.2 bt349.1 bt349.2 0)))))
def graftwoodlaw18_LackLess.l0 : Nat → List (S31) → List (S31) → List (S31) → List (S31) → Int → List (S31) → Int → List (S31) → Int → List (S31) → Int → Int → Option (Bool)
  | 0, _, _, _, _, _, _, _, _, _, _, _, _ => none
  | k + 1, x0, x1, x7, x11, x12, x13, x14, x15, x16, x17, x18, x19 => if x19 < (x7.length : Int) then (if 0 ≤ x19 then ((graftwoodref05_Has.f k x0 ((rd_T31 x7 x19).f0) ((rd_T31 x7 x19).f1)).bind fun t354 => (if t354 = true then ((graftwoodref05_Has.f k x1 ((rd_T31 x7 x19).f0) ((rd_T31 x7 x19).f1)).bind fun t356 => (if t356 = true then (some false) else (graftwoodlaw18_LackLess.l0 k x0 x1 x7 x11 x12 x13 x14 x15 x16 x17 x18 (wrap64 (x19 + 1))))) else (some false))) else (none)) else (if x12 = 0 then (if x14 = 0 then (if x16 = 0 then (if x18 = 0 then ((graftwoodref05_Same.f k x11 x13).bind fun t357 => (if t357 = true then (if (x15.length : Int) = 0 then ((graftwoodref05_Same.f k x17 x0).bind fun t358 => (if t358 = true then ((node_Check.f k x7).bind fun t359 => (if t359 = 0 then ((graftwoodlaw18_awake.f).bind fun t360 => (some t360)) else (some false))) else (some false))) else (some false)) else (some false))) else (some false)) else (some false)) else (some false)) else (some false))
end
def graftwoodlaw18_LackLess.f (k : Nat) (l0 : List (S31)) (l1 : List (S31)) (a2_0 : ByteArray) (a2_1 : ByteArray) : Option (Bool) := (graftwoodlaw05_Few.f k l0).bind fun t320 => ((graftwoodlaw05_Few.f k l1).bind fun t323 => ((graftwoodlaw05_One.f a2_0 a2_1).bind fun bt326 => ((lack_Missing.f t320 t323).bind fun bt328 => ((node_With.f t323 bt326.1 bt326.2).bind fun bt332 => (if bt328.2 = 0 then (graftwoodlaw18_LackLess.j0 k t320 t323 bt328.1 bt332.1 (bt332.2 != 0) bt326.1 bt326.2) else (graftwoodlaw18_LackLess.j0 k t320 t323 bt328.1 bt332.1 true bt326.1 bt326.2))))))
theorem graftwoodlaw18_LackLess.mono_l : ∀ k, (∀ y0 y1 y2 y3 y4 y5 y6, LeO (graftwoodlaw18_LackLess.j0 k y0 y1 y2 y3 y4 y5 y6) (graftwoodlaw18_LackLess.j0 (k + 1) y0 y1 y2 y3 y4 y5 y6)) ∧ (∀ y0 y1 y2 y3 y4 y5 y6 y7 y8 y9 y10 y11, LeO (graftwoodlaw18_LackLess.l0 k y0 y1 y2 y3 y4 y5 y6 y7 y8 y9 y10 y11) (graftwoodlaw18_LackLess.l0 (k + 1) y0 y1 y2 y3 y4 y5 y6 y7 y8 y9 y10 y11))
  | 0 => ⟨fun _ _ _ _ _ _ _ r h => by simp [graftwoodlaw18_LackLess.j0] at h, fun _ _ _ _ _ _ _ _ _ _ _ _ r h => by simp [graftwoodlaw18_LackLess.l0] at h⟩
  | k + 1 => by
    obtain ⟨ih0, ih1⟩ := graftwoodlaw18_LackLess.mono_l k
    refine ⟨?_, ?_⟩
    · intro y0 y1 y2 y3 y4 y5 y6
      unfold graftwoodlaw18_LackLess.j0
      repeat' first
      | (with_reducible exact ih0 _ _ _ _ _ _ _)
      | (with_reducible exact ih1 _ _ _ _ _ _ _ _ _ _ _ _)
      | (with_reducible exact graftwoodlaw05_Few.mono _ _)
      | (with_reducible exact graftwoodref05_Has.mono _ _ _ _)
      | (with_reducible exact graftwoodref05_Same.mono _ _ _)
      | (with_reducible exact node_Check.mono _ _)
      | (with_reducible exact LeO.refl _)
      | (with_reducible exact LeO.none _)
      | (with_reducible refine LeO.ite ?_ ?_)
      | (with_reducible refine LeO.bind ?_ (fun _ => ?_))
      | exact ih0 _ _ _ _ _ _ _
      | exact ih1 _ _ _ _ _ _ _ _ _ _ _ _
      | exact graftwoodlaw05_Few.mono _ _
      | exact graftwoodref05_Has.mono _ _ _ _
      | exact graftwoodref05_Same.mono _ _ _
      | exact node_Check.mono _ _
      | exact LeO.none _
      | refine LeO.ite ?_ ?_
      | refine LeO.bind ?_ (fun _ => ?_)
    · intro y0 y1 y2 y3 y4 y5 y6 y7 y8 y9 y10 y11
      unfold graftwoodlaw18_LackLess.l0
      repeat' first
      | (with_reducible exact ih0 _ _ _ _ _ _ _)
      | (with_reducible exact ih1 _ _ _ _ _ _ _ _ _ _ _ _)
      | (with_reducible exact graftwoodlaw05_Few.mono _ _)
      | (with_reducible exact graftwoodref05_Has.mono _ _ _ _)
      | (with_reducible exact graftwoodref05_Same.mono _ _ _)
      | (with_reducible exact node_Check.mono _ _)
      | (with_reducible exact LeO.refl _)
      | (with_reducible exact LeO.none _)
      | (with_reducible refine LeO.ite ?_ ?_)
      | (with_reducible refine LeO.bind ?_ (fun _ => ?_))
      | exact ih0 _ _ _ _ _ _ _
      | exact ih1 _ _ _ _ _ _ _ _ _ _ _ _
      | exact graftwoodlaw05_Few.mono _ _
      | exact graftwoodref05_Has.mono _ _ _ _
      | exact graftwoodref05_Same.mono _ _ _
      | exact node_Check.mono _ _
      | exact LeO.none _
      | refine LeO.ite ?_ ?_
      | refine LeO.bind ?_ (fun _ => ?_)
theorem graftwoodlaw18_LackLess.mono : ∀ a0 a1 a2 a3 k, LeO (graftwoodlaw18_LackLess.f k a0 a1 a2 a3) (graftwoodlaw18_LackLess.f (k + 1) a0 a1 a2 a3) := by
  intro a0 a1 a2 a3 k
  obtain ⟨ih0, ih1⟩ := graftwoodlaw18_LackLess.mono_l k
  unfold graftwoodlaw18_LackLess.f
  repeat' first
      | (with_reducible exact ih0 _ _ _ _ _ _ _)
      | (with_reducible exact ih1 _ _ _ _ _ _ _ _ _ _ _ _)
      | (with_reducible exact graftwoodlaw05_Few.mono _ _)
      | (with_reducible exact graftwoodref05_Has.mono _ _ _ _)
      | (with_reducible exact graftwoodref05_Same.mono _ _ _)
      | (with_reducible exact node_Check.mono _ _)
      | (with_reducible exact LeO.refl _)
      | (with_reducible exact LeO.none _)
      | (with_reducible refine LeO.ite ?_ ?_)
      | (with_reducible refine LeO.bind ?_ (fun _ => ?_))
      | exact ih0 _ _ _ _ _ _ _
      | exact ih1 _ _ _ _ _ _ _ _ _ _ _ _
      | exact graftwoodlaw05_Few.mono _ _
      | exact graftwoodref05_Has.mono _ _ _ _
      | exact graftwoodref05_Same.mono _ _ _
      | exact node_Check.mono _ _
      | exact LeO.none _
      | refine LeO.ite ?_ ?_
      | refine LeO.bind ?_ (fun _ => ?_)
def graftwoodlaw18_LackLess.T1 : Bool × List (List Nat × List Nat) := (true, [([], []), ([0], [0]), ([], []), ([2, 1], [2]), ([], []), ([4, 3], [4]), ([1, 5, 0, 1], [0, 1]), ([3, 6, 0, 1, 2, 3, 6], [2, 3]), ([5, 7, 0, 1, 2, 3, 4, 5, 6, 7], [5])])
def graftwoodlaw18_LackLess.B1 : List Nat := [0, 1, 0, 7, 0, 31, 63, 127, 255]
theorem graftwoodlaw18_LackLess.tab1 : rtab .any (opsOf Tryd.f5 1) = graftwoodlaw18_LackLess.T1 := by kernel_rfl
theorem graftwoodlaw18_LackLess.bits1 : waitsOk graftwoodlaw18_LackLess.T1.2 graftwoodlaw18_LackLess.B1 = true := by kernel_rfl
set_option maxHeartbeats 8000000 in
set_option maxRecDepth 100000 in
theorem graftwoodlaw18_LackLess.calls (k : Nat) (A0 : Option Addr) (c0 : Nat) (l0 : List (S31)) (A1 : Option Addr) (c1 : Nat) (l1 : List (S31)) (a2_0 : ByteArray) (a2_1 : ByteArray) (r : Bool) (w : World) (hr0 : Kd.C k31 w A0 l0.length l0) (hc0 : l0.length ≤ c0) (hr1 : Kd.C k31 w A1 l1.length l1) (hc1 : l1.length ≤ c1) (h : graftwoodlaw18_LackLess.f k l0 l1 a2_0 a2_1 = some r) (HR_ : Aside0 (r = true)) :
    Calls Tryd.prog 5 #[.slice A0 l0.length c0, .slice A1 l1.length c1, .agg #[.string a2_0, .string a2_1]] w fun e w' => e = .returned (.bool r) ∧ Below w.heap.size w w' := by
  have hu31 := Tryd.underlying31
  have HR0 := Aside0.mk hr0
  have HC0 := Aside0.mk hc0
  clear hr0 hc0
  have HR1 := Aside0.mk hr1
  have HC1 := Aside0.mk hc1
  clear hr1 hc1
  have HB := Aside0.mk (Below.refl w.heap.size w)
  have H : ((graftwoodlaw05_Few.f k l0).bind fun t320 => ((graftwoodlaw05_Few.f k l1).bind fun t323 => ((graftwoodlaw05_One.f a2_0 a2_1).bind fun bt326 => ((lack_Missing.f t320 t323).bind fun bt328 => ((node_With.f t323 bt326.1 bt326.2).bind fun bt332 => (if bt328.2 = 0 then (graftwoodlaw18_LackLess.j0 k t320 t323 bt328.1 bt332.1 (bt332.2 != 0) bt326.1 bt326.2) else (graftwoodlaw18_LackLess.j0 k t320 t323 bt328.1 bt332.1 true bt326.1 bt326.2))))))) = some r := h
  clear h
  replace H := Option.bind_eq_some_iff.mp H
  obtain ⟨t320, A40, H⟩ := H
  replace H : ((graftwoodlaw05_Few.f k l1).bind fun t323 => ((graftwoodlaw05_One.f a2_0 a2_1).bind fun bt326 => ((lack_Missing.f t320 t323).bind fun bt328 => ((node_With.f t323 bt326.1 bt326.2).bind fun bt332 => (if bt328.2 = 0 then (graftwoodlaw18_LackLess.j0 k t320 t323 bt328.1 bt332.1 (bt332.2 != 0) bt326.1 bt326.2) else (graftwoodlaw18_LackLess.j0 k t320 t323 bt328.1 bt332.1 true bt326.1 bt326.2)))))) = some r := H
  have A4 := Aside0.mk A40
  clear A40
  replace H := Option.bind_eq_some_iff.mp H
  obtain ⟨t323, A50, H⟩ := H
  replace H : ((graftwoodlaw05_One.f a2_0 a2_1).bind fun bt326 => ((lack_Missing.f t320 t323).bind fun bt328 => ((node_With.f t323 bt326.1 bt326.2).bind fun bt332 => (if bt328.2 = 0 then (graftwoodlaw18_LackLess.j0 k t320 t323 bt328.1 bt332.1 (bt332.2 != 0) bt326.1 bt326.2) else (graftwoodlaw18_LackLess.j0 k t320 t323 bt328.1 bt332.1 true bt326.1 bt326.2))))) = some r := H
  have A5 := Aside0.mk A50
  clear A50
  replace H := Option.bind_eq_some_iff.mp H
  obtain ⟨⟨t326, t327⟩, A60, H⟩ := H
  replace H : ((lack_Missing.f t320 t323).bind fun bt328 => ((node_With.f t323 t326 t327).bind fun bt332 => (if bt328.2 = 0 then (graftwoodlaw18_LackLess.j0 k t320 t323 bt328.1 bt332.1 (bt332.2 != 0) t326 t327) else (graftwoodlaw18_LackLess.j0 k t320 t323 bt328.1 bt332.1 true t326 t327)))) = some r := H
  have A6 := Aside0.mk A60
  clear A60
  replace H := Option.bind_eq_some_iff.mp H
  obtain ⟨⟨t328, t329⟩, A70, H⟩ := H
  replace H : ((node_With.f t323 t326 t327).bind fun bt332 => (if t329 = 0 then (graftwoodlaw18_LackLess.j0 k t320 t323 t328 bt332.1 (bt332.2 != 0) t326 t327) else (graftwoodlaw18_LackLess.j0 k t320 t323 t328 bt332.1 true t326 t327))) = some r := H
  have A7 := Aside0.mk A70
  clear A70
  replace H := Option.bind_eq_some_iff.mp H
  obtain ⟨⟨t332, t335⟩, A80, H⟩ := H
  replace H : (if t329 = 0 then (graftwoodlaw18_LackLess.j0 k t320 t323 t328 t332 (t335 != 0) t326 t327) else (graftwoodlaw18_LackLess.j0 k t320 t323 t328 t332 true t326 t327)) = some r := H
  have A8 := Aside0.mk A80
  clear A80
  have HC9 := Aside0.mk H
  clear H
  go_enter Tryd.func5, Tryd.ntmps5
  try go_wp2_with (first | ((with_reducible refine gate_dst (N := 5) rfl ?_); (try (refine gate_guard (by rfl) ?_; dsimp only)); refine box_event ?hg (N := 5) ?hd (cs := #[.string a2_0, .string a2_1]) (t := 31) ?hr ?_; (case hd => rfl); (case hg => rfl); (case hr => first | (go_simp; done) | (go_simp; rfl)); intro gb319 hg w10 hbox hb; have n0_ := Aside0.mk (below_step (by repeat (first | (with_reducible first | exact HB.out | apply below_alloc | apply pw_below_drewN | apply below_drew1) | exact HB.out)) hb); have n1_ := Aside0.mk (hbox); have n2_ := Aside0.mk ((by rw [hg]; exact (below_size (by repeat (first | (with_reducible first | exact HB.out | apply below_alloc | apply pw_below_drewN | apply below_drew1) | exact HB.out))) : w.heap.size ≤ gb319)); have n3_ := Aside0.mk ((by rw [hg]; exact (below_size (by repeat (first | (with_reducible first | exact HB.out | apply below_alloc | apply pw_below_drewN | apply below_drew1) | exact HB.out))) : w.heap.size ≤ gb319)); clear HB; have HB := n0_; have BK319 := n1_; have GW319 := n2_; have GE319 := n3_; clear n0_ n1_ n2_ n3_; clear hb hbox hg))
  have n0_ := Aside0.mk (blk_drew BK319.out)
  have n1_ := Aside0.mk (below_drew1 HB.out)
  clear BK319
  clear HB
  have BK319 := n0_
  have HB := n1_
  clear n0_ n1_
  refine start_ (n := 9) (S := fun w' => w'.cell? ⟨gb319, 0, none⟩ = some (.string a2_0) ∧ w'.cell? ⟨gb319, 1, none⟩ = some (.string a2_1)) (ds := [8]) #[false, false, false, false, false, false, false, false, false] (by kernel_rfl) rfl rfl ⟨(blk_cell BK319.out 0).trans rfl, (blk_cell BK319.out 1).trans rfl⟩ (fun hHeld => ?_); refine with_tabW graftwoodlaw18_LackLess.tab1 graftwoodlaw18_LackLess.bits1 (fun HT_ HW_ => ?_)
  generalize w10.drew = w11 at BK319 HB hHeld ⊢
  refine pure_ (i := 0) (N := some 20) (v := ?_) (a' := ?_) #[true, false, false, false, false, false, false, false, false] rfl rfl (any_of HT_.out (by kernel_rfl)) (fun _ _ _ h => h) (Or.inl ⟨by rfl, ?_⟩) ?_ ?_
  rotate_left
  · intro w'
    go_simp
    with_reducible rfl
  rotate_left
  · simp only [Act.put, List.setIfInBounds_toArray, List.set_cons_zero, List.set_cons_succ, i64_w, i32_w]
    rfl
  refine pure_ (i := 2) (N := some 22) (v := ?_) (a' := ?_) #[true, false, true, false, false, false, false, false, false] rfl rfl (any_of HT_.out (by kernel_rfl)) (fun _ _ _ h => h) (Or.inl ⟨by rfl, ?_⟩) ?_ ?_
  rotate_left
  · intro w'
    go_simp
    with_reducible rfl
  rotate_left
  · simp only [Act.put, List.setIfInBounds_toArray, List.set_cons_zero, List.set_cons_succ, i64_w, i32_w]
    rfl
  refine take_ (i := 4) (N := some 24) (v := ?_) (a' := ?_) #[true, false, true, false, true, false, false, false, false] rfl rfl (take_ofW HT_.out HW_.out (by kernel_rfl)) (fun _ _ _ h => h) (Or.inl ⟨by rfl, ?_⟩) hHeld ?_ ?_
  rotate_left
  · rintro w' ⟨s0, s1⟩
    go_simp
    with_reducible rfl
  rotate_left
  · simp only [Act.put, List.setIfInBounds_toArray, List.set_cons_zero, List.set_cons_succ, i64_w, i32_w]
    rfl
  refine one_ (i := 1) (N := some 21) #[true, true, true, false, true, false, false, false, false] rfl rfl (one_of HT_.out (by kernel_rfl)) (by decide) (fun K hK => ?_)
  refine goes_ Tryd.func6 (by kernel_rfl) rfl #[.slice A0 l0.length c0] (by rfl) rfl rfl (by (try simp only [List.map_toArray, List.map_cons, List.map_nil]); first | done | rfl | (simp only [List.length_drop, List.length_take]; rfl)) ?_
  with_reducible refine (graftwoodlaw05_Few.calls k _ _ l0 t320 _ ?side1 ?side2 A4.out).mono ?_
  (case side1 => repeat (first | exact (Kd.C_below HR0.out HB.out) | (with_reducible refine Kd.C_alloc ?_ _) | (with_reducible refine Kd.C_drewN ?_ _) | (with_reducible refine Kd.C_drew ?_)))
  (case side2 => exact HC0.out)
  rintro e w12 ⟨v321, rfl, ho0, hb⟩
  refine ⟨_, rfl, ?_⟩
  have n0_ := Aside0.mk (Kd.R_lower (Kd.R_newB ho0 (g := gb319) (o := .cells #[.string a2_0, .string a2_1] 31 (0, 0)) (by (with_reducible repeat (first | refine blk_drewN ?_ _ | refine blk_drew ?_ | refine blk_alloc ?_ _)); exact BK319.out)) (below_size (by repeat (first | (with_reducible first | exact HB.out | apply below_alloc | apply pw_below_drewN | apply below_drew1 | refine below_set ?_ GE319.out) | exact HB.out))))
  have n1_ := Aside0.mk (blk_below (g := gb319) (o := .cells #[.string a2_0, .string a2_1] 31 (0, 0)) (by (with_reducible repeat (first | refine blk_drewN ?_ _ | refine blk_drew ?_ | refine blk_alloc ?_ _)); exact BK319.out) hb)
  have n2_ := Aside0.mk (below_step (by repeat (first | (with_reducible first | exact HB.out | apply below_alloc | apply pw_below_drewN | apply below_drew1 | refine below_set ?_ GE319.out) | exact HB.out)) hb)
  clear BK319
  clear HB
  have HO322 := n0_
  have BK319 := n1_
  have HB := n2_
  clear n0_ n1_ n2_
  (try clear hb)
  (try clear hb2)
  (try clear hk)
  (try clear hi)
  (try clear ho0)
  refine hK.out _ _ ⟨(blk_cell BK319.out 0).trans rfl, (blk_cell BK319.out 1).trans rfl⟩ (fun hHeld => ?_)
  clear hK K
  refine norm_ (a' := ?_) ?_ ?_
  rotate_left
  · show Act.put _ (some 21) _ = _
    simp only [Act.put, List.setIfInBounds_toArray, List.set_cons_zero, List.set_cons_succ, i64_w, i32_w]
    rfl
  refine one_ (i := 3) (N := some 23) #[true, true, true, true, true, false, false, false, false] rfl rfl (one_of HT_.out (by kernel_rfl)) (by decide) (fun K hK => ?_)
  refine goes_ Tryd.func6 (by kernel_rfl) rfl #[.slice A1 l1.length c1] (by rfl) rfl rfl (by (try simp only [List.map_toArray, List.map_cons, List.map_nil]); first | done | rfl | (simp only [List.length_drop, List.length_take]; rfl)) ?_
  with_reducible refine (graftwoodlaw05_Few.calls k _ _ l1 t323 _ ?side1 ?side2 A5.out).mono ?_
  (case side1 => repeat (first | exact (Kd.C_below HR1.out HB.out) | (with_reducible refine Kd.C_alloc ?_ _) | (with_reducible refine Kd.C_drewN ?_ _) | (with_reducible refine Kd.C_drew ?_)))
  (case side2 => exact HC1.out)
  rintro e w13 ⟨v324, rfl, ho0, hb⟩
  refine ⟨_, rfl, ?_⟩
  have n0_ := Aside0.mk (Kd.R_elder' (by (with_reducible repeat (first | apply Kd.R_alloc | apply Kd.R_drewN | apply Kd.R_drew)); exact HO322.out) (Kd.R_base ho0) hb)
  have n1_ := Aside0.mk (Kd.R_lower (Kd.R_newB (Kd.R_new' ho0 (Kd.R_lt (by (with_reducible repeat (first | apply Kd.R_alloc | apply Kd.R_drewN | apply Kd.R_drew)); exact HO322.out))) (g := gb319) (o := .cells #[.string a2_0, .string a2_1] 31 (0, 0)) (by (with_reducible repeat (first | refine blk_drewN ?_ _ | refine blk_drew ?_ | refine blk_alloc ?_ _)); exact BK319.out)) (below_size (by repeat (first | (with_reducible first | exact HB.out | apply below_alloc | apply pw_below_drewN | apply below_drew1 | refine below_set ?_ GE319.out) | exact HB.out))))
  have n2_ := Aside0.mk (blk_below (g := gb319) (o := .cells #[.string a2_0, .string a2_1] 31 (0, 0)) (by (with_reducible repeat (first | refine blk_drewN ?_ _ | refine blk_drew ?_ | refine blk_alloc ?_ _)); exact BK319.out) hb)
  have n3_ := Aside0.mk (below_step (by repeat (first | (with_reducible first | exact HB.out | apply below_alloc | apply pw_below_drewN | apply below_drew1 | refine below_set ?_ GE319.out) | exact HB.out)) hb)
  clear HO322
  clear BK319
  clear HB
  have HO322 := n0_
  have HO325 := n1_
  have BK319 := n2_
  have HB := n3_
  clear n0_ n1_ n2_ n3_
  (try clear hb)
  (try clear hb2)
  (try clear hk)
  (try clear hi)
  (try clear ho0)
  refine hK.out _ _ ⟨(blk_cell BK319.out 0).trans rfl, (blk_cell BK319.out 1).trans rfl⟩ (fun hHeld => ?_)
  clear hK K
  refine norm_ (a' := ?_) ?_ ?_
  rotate_left
  · show Act.put _ (some 23) _ = _
    simp only [Act.put, List.setIfInBounds_toArray, List.set_cons_zero, List.set_cons_succ, i64_w, i32_w]
    rfl
  refine one_ (i := 5) (N := some 25) #[true, true, true, true, true, true, false, false, false] rfl rfl (one_of HT_.out (by kernel_rfl)) (by decide) (fun K hK => ?_)
  refine goes_ Tryd.func13 (by kernel_rfl) rfl #[.agg #[.string a2_0, .string a2_1]] (by rfl) rfl rfl (by (try simp only [List.map_toArray, List.map_cons, List.map_nil]); first | done | rfl | (simp only [List.length_drop, List.length_take]; rfl)) ?_
  with_reducible refine (graftwoodlaw05_One.calls a2_0 a2_1 t326 t327 _ A6.out).mono ?_
  rintro e w14 ⟨rfl, hb⟩
  refine ⟨_, rfl, ?_⟩
  have n0_ := Aside0.mk (Kd.R_below (by (with_reducible repeat (first | apply Kd.R_alloc | apply Kd.R_drewN | apply Kd.R_drew)); exact HO322.out) hb)
  have n1_ := Aside0.mk (Kd.R_below (by (with_reducible repeat (first | apply Kd.R_alloc | apply Kd.R_drewN | apply Kd.R_drew)); exact HO325.out) hb)
  have n2_ := Aside0.mk (blk_below (g := gb319) (o := .cells #[.string a2_0, .string a2_1] 31 (0, 0)) (by (with_reducible repeat (first | refine blk_drewN ?_ _ | refine blk_drew ?_ | refine blk_alloc ?_ _)); exact BK319.out) hb)
  have n3_ := Aside0.mk (below_step (by repeat (first | (with_reducible first | exact HB.out | apply below_alloc | apply pw_below_drewN | apply below_drew1 | refine below_set ?_ GE319.out) | exact HB.out)) hb)
  clear HO322
  clear HO325
  clear BK319
  clear HB
  have HO322 := n0_
  have HO325 := n1_
  have BK319 := n2_
  have HB := n3_
  clear n0_ n1_ n2_ n3_
  (try clear hb)
  (try clear hb2)
  (try clear hk)
  (try clear hi)
  refine hK.out _ _ ⟨(blk_cell BK319.out 0).trans rfl, (blk_cell BK319.out 1).trans rfl⟩ (fun hHeld => ?_)
  clear hK K
  refine norm_ (a' := ?_) ?_ ?_
  rotate_left
  · show Act.put _ (some 25) _ = _
    simp only [Act.put, List.setIfInBounds_toArray, List.set_cons_zero, List.set_cons_succ, i64_w, i32_w]
    rfl
  refine pure_ (i := 6) (N := some 0) (v := ?_) (a' := ?_) #[true, true, true, true, true, true, true, false, false] rfl rfl (any_of HT_.out (by kernel_rfl)) (fun _ _ _ h => h) (Or.inl ⟨by rfl, ?_⟩) ?_ ?_
  rotate_left
  · intro w'
    go_simp
    with_reducible rfl
  rotate_left
  · simp only [Act.put, List.setIfInBounds_toArray, List.set_cons_zero, List.set_cons_succ, i64_w, i32_w]
    rfl
  refine pure_ (i := 7) (N := some 1) (v := ?_) (a' := ?_) #[true, true, true, true, true, true, true, true, false] rfl rfl (any_of HT_.out (by kernel_rfl)) (fun _ _ _ h => h) (Or.inl ⟨by rfl, ?_⟩) ?_ ?_
  rotate_left
  · intro w'
    go_simp
    with_reducible rfl
  rotate_left
  · simp only [Act.put, List.setIfInBounds_toArray, List.set_cons_zero, List.set_cons_succ, i64_w, i32_w]
    rfl
  refine last_ (i := 8) (N := none) #[true, true, true, true, true, true, true, true, true] rfl rfl (one_of HT_.out (by kernel_rfl)) (by decide) (fun K hK => ?_)
  have hs15 : w14.cell? ⟨gb319, 0, none⟩ = some (.string a2_0) := (blk_cell BK319.out 0).trans rfl
  have hfs15 := blk_frozen BK319.out 0
  have hs16 : w14.cell? ⟨gb319, 1, none⟩ = some (.string a2_1) := (blk_cell BK319.out 1).trans rfl
  have hfs16 := blk_frozen BK319.out 1
  refine skip_ (w1 := ?_) (by rfl) rfl ?_ ?_
  rotate_left
  · go_simp
    rfl
  refine hK.out _ _ ?_
  clear hK K
  refine done_ (done_of HT_.out (by kernel_rfl)) ?_
  obtain ⟨Ao17, co17, eo17⟩ := Kd.R_slice HO322.out
  subst eo17
  obtain ⟨Ao18, co18, eo18⟩ := Kd.R_slice HO325.out
  subst eo18
  go_upto_region 4 with (first | ((with_reducible refine gate_callee (f := 14) rfl ?_); refine goesL_ (some 29) rfl rfl Tryd.func14 (by kernel_rfl) rfl #[.slice Ao17 t320.length co17, .slice Ao18 t323.length co18] rfl (by (try simp only [List.map_toArray, List.map_cons, List.map_nil]); first | done | rfl | (simp only [List.length_drop, List.length_take]; rfl)) ?_; (with_reducible refine (lack_Missing.calls _ _ t320 _ _ t323 t328 t329 _ ?side1 ?side2 ?side3 ?side4 A7.out).mono ?_); (case side1 => refine (Kd.R_reads' (e := 31) (base := w.heap.size) (ok := fun k_ => ((True ∧ k_ ≠ gb319) ∧ some k_ ≠ (.slice Ao18 t323.length co18 : Value).ownBlock)) (n := t320.length) (c := co17) ?_).2.2; exact (by (with_reducible repeat (first | apply Kd.R_alloc | apply Kd.R_drewN | apply Kd.R_drew)); exact (Kd.R_mono (Kd.R_far (p := ⟨gb319, 1, none⟩) (Kd.R_far (p := ⟨gb319, 0, none⟩) (Kd.R_mono HO322.out (fun k_ hk => (⟨hk, hk.1.2⟩ : _ ∧ k_ ≠ gb319))) (fun _ hk => hk.2) (.string t326)) (fun _ hk => hk.2) (.string t327)) (fun _ h_ => h_.1)))); (case side2 => exact (Kd.R_reads' HO322.out).2.1); (case side3 => refine (Kd.R_reads' (e := 31) (base := w.heap.size) (ok := fun k_ => ((True ∧ some k_ ≠ (.slice Ao17 t320.length co17 : Value).ownBlock) ∧ k_ ≠ gb319)) (n := t323.length) (c := co18) ?_).2.2; exact (by (with_reducible repeat (first | apply Kd.R_alloc | apply Kd.R_drewN | apply Kd.R_drew)); exact (Kd.R_mono (Kd.R_far (p := ⟨gb319, 1, none⟩) (Kd.R_far (p := ⟨gb319, 0, none⟩) (Kd.R_mono HO325.out (fun k_ hk => (⟨hk, hk.2⟩ : _ ∧ k_ ≠ gb319))) (fun _ hk => hk.2) (.string t326)) (fun _ hk => hk.2) (.string t327)) (fun _ h_ => h_.1)))); (case side4 => exact (Kd.R_reads' HO325.out).2.1); rintro e w19 ⟨v330, rfl, ho0, hb⟩; refine ⟨_, rfl, ?_⟩; have n0_ := Aside0.mk (Kd.R_elder' (by (with_reducible repeat (first | apply Kd.R_alloc | apply Kd.R_drewN | apply Kd.R_drew)); exact (Kd.R_mono (Kd.R_far (p := ⟨gb319, 1, none⟩) (Kd.R_far (p := ⟨gb319, 0, none⟩) (Kd.R_mono HO322.out (fun k_ hk => (⟨hk, hk.1.2⟩ : _ ∧ k_ ≠ gb319))) (fun _ hk => hk.2) (.string t326)) (fun _ hk => hk.2) (.string t327)) (fun _ h_ => h_.1))) (Kd.R_base ho0) hb); have n1_ := Aside0.mk (Kd.R_elder' (by (with_reducible repeat (first | apply Kd.R_alloc | apply Kd.R_drewN | apply Kd.R_drew)); exact (Kd.R_mono (Kd.R_far (p := ⟨gb319, 1, none⟩) (Kd.R_far (p := ⟨gb319, 0, none⟩) (Kd.R_mono HO325.out (fun k_ hk => (⟨hk, hk.2⟩ : _ ∧ k_ ≠ gb319))) (fun _ hk => hk.2) (.string t326)) (fun _ hk => hk.2) (.string t327)) (fun _ h_ => h_.1))) (Kd.R_base ho0) hb); have n2_ := Aside0.mk (Kd.R_lower (Kd.R_newB (Kd.R_new' (Kd.R_new' ho0 (Kd.R_lt (by (with_reducible repeat (first | apply Kd.R_alloc | apply Kd.R_drewN | apply Kd.R_drew)); exact (Kd.R_mono (Kd.R_far (p := ⟨gb319, 1, none⟩) (Kd.R_far (p := ⟨gb319, 0, none⟩) (Kd.R_mono HO322.out (fun k_ hk => (⟨hk, hk.1.2⟩ : _ ∧ k_ ≠ gb319))) (fun _ hk => hk.2) (.string t326)) (fun _ hk => hk.2) (.string t327)) (fun _ h_ => h_.1))))) (Kd.R_lt (by (with_reducible repeat (first | apply Kd.R_alloc | apply Kd.R_drewN | apply Kd.R_drew)); exact (Kd.R_mono (Kd.R_far (p := ⟨gb319, 1, none⟩) (Kd.R_far (p := ⟨gb319, 0, none⟩) (Kd.R_mono HO325.out (fun k_ hk => (⟨hk, hk.2⟩ : _ ∧ k_ ≠ gb319))) (fun _ hk => hk.2) (.string t326)) (fun _ hk => hk.2) (.string t327)) (fun _ h_ => h_.1))))) (g := gb319) (o := .cells #[.string t326, .string t327] 31 (0, 0)) (by (with_reducible repeat (first | refine blk_drewN ?_ _ | refine blk_drew ?_ | refine blk_alloc ?_ _)); refine blk_put (cs := #[.string t326, .string a2_1]) ?_ 1 _ rfl; (with_reducible repeat (first | refine blk_drewN ?_ _ | refine blk_drew ?_ | refine blk_alloc ?_ _)); refine blk_put (cs := #[.string a2_0, .string a2_1]) ?_ 0 _ rfl; (with_reducible repeat (first | refine blk_drewN ?_ _ | refine blk_drew ?_ | refine blk_alloc ?_ _)); exact BK319.out)) (below_size (by repeat (first | (with_reducible first | exact HB.out | apply below_alloc | apply pw_below_drewN | apply below_drew1 | refine below_set ?_ GE319.out) | exact HB.out)))); have n3_ := Aside0.mk (blk_below (g := gb319) (o := .cells #[.string t326, .string t327] 31 (0, 0)) (by (with_reducible repeat (first | refine blk_drewN ?_ _ | refine blk_drew ?_ | refine blk_alloc ?_ _)); refine blk_put (cs := #[.string t326, .string a2_1]) ?_ 1 _ rfl; (with_reducible repeat (first | refine blk_drewN ?_ _ | refine blk_drew ?_ | refine blk_alloc ?_ _)); refine blk_put (cs := #[.string a2_0, .string a2_1]) ?_ 0 _ rfl; (with_reducible repeat (first | refine blk_drewN ?_ _ | refine blk_drew ?_ | refine blk_alloc ?_ _)); exact BK319.out) hb); have n4_ := Aside0.mk (below_step (by repeat (first | (with_reducible first | exact HB.out | apply below_alloc | apply pw_below_drewN | apply below_drew1 | refine below_set ?_ GE319.out) | exact HB.out)) hb); clear HO322; clear HO325; clear BK319; clear HB; have HO322 := n0_; have HO325 := n1_; have HO331 := n2_; have BK319 := n3_; have HB := n4_; clear n0_ n1_ n2_ n3_ n4_; (try clear hb); (try clear hb2); (try clear hk); (try clear hi); (try clear ho0); have hcz20_0 : w19.cell? ⟨gb319, 0, none⟩ = some (.string t326) := (blk_cell BK319.out 0).trans rfl; have hcz20_1 : w19.cell? ⟨gb319, 1, none⟩ = some (.string t327) := (blk_cell BK319.out 1).trans rfl; have hfz20_0 := blk_frozen BK319.out 0; have hfz20_1 := blk_frozen BK319.out 1) | ((with_reducible refine gate_callee (f := 15) rfl ?_); refine goesL_ (some 35) rfl rfl Tryd.func15 (by kernel_rfl) rfl #[.slice Ao18 t323.length co18, .agg #[.string t326, .string t327]] rfl (by (try simp only [List.map_toArray, List.map_cons, List.map_nil]); first | done | rfl | (simp only [List.length_drop, List.length_take]; rfl)) ?_; (with_reducible refine (node_With.calls _ _ t323 t326 t327 t332 t335 _ ?side1 ?side2 A8.out).mono ?_); (case side1 => repeat (first | exact (Kd.R_reads' HO325.out).2.2 | (with_reducible refine Kd.C_alloc ?_ _) | (with_reducible refine Kd.C_drewN ?_ _) | (with_reducible refine Kd.C_drew ?_))); (case side2 => exact (Kd.R_reads' HO325.out).2.1); rintro e w21 ⟨v333, rfl, ho0, hb⟩; refine ⟨_, rfl, ?_⟩; have n0_ := Aside0.mk (Kd.R_elder' (by (with_reducible repeat (first | apply Kd.R_alloc | apply Kd.R_drewN | apply Kd.R_drew)); exact HO322.out) (Kd.R_base ho0) hb); have n1_ := Aside0.mk (Kd.R_elder' (by (with_reducible repeat (first | apply Kd.R_alloc | apply Kd.R_drewN | apply Kd.R_drew)); exact HO325.out) (Kd.R_base ho0) hb); have n2_ := Aside0.mk (Kd.R_elder' (by (with_reducible repeat (first | apply Kd.R_alloc | apply Kd.R_drewN | apply Kd.R_drew)); exact HO331.out) (Kd.R_base ho0) hb); have n3_ := Aside0.mk (Kd.R_lower (Kd.R_newB (Kd.R_new' (Kd.R_new' (Kd.R_new' ho0 (Kd.R_lt (by (with_reducible repeat (first | apply Kd.R_alloc | apply Kd.R_drewN | apply Kd.R_drew)); exact HO322.out))) (Kd.R_lt (by (with_reducible repeat (first | apply Kd.R_alloc | apply Kd.R_drewN | apply Kd.R_drew)); exact HO325.out))) (Kd.R_lt (by (with_reducible repeat (first | apply Kd.R_alloc | apply Kd.R_drewN | apply Kd.R_drew)); exact HO331.out))) (g := gb319) (o := .cells #[.string t326, .string t327] 31 (0, 0)) (by (with_reducible repeat (first | refine blk_drewN ?_ _ | refine blk_drew ?_ | refine blk_alloc ?_ _)); exact BK319.out)) (below_size (by repeat (first | (with_reducible first | exact HB.out | apply below_alloc | apply pw_below_drewN | apply below_drew1 | refine below_set ?_ GE319.out) | exact HB.out)))); have n4_ := Aside0.mk (blk_below (g := gb319) (o := .cells #[.string t326, .string t327] 31 (0, 0)) (by (with_reducible repeat (first | refine blk_drewN ?_ _ | refine blk_drew ?_ | refine blk_alloc ?_ _)); exact BK319.out) hb); have n5_ := Aside0.mk (below_step (by repeat (first | (with_reducible first | exact HB.out | apply below_alloc | apply pw_below_drewN | apply below_drew1 | refine below_set ?_ GE319.out) | exact HB.out)) hb); clear HO322; clear HO325; clear HO331; clear BK319; clear HB; have HO322 := n0_; have HO325 := n1_; have HO331 := n2_; have HO334 := n3_; have BK319 := n4_; have HB := n5_; clear n0_ n1_ n2_ n3_ n4_ n5_; (try clear hb); (try clear hb2); (try clear hk); (try clear hi); (try clear ho0)))
  (try simp only [Act.put, List.setIfInBounds_toArray, List.set_cons_zero, List.set_cons_succ])
  go_cut [43] (fun v43 wc => ∃ (kq : Nat) (x43_8 : Bool), v43 = .bool x43_8 ∧ Aside0 (graftwoodlaw18_LackLess.j0 kq t320 t323 t328 t332 x43_8 t326 t327 = some r) ∧ Aside0 (kq ≤ k) ∧ Aside0 (Kd.R k31 31 wc w.heap.size (fun k_ => some k_ ≠ ((.slice Ao18 t323.length co18) : Value).ownBlock ∧ some k_ ≠ (v330 : Value).ownBlock ∧ some k_ ≠ (v333 : Value).ownBlock ∧ k_ ≠ gb319) (.slice Ao17 t320.length co17) t320) ∧ Aside0 (Kd.R k31 31 wc w.heap.size (fun k_ => some k_ ≠ ((.slice Ao17 t320.length co17) : Value).ownBlock ∧ some k_ ≠ (v330 : Value).ownBlock ∧ some k_ ≠ (v333 : Value).ownBlock ∧ k_ ≠ gb319) (.slice Ao18 t323.length co18) t323) ∧ Aside0 (Kd.R k31 31 wc w.heap.size (fun k_ => some k_ ≠ ((.slice Ao17 t320.length co17) : Value).ownBlock ∧ some k_ ≠ ((.slice Ao18 t323.length co18) : Value).ownBlock ∧ some k_ ≠ (v333 : Value).ownBlock ∧ k_ ≠ gb319) v330 t328) ∧ Aside0 (Kd.R k31 31 wc w.heap.size (fun k_ => some k_ ≠ ((.slice Ao17 t320.length co17) : Value).ownBlock ∧ some k_ ≠ ((.slice Ao18 t323.length co18) : Value).ownBlock ∧ some k_ ≠ (v330 : Value).ownBlock ∧ k_ ≠ gb319) v333 t332) ∧ Aside0 (wc.heap[gb319]? = some (.cells #[.string t326, .string t327] 31 (0, 0))) ∧ Aside0 (Below w.heap.size w wc))
  case first =>
    have H := HC9.out
    clear HC9
    by_cases c22 : t329 = 0
    · rw [if_pos c22] at H
      have c22b0 : (t329 == 0) = true := beq_iff_eq.mpr c22
      have c22b1 : (t329 != 0) = false := bne_eq_false_iff_eq.mpr c22
      clear c22
      (first | rw [c22b0] | (simp only [i64_w, i32_w]; rw [c22b0]) | skip)
      have H' := Aside0.mk H
      clear H
      go_wp2
      go_meet
      case rel => exact ⟨_, ((t335 != 0)), (by first | rfl | (simp; done) | (simp [*]; done)), H', ⟨by first | omega | exact Nat.le_refl _⟩, ⟨by (with_reducible repeat (first | apply Kd.R_alloc | apply Kd.R_drewN | apply Kd.R_drew)); exact Kd.R_mono HO322.out (fun _ hk => ⟨hk.1.1.2, ⟨hk.1.2, ⟨hk.2, hk.1.1.1.2⟩⟩⟩)⟩, ⟨by (with_reducible repeat (first | apply Kd.R_alloc | apply Kd.R_drewN | apply Kd.R_drew)); exact Kd.R_mono HO325.out (fun _ hk => ⟨hk.1.1.1.2, ⟨hk.1.2, ⟨hk.2, hk.1.1.2⟩⟩⟩)⟩, ⟨by (with_reducible repeat (first | apply Kd.R_alloc | apply Kd.R_drewN | apply Kd.R_drew)); exact Kd.R_mono HO331.out (fun _ hk => ⟨hk.1.1.1.2, ⟨hk.1.1.2, ⟨hk.2, hk.1.2⟩⟩⟩)⟩, ⟨by (with_reducible repeat (first | apply Kd.R_alloc | apply Kd.R_drewN | apply Kd.R_drew)); exact Kd.R_mono HO334.out (fun _ hk => ⟨hk.1.1.1.2, ⟨hk.1.1.2, ⟨hk.1.2, hk.2⟩⟩⟩)⟩, ⟨by (with_reducible repeat (first | refine blk_drewN ?_ _ | refine blk_drew ?_ | refine blk_alloc ?_ _)); exact BK319.out⟩, ⟨by repeat (first | (with_reducible first | exact HB.out | apply below_alloc | apply pw_below_drewN | apply below_drew1 | refine below_set ?_ GE319.out) | exact HB.out)⟩⟩
    · rw [if_neg c22] at H
      have c22b0 : (t329 == 0) = false := beq_eq_false_iff_ne.mpr c22
      have c22b1 : (t329 != 0) = true := bne_iff_ne.mpr c22
      (first | rw [c22b0] | (simp only [i64_w, i32_w]; rw [c22b0]) | skip)
      have H' := Aside0.mk H
      clear H
      go_wp2
      go_meet
      case rel => exact ⟨_, (true), (by first | rfl | (simp; done) | (simp [*]; done)), H', ⟨by first | omega | exact Nat.le_refl _⟩, ⟨by (with_reducible repeat (first | apply Kd.R_alloc | apply Kd.R_drewN | apply Kd.R_drew)); exact Kd.R_mono HO322.out (fun _ hk => ⟨hk.1.1.2, ⟨hk.1.2, ⟨hk.2, hk.1.1.1.2⟩⟩⟩)⟩, ⟨by (with_reducible repeat (first | apply Kd.R_alloc | apply Kd.R_drewN | apply Kd.R_drew)); exact Kd.R_mono HO325.out (fun _ hk => ⟨hk.1.1.1.2, ⟨hk.1.2, ⟨hk.2, hk.1.1.2⟩⟩⟩)⟩, ⟨by (with_reducible repeat (first | apply Kd.R_alloc | apply Kd.R_drewN | apply Kd.R_drew)); exact Kd.R_mono HO331.out (fun _ hk => ⟨hk.1.1.1.2, ⟨hk.1.1.2, ⟨hk.2, hk.1.2⟩⟩⟩)⟩, ⟨by (with_reducible repeat (first | apply Kd.R_alloc | apply Kd.R_drewN | apply Kd.R_drew)); exact Kd.R_mono HO334.out (fun _ hk => ⟨hk.1.1.1.2, ⟨hk.1.1.2, ⟨hk.1.2, hk.2⟩⟩⟩)⟩, ⟨by (with_reducible repeat (first | refine blk_drewN ?_ _ | refine blk_drew ?_ | refine blk_alloc ?_ _)); exact BK319.out⟩, ⟨by repeat (first | (with_reducible first | exact HB.out | apply below_alloc | apply pw_below_drewN | apply below_drew1 | refine below_set ?_ GE319.out) | exact HB.out)⟩⟩
  case rest =>
    clear HC9
    try clear c1
    try clear c2
    try clear p2
    try clear c5
    try clear c6
    try clear c13
    try clear c14
    try clear c15
    try clear c22
    try clear c22b0
    try clear c22b1
    try clear hcz20_0
    try clear hcz20_1
    try clear hfz20_0
    try clear hfz20_1
    obtain ⟨kq, x43_8, rfl, HA, HJ8, HO_0, HO_1, HO_7, HO_9, BK319, HB⟩ := hcut
    cases kq with
    | zero => exact absurd HA.out (by simp [graftwoodlaw18_LackLess.j0])
    | succ kj8 =>
      have H := HA.out
      clear HA
      simp only [graftwoodlaw18_LackLess.j0] at H
      by_cases c23 : x43_8 = true
      · subst c23
        have H1 : ((graftwoodlaw18_awake.f).bind fun t336 => (some t336)) = some r := by rw [if_pos rfl] at H; exact H
        clear H
        have H := H1
        clear H1
        replace H := Option.bind_eq_some_iff.mp H
        obtain ⟨t336, A240, H⟩ := H
        replace H : (some t336) = some r := H
        have A24 := Aside0.mk A240
        clear A240
        obtain rfl := Option.some.inj H
        go_wp2_with (first | ((with_reducible refine gate_callee (f := 9) rfl ?_); refine goesL_ (some 44) rfl rfl Tryd.func9 (by kernel_rfl) rfl #[] rfl (by (try simp only [List.map_toArray, List.map_cons, List.map_nil]); first | done | rfl | (simp only [List.length_drop, List.length_take]; rfl)) ?_; (with_reducible refine (graftwoodlaw18_awake.calls  t336 _ A24.out HR_).mono ?_); rintro e w25 ⟨rfl, hb⟩; refine ⟨_, rfl, ?_⟩; have n0_ := Aside0.mk (Kd.R_below (by (with_reducible repeat (first | apply Kd.R_alloc | apply Kd.R_drewN | apply Kd.R_drew)); exact HO_0.out) hb); have n1_ := Aside0.mk (Kd.R_below (by (with_reducible repeat (first | apply Kd.R_alloc | apply Kd.R_drewN | apply Kd.R_drew)); exact HO_1.out) hb); have n2_ := Aside0.mk (Kd.R_below (by (with_reducible repeat (first | apply Kd.R_alloc | apply Kd.R_drewN | apply Kd.R_drew)); exact HO_7.out) hb); have n3_ := Aside0.mk (Kd.R_below (by (with_reducible repeat (first | apply Kd.R_alloc | apply Kd.R_drewN | apply Kd.R_drew)); exact HO_9.out) hb); have n4_ := Aside0.mk (blk_below (g := gb319) (o := .cells #[.string t326, .string t327] 31 (0, 0)) (by (with_reducible repeat (first | refine blk_drewN ?_ _ | refine blk_drew ?_ | refine blk_alloc ?_ _)); exact BK319.out) hb); have n5_ := Aside0.mk (below_step (by repeat (first | (with_reducible first | exact HB.out | apply below_alloc | apply pw_below_drewN | apply below_drew1 | refine below_set ?_ GE319.out) | exact HB.out)) hb); clear HO_0; clear HO_1; clear HO_7; clear HO_9; clear BK319; clear HB; have HO_0 := n0_; have HO_1 := n1_; have HO_7 := n2_; have HO_9 := n3_; have BK319 := n4_; have HB := n5_; clear n0_ n1_ n2_ n3_ n4_ n5_; (try clear hb); (try clear hb2); (try clear hk); (try clear hi)))
        go_ret
        exact ⟨by first | rfl | (simp [errW_none, errW_some] <;> rfl) | (simp [*, errW_none, errW_some] <;> rfl), by repeat (first | (with_reducible first | exact HB.out | apply below_alloc | apply pw_below_drewN | apply below_drew1 | refine below_set ?_ GE319.out) | exact HB.out)⟩
      · replace c23 := Bool.eq_false_iff.mpr c23
        subst c23
        have H1 : ((lack_Missing.f t320 t332).bind fun bt337 => ((node_Without.f t328 t326 t327).bind fun bt341 => ((lack_Missing.f t320 t320).bind fun bt345 => ((lack_Missing.f t320 ([] : List (S31))).bind fun bt349 => (graftwoodlaw18_LackLess.l0 kj8 t320 t323 t328 bt337.1 bt337.2 bt341.1 bt341.2 bt345.1 bt345.2 bt349.1 bt349.2 0))))) = some r := by rw [if_neg (show ¬ (false = true) by decide)] at H; exact H
        clear H
        have H := H1
        clear H1
        replace H := Option.bind_eq_some_iff.mp H
        obtain ⟨⟨t337, t338⟩, A260, H⟩ := H
        replace H : ((node_Without.f t328 t326 t327).bind fun bt341 => ((lack_Missing.f t320 t320).bind fun bt345 => ((lack_Missing.f t320 ([] : List (S31))).bind fun bt349 => (graftwoodlaw18_LackLess.l0 kj8 t320 t323 t328 t337 t338 bt341.1 bt341.2 bt345.1 bt345.2 bt349.1 bt349.2 0)))) = some r := H
        have A26 := Aside0.mk A260
        clear A260
        replace H := Option.bind_eq_some_iff.mp H
        obtain ⟨⟨t341, t344⟩, A270, H⟩ := H
        replace H : ((lack_Missing.f t320 t320).bind fun bt345 => ((lack_Missing.f t320 ([] : List (S31))).bind fun bt349 => (graftwoodlaw18_LackLess.l0 kj8 t320 t323 t328 t337 t338 t341 t344 bt345.1 bt345.2 bt349.1 bt349.2 0))) = some r := H
        have A27 := Aside0.mk A270
        clear A270
        replace H := Option.bind_eq_some_iff.mp H
        obtain ⟨⟨t345, t346⟩, A280, H⟩ := H
        replace H : ((lack_Missing.f t320 ([] : List (S31))).bind fun bt349 => (graftwoodlaw18_LackLess.l0 kj8 t320 t323 t328 t337 t338 t341 t344 t345 t346 bt349.1 bt349.2 0)) = some r := H
        have A28 := Aside0.mk A280
        clear A280
        replace H := Option.bind_eq_some_iff.mp H
        obtain ⟨⟨t349, t350⟩, A290, H⟩ := H
        replace H : (graftwoodlaw18_LackLess.l0 kj8 t320 t323 t328 t337 t338 t341 t344 t345 t346 t349 t350 0) = some r := H
        have A29 := Aside0.mk A290
        clear A290
        have H' := Aside0.mk H
        clear H
        obtain ⟨Ao30, co30, eo30⟩ := Kd.R_slice HO_9.out
        subst eo30
        go_wp2_with (first | ((with_reducible refine gate_callee (f := 14) rfl ?_); refine goesL_ (some 48) rfl rfl Tryd.func14 (by kernel_rfl) rfl #[.slice Ao17 t320.length co17, .slice Ao30 t332.length co30] rfl (by (try simp only [List.map_toArray, List.map_cons, List.map_nil]); first | done | rfl | (simp only [List.length_drop, List.length_take]; rfl)) ?_; (with_reducible refine (lack_Missing.calls _ _ t320 _ _ t332 t337 t338 _ ?side1 ?side2 ?side3 ?side4 A26.out).mono ?_); (case side1 => repeat (first | exact (Kd.R_reads' HO_0.out).2.2 | (with_reducible refine Kd.C_alloc ?_ _) | (with_reducible refine Kd.C_drewN ?_ _) | (with_reducible refine Kd.C_drew ?_))); (case side2 => exact (Kd.R_reads' HO_0.out).2.1); (case side3 => repeat (first | exact (Kd.R_reads' HO_9.out).2.2 | (with_reducible refine Kd.C_alloc ?_ _) | (with_reducible refine Kd.C_drewN ?_ _) | (with_reducible refine Kd.C_drew ?_))); (case side4 => exact (Kd.R_reads' HO_9.out).2.1); rintro e w31 ⟨v339, rfl, ho0, hb⟩; refine ⟨_, rfl, ?_⟩; have n0_ := Aside0.mk (Kd.R_elder' (by (with_reducible repeat (first | apply Kd.R_alloc | apply Kd.R_drewN | apply Kd.R_drew)); exact HO_0.out) (Kd.R_base ho0) hb); have n1_ := Aside0.mk (Kd.R_elder' (by (with_reducible repeat (first | apply Kd.R_alloc | apply Kd.R_drewN | apply Kd.R_drew)); exact HO_1.out) (Kd.R_base ho0) hb); have n2_ := Aside0.mk (Kd.R_elder' (by (with_reducible repeat (first | apply Kd.R_alloc | apply Kd.R_drewN | apply Kd.R_drew)); exact HO_7.out) (Kd.R_base ho0) hb); have n3_ := Aside0.mk (Kd.R_elder' (by (with_reducible repeat (first | apply Kd.R_alloc | apply Kd.R_drewN | apply Kd.R_drew)); exact HO_9.out) (Kd.R_base ho0) hb); have n4_ := Aside0.mk (Kd.R_lower (Kd.R_newB (Kd.R_new' (Kd.R_new' (Kd.R_new' (Kd.R_new' ho0 (Kd.R_lt (by (with_reducible repeat (first | apply Kd.R_alloc | apply Kd.R_drewN | apply Kd.R_drew)); exact HO_0.out))) (Kd.R_lt (by (with_reducible repeat (first | apply Kd.R_alloc | apply Kd.R_drewN | apply Kd.R_drew)); exact HO_1.out))) (Kd.R_lt (by (with_reducible repeat (first | apply Kd.R_alloc | apply Kd.R_drewN | apply Kd.R_drew)); exact HO_7.out))) (Kd.R_lt (by (with_reducible repeat (first | apply Kd.R_alloc | apply Kd.R_drewN | apply Kd.R_drew)); exact HO_9.out))) (g := gb319) (o := .cells #[.string t326, .string t327] 31 (0, 0)) (by (with_reducible repeat (first | refine blk_drewN ?_ _ | refine blk_drew ?_ | refine blk_alloc ?_ _)); exact BK319.out)) (below_size (by repeat (first | (with_reducible first | exact HB.out | apply below_alloc | apply pw_below_drewN | apply below_drew1 | refine below_set ?_ GE319.out) | exact HB.out)))); have n5_ := Aside0.mk (blk_below (g := gb319) (o := .cells #[.string t326, .string t327] 31 (0, 0)) (by (with_reducible repeat (first | refine blk_drewN ?_ _ | refine blk_drew ?_ | refine blk_alloc ?_ _)); exact BK319.out) hb); have n6_ := Aside0.mk (below_step (by repeat (first | (with_reducible first | exact HB.out | apply below_alloc | apply pw_below_drewN | apply below_drew1 | refine below_set ?_ GE319.out) | exact HB.out)) hb); clear HO_0; clear HO_1; clear HO_7; clear HO_9; clear BK319; clear HB; have HO_0 := n0_; have HO_1 := n1_; have HO_7 := n2_; have HO_9 := n3_; have HO340 := n4_; have BK319 := n5_; have HB := n6_; clear n0_ n1_ n2_ n3_ n4_ n5_ n6_; (try clear hb); (try clear hb2); (try clear hk); (try clear hi); (try clear ho0); have hcz32_0 : w31.cell? ⟨gb319, 0, none⟩ = some (.string t326) := (blk_cell BK319.out 0).trans rfl; have hcz32_1 : w31.cell? ⟨gb319, 1, none⟩ = some (.string t327) := (blk_cell BK319.out 1).trans rfl; have hfz32_0 := blk_frozen BK319.out 0; have hfz32_1 := blk_frozen BK319.out 1; obtain ⟨Ao33, co33, eo33⟩ := Kd.R_slice HO_7.out; subst eo33) | ((with_reducible refine gate_callee (f := 16) rfl ?_); refine goesL_ (some 54) rfl rfl Tryd.func16 (by kernel_rfl) rfl #[.slice Ao33 t328.length co33, .agg #[.string t326, .string t327]] rfl (by (try simp only [List.map_toArray, List.map_cons, List.map_nil]); first | done | rfl | (simp only [List.length_drop, List.length_take]; rfl)) ?_; (with_reducible refine (node_Without.calls _ _ t328 t326 t327 t341 t344 _ ?side1 ?side2 A27.out).mono ?_); (case side1 => repeat (first | exact (Kd.R_reads' HO_7.out).2.2 | (with_reducible refine Kd.C_alloc ?_ _) | (with_reducible refine Kd.C_drewN ?_ _) | (with_reducible refine Kd.C_drew ?_))); (case side2 => exact (Kd.R_reads' HO_7.out).2.1); rintro e w34 ⟨v342, rfl, ho0, hb⟩; refine ⟨_, rfl, ?_⟩; have n0_ := Aside0.mk (Kd.R_elder' (by (with_reducible repeat (first | apply Kd.R_alloc | apply Kd.R_drewN | apply Kd.R_drew)); exact HO_0.out) (Kd.R_base ho0) hb); have n1_ := Aside0.mk (Kd.R_elder' (by (with_reducible repeat (first | apply Kd.R_alloc | apply Kd.R_drewN | apply Kd.R_drew)); exact HO_1.out) (Kd.R_base ho0) hb); have n2_ := Aside0.mk (Kd.R_elder' (by (with_reducible repeat (first | apply Kd.R_alloc | apply Kd.R_drewN | apply Kd.R_drew)); exact HO_7.out) (Kd.R_base ho0) hb); have n3_ := Aside0.mk (Kd.R_elder' (by (with_reducible repeat (first | apply Kd.R_alloc | apply Kd.R_drewN | apply Kd.R_drew)); exact HO_9.out) (Kd.R_base ho0) hb); have n4_ := Aside0.mk (Kd.R_elder' (by (with_reducible repeat (first | apply Kd.R_alloc | apply Kd.R_drewN | apply Kd.R_drew)); exact HO340.out) (Kd.R_base ho0) hb); have n5_ := Aside0.mk (Kd.R_lower (Kd.R_newB (Kd.R_new' (Kd.R_new' (Kd.R_new' (Kd.R_new' (Kd.R_new' ho0 (Kd.R_lt (by (with_reducible repeat (first | apply Kd.R_alloc | apply Kd.R_drewN | apply Kd.R_drew)); exact HO_0.out))) (Kd.R_lt (by (with_reducible repeat (first | apply Kd.R_alloc | apply Kd.R_drewN | apply Kd.R_drew)); exact HO_1.out))) (Kd.R_lt (by (with_reducible repeat (first | apply Kd.R_alloc | apply Kd.R_drewN | apply Kd.R_drew)); exact HO_7.out))) (Kd.R_lt (by (with_reducible repeat (first | apply Kd.R_alloc | apply Kd.R_drewN | apply Kd.R_drew)); exact HO_9.out))) (Kd.R_lt (by (with_reducible repeat (first | apply Kd.R_alloc | apply Kd.R_drewN | apply Kd.R_drew)); exact HO340.out))) (g := gb319) (o := .cells #[.string t326, .string t327] 31 (0, 0)) (by (with_reducible repeat (first | refine blk_drewN ?_ _ | refine blk_drew ?_ | refine blk_alloc ?_ _)); exact BK319.out)) (below_size (by repeat (first | (with_reducible first | exact HB.out | apply below_alloc | apply pw_below_drewN | apply below_drew1 | refine below_set ?_ GE319.out) | exact HB.out)))); have n6_ := Aside0.mk (blk_below (g := gb319) (o := .cells #[.string t326, .string t327] 31 (0, 0)) (by (with_reducible repeat (first | refine blk_drewN ?_ _ | refine blk_drew ?_ | refine blk_alloc ?_ _)); exact BK319.out) hb); have n7_ := Aside0.mk (below_step (by repeat (first | (with_reducible first | exact HB.out | apply below_alloc | apply pw_below_drewN | apply below_drew1 | refine below_set ?_ GE319.out) | exact HB.out)) hb); clear HO_0; clear HO_1; clear HO_7; clear HO_9; clear HO340; clear BK319; clear HB; have HO_0 := n0_; have HO_1 := n1_; have HO_7 := n2_; have HO_9 := n3_; have HO340 := n4_; have HO343 := n5_; have BK319 := n6_; have HB := n7_; clear n0_ n1_ n2_ n3_ n4_ n5_ n6_ n7_; (try clear hb); (try clear hb2); (try clear hk); (try clear hi); (try clear ho0)) | ((with_reducible refine gate_callee (f := 14) rfl ?_); refine goesL_ (some 60) rfl rfl Tryd.func14 (by kernel_rfl) rfl #[.slice Ao17 t320.length co17, .slice Ao17 t320.length co17] rfl (by (try simp only [List.map_toArray, List.map_cons, List.map_nil]); first | done | rfl | (simp only [List.length_drop, List.length_take]; rfl)) ?_; (with_reducible refine (lack_Missing.calls _ _ t320 _ _ t320 t345 t346 _ ?side1 ?side2 ?side3 ?side4 A28.out).mono ?_); (case side1 => repeat (first | exact (Kd.R_reads' HO_0.out).2.2 | (with_reducible refine Kd.C_alloc ?_ _) | (with_reducible refine Kd.C_drewN ?_ _) | (with_reducible refine Kd.C_drew ?_))); (case side2 => exact (Kd.R_reads' HO_0.out).2.1); (case side3 => repeat (first | exact (Kd.R_reads' HO_0.out).2.2 | (with_reducible refine Kd.C_alloc ?_ _) | (with_reducible refine Kd.C_drewN ?_ _) | (with_reducible refine Kd.C_drew ?_))); (case side4 => exact (Kd.R_reads' HO_0.out).2.1); rintro e w35 ⟨v347, rfl, ho0, hb⟩; refine ⟨_, rfl, ?_⟩; have n0_ := Aside0.mk (Kd.R_elder' (by (with_reducible repeat (first | apply Kd.R_alloc | apply Kd.R_drewN | apply Kd.R_drew)); exact HO_0.out) (Kd.R_base ho0) hb); have n1_ := Aside0.mk (Kd.R_elder' (by (with_reducible repeat (first | apply Kd.R_alloc | apply Kd.R_drewN | apply Kd.R_drew)); exact HO_1.out) (Kd.R_base ho0) hb); have n2_ := Aside0.mk (Kd.R_elder' (by (with_reducible repeat (first | apply Kd.R_alloc | apply Kd.R_drewN | apply Kd.R_drew)); exact HO_7.out) (Kd.R_base ho0) hb); have n3_ := Aside0.mk (Kd.R_elder' (by (with_reducible repeat (first | apply Kd.R_alloc | apply Kd.R_drewN | apply Kd.R_drew)); exact HO_9.out) (Kd.R_base ho0) hb); have n4_ := Aside0.mk (Kd.R_elder' (by (with_reducible repeat (first | apply Kd.R_alloc | apply Kd.R_drewN | apply Kd.R_drew)); exact HO340.out) (Kd.R_base ho0) hb); have n5_ := Aside0.mk (Kd.R_elder' (by (with_reducible repeat (first | apply Kd.R_alloc | apply Kd.R_drewN | apply Kd.R_drew)); exact HO343.out) (Kd.R_base ho0) hb); have n6_ := Aside0.mk (Kd.R_lower (Kd.R_newB (Kd.R_new' (Kd.R_new' (Kd.R_new' (Kd.R_new' (Kd.R_new' (Kd.R_new' ho0 (Kd.R_lt (by (with_reducible repeat (first | apply Kd.R_alloc | apply Kd.R_drewN | apply Kd.R_drew)); exact HO_0.out))) (Kd.R_lt (by (with_reducible repeat (first | apply Kd.R_alloc | apply Kd.R_drewN | apply Kd.R_drew)); exact HO_1.out))) (Kd.R_lt (by (with_reducible repeat (first | apply Kd.R_alloc | apply Kd.R_drewN | apply Kd.R_drew)); exact HO_7.out))) (Kd.R_lt (by (with_reducible repeat (first | apply Kd.R_alloc | apply Kd.R_drewN | apply Kd.R_drew)); exact HO_9.out))) (Kd.R_lt (by (with_reducible repeat (first | apply Kd.R_alloc | apply Kd.R_drewN | apply Kd.R_drew)); exact HO340.out))) (Kd.R_lt (by (with_reducible repeat (first | apply Kd.R_alloc | apply Kd.R_drewN | apply Kd.R_drew)); exact HO343.out))) (g := gb319) (o := .cells #[.string t326, .string t327] 31 (0, 0)) (by (with_reducible repeat (first | refine blk_drewN ?_ _ | refine blk_drew ?_ | refine blk_alloc ?_ _)); exact BK319.out)) (below_size (by repeat (first | (with_reducible first | exact HB.out | apply below_alloc | apply pw_below_drewN | apply below_drew1 | refine below_set ?_ GE319.out) | exact HB.out)))); have n7_ := Aside0.mk (blk_below (g := gb319) (o := .cells #[.string t326, .string t327] 31 (0, 0)) (by (with_reducible repeat (first | refine blk_drewN ?_ _ | refine blk_drew ?_ | refine blk_alloc ?_ _)); exact BK319.out) hb); have n8_ := Aside0.mk (below_step (by repeat (first | (with_reducible first | exact HB.out | apply below_alloc | apply pw_below_drewN | apply below_drew1 | refine below_set ?_ GE319.out) | exact HB.out)) hb); clear HO_0; clear HO_1; clear HO_7; clear HO_9; clear HO340; clear HO343; clear BK319; clear HB; have HO_0 := n0_; have HO_1 := n1_; have HO_7 := n2_; have HO_9 := n3_; have HO340 := n4_; have HO343 := n5_; have HO348 := n6_; have BK319 := n7_; have HB := n8_; clear n0_ n1_ n2_ n3_ n4_ n5_ n6_ n7_ n8_; (try clear hb); (try clear hb2); (try clear hk); (try clear hi); (try clear ho0)) | ((with_reducible refine gate_callee (f := 14) rfl ?_); refine goesL_ (some 65) rfl rfl Tryd.func14 (by kernel_rfl) rfl #[.slice Ao17 t320.length co17, .slice none 0 0] rfl (by (try simp only [List.map_toArray, List.map_cons, List.map_nil]); first | done | rfl | (simp only [List.length_drop, List.length_take]; rfl)) ?_; (refine (lack_Missing.calls _ _ t320 _ _ ([] : List (S31)) t349 t350 _ ?side1 ?side2 ?side3 ?side4 A29.out).mono ?_); (case side1 => repeat (first | exact (Kd.R_reads' HO_0.out).2.2 | (with_reducible refine Kd.C_alloc ?_ _) | (with_reducible refine Kd.C_drewN ?_ _) | (with_reducible refine Kd.C_drew ?_))); (case side2 => exact (Kd.R_reads' HO_0.out).2.1); (case side3 => exact Kd.C_nil _ _); (case side4 => exact Nat.le_refl _); rintro e w36 ⟨v351, rfl, ho0, hb⟩; refine ⟨_, rfl, ?_⟩; have n0_ := Aside0.mk (Kd.R_elder' (by (with_reducible repeat (first | apply Kd.R_alloc | apply Kd.R_drewN | apply Kd.R_drew)); exact HO_0.out) (Kd.R_base ho0) hb); have n1_ := Aside0.mk (Kd.R_elder' (by (with_reducible repeat (first | apply Kd.R_alloc | apply Kd.R_drewN | apply Kd.R_drew)); exact HO_1.out) (Kd.R_base ho0) hb); have n2_ := Aside0.mk (Kd.R_elder' (by (with_reducible repeat (first | apply Kd.R_alloc | apply Kd.R_drewN | apply Kd.R_drew)); exact HO_7.out) (Kd.R_base ho0) hb); have n3_ := Aside0.mk (Kd.R_elder' (by (with_reducible repeat (first | apply Kd.R_alloc | apply Kd.R_drewN | apply Kd.R_drew)); exact HO_9.out) (Kd.R_base ho0) hb); have n4_ := Aside0.mk (Kd.R_elder' (by (with_reducible repeat (first | apply Kd.R_alloc | apply Kd.R_drewN | apply Kd.R_drew)); exact HO340.out) (Kd.R_base ho0) hb); have n5_ := Aside0.mk (Kd.R_elder' (by (with_reducible repeat (first | apply Kd.R_alloc | apply Kd.R_drewN | apply Kd.R_drew)); exact HO343.out) (Kd.R_base ho0) hb); have n6_ := Aside0.mk (Kd.R_elder' (by (with_reducible repeat (first | apply Kd.R_alloc | apply Kd.R_drewN | apply Kd.R_drew)); exact HO348.out) (Kd.R_base ho0) hb); have n7_ := Aside0.mk (Kd.R_lower (Kd.R_newB (Kd.R_new' (Kd.R_new' (Kd.R_new' (Kd.R_new' (Kd.R_new' (Kd.R_new' (Kd.R_new' ho0 (Kd.R_lt (by (with_reducible repeat (first | apply Kd.R_alloc | apply Kd.R_drewN | apply Kd.R_drew)); exact HO_0.out))) (Kd.R_lt (by (with_reducible repeat (first | apply Kd.R_alloc | apply Kd.R_drewN | apply Kd.R_drew)); exact HO_1.out))) (Kd.R_lt (by (with_reducible repeat (first | apply Kd.R_alloc | apply Kd.R_drewN | apply Kd.R_drew)); exact HO_7.out))) (Kd.R_lt (by (with_reducible repeat (first | apply Kd.R_alloc | apply Kd.R_drewN | apply Kd.R_drew)); exact HO_9.out))) (Kd.R_lt (by (with_reducible repeat (first | apply Kd.R_alloc | apply Kd.R_drewN | apply Kd.R_drew)); exact HO340.out))) (Kd.R_lt (by (with_reducible repeat (first | apply Kd.R_alloc | apply Kd.R_drewN | apply Kd.R_drew)); exact HO343.out))) (Kd.R_lt (by (with_reducible repeat (first | apply Kd.R_alloc | apply Kd.R_drewN | apply Kd.R_drew)); exact HO348.out))) (g := gb319) (o := .cells #[.string t326, .string t327] 31 (0, 0)) (by (with_reducible repeat (first | refine blk_drewN ?_ _ | refine blk_drew ?_ | refine blk_alloc ?_ _)); exact BK319.out)) (below_size (by repeat (first | (with_reducible first | exact HB.out | apply below_alloc | apply pw_below_drewN | apply below_drew1 | refine below_set ?_ GE319.out) | exact HB.out)))); have n8_ := Aside0.mk (blk_below (g := gb319) (o := .cells #[.string t326, .string t327] 31 (0, 0)) (by (with_reducible repeat (first | refine blk_drewN ?_ _ | refine blk_drew ?_ | refine blk_alloc ?_ _)); exact BK319.out) hb); have n9_ := Aside0.mk (below_step (by repeat (first | (with_reducible first | exact HB.out | apply below_alloc | apply pw_below_drewN | apply below_drew1 | refine below_set ?_ GE319.out) | exact HB.out)) hb); clear HO_0; clear HO_1; clear HO_7; clear HO_9; clear HO340; clear HO343; clear HO348; clear BK319; clear HB; have HO_0 := n0_; have HO_1 := n1_; have HO_7 := n2_; have HO_9 := n3_; have HO340 := n4_; have HO343 := n5_; have HO348 := n6_; have HO352 := n7_; have BK319 := n8_; have HB := n9_; clear n0_ n1_ n2_ n3_ n4_ n5_ n6_ n7_ n8_ n9_; (try clear hb); (try clear hb2); (try clear hk); (try clear hi); (try clear ho0)))
        go_loopg [19] kj8 (fun kq v19 w' => ∃ (x19_2 : Int), v19 = .int .i64 x19_2 ∧ Aside0 (graftwoodlaw18_LackLess.l0 kq t320 t323 t328 t337 t338 t341 t344 t345 t346 t349 t350 x19_2 = some r) ∧ Aside0 (kq ≤ kj8) ∧ Aside0 (Kd.R k31 31 w' w.heap.size (fun k_ => some k_ ≠ ((.slice Ao18 t323.length co18) : Value).ownBlock ∧ some k_ ≠ ((.slice Ao33 t328.length co33) : Value).ownBlock ∧ some k_ ≠ (v339 : Value).ownBlock ∧ some k_ ≠ (v342 : Value).ownBlock ∧ some k_ ≠ (v347 : Value).ownBlock ∧ some k_ ≠ (v351 : Value).ownBlock ∧ k_ ≠ gb319) (.slice Ao17 t320.length co17) t320) ∧ Aside0 (Kd.R k31 31 w' w.heap.size (fun k_ => some k_ ≠ ((.slice Ao17 t320.length co17) : Value).ownBlock ∧ some k_ ≠ ((.slice Ao33 t328.length co33) : Value).ownBlock ∧ some k_ ≠ (v339 : Value).ownBlock ∧ some k_ ≠ (v342 : Value).ownBlock ∧ some k_ ≠ (v347 : Value).ownBlock ∧ some k_ ≠ (v351 : Value).ownBlock ∧ k_ ≠ gb319) (.slice Ao18 t323.length co18) t323) ∧ Aside0 (Kd.R k31 31 w' w.heap.size (fun k_ => some k_ ≠ ((.slice Ao17 t320.length co17) : Value).ownBlock ∧ some k_ ≠ ((.slice Ao18 t323.length co18) : Value).ownBlock ∧ some k_ ≠ (v339 : Value).ownBlock ∧ some k_ ≠ (v342 : Value).ownBlock ∧ some k_ ≠ (v347 : Value).ownBlock ∧ some k_ ≠ (v351 : Value).ownBlock ∧ k_ ≠ gb319) (.slice Ao33 t328.length co33) t328) ∧ Aside0 (Kd.R k31 31 w' w.heap.size (fun k_ => some k_ ≠ ((.slice Ao17 t320.length co17) : Value).ownBlock ∧ some k_ ≠ ((.slice Ao18 t323.length co18) : Value).ownBlock ∧ some k_ ≠ ((.slice Ao33 t328.length co33) : Value).ownBlock ∧ some k_ ≠ (v342 : Value).ownBlock ∧ some k_ ≠ (v347 : Value).ownBlock ∧ some k_ ≠ (v351 : Value).ownBlock ∧ k_ ≠ gb319) v339 t337) ∧ Aside0 (Kd.R k31 31 w' w.heap.size (fun k_ => some k_ ≠ ((.slice Ao17 t320.length co17) : Value).ownBlock ∧ some k_ ≠ ((.slice Ao18 t323.length co18) : Value).ownBlock ∧ some k_ ≠ ((.slice Ao33 t328.length co33) : Value).ownBlock ∧ some k_ ≠ (v339 : Value).ownBlock ∧ some k_ ≠ (v347 : Value).ownBlock ∧ some k_ ≠ (v351 : Value).ownBlock ∧ k_ ≠ gb319) v342 t341) ∧ Aside0 (Kd.R k31 31 w' w.heap.size (fun k_ => some k_ ≠ ((.slice Ao17 t320.length co17) : Value).ownBlock ∧ some k_ ≠ ((.slice Ao18 t323.length co18) : Value).ownBlock ∧ some k_ ≠ ((.slice Ao33 t328.length co33) : Value).ownBlock ∧ some k_ ≠ (v339 : Value).ownBlock ∧ some k_ ≠ (v342 : Value).ownBlock ∧ some k_ ≠ (v351 : Value).ownBlock ∧ k_ ≠ gb319) v347 t345) ∧ Aside0 (Kd.R k31 31 w' w.heap.size (fun k_ => some k_ ≠ ((.slice Ao17 t320.length co17) : Value).ownBlock ∧ some k_ ≠ ((.slice Ao18 t323.length co18) : Value).ownBlock ∧ some k_ ≠ ((.slice Ao33 t328.length co33) : Value).ownBlock ∧ some k_ ≠ (v339 : Value).ownBlock ∧ some k_ ≠ (v342 : Value).ownBlock ∧ some k_ ≠ (v347 : Value).ownBlock ∧ k_ ≠ gb319) v351 t349) ∧ Aside0 (w'.heap[gb319]? = some (.cells #[.string t326, .string t327] 31 (0, 0))) ∧ Aside0 (Below w.heap.size w w'))
        case atStart => exact ⟨(0), (by first | rfl | (simp; done) | (simp [*]; done)), H', ⟨Nat.le_refl _⟩, ⟨by (with_reducible repeat (first | apply Kd.R_alloc | apply Kd.R_drewN | apply Kd.R_drew)); exact Kd.R_mono HO_0.out (fun _ hk => ⟨hk.1.1.1.1.1, ⟨hk.1.1.1.1.2.1, ⟨hk.1.1.1.2, ⟨hk.1.1.2, ⟨hk.1.2, ⟨hk.2, hk.1.1.1.1.2.2.2⟩⟩⟩⟩⟩⟩)⟩, ⟨by (with_reducible repeat (first | apply Kd.R_alloc | apply Kd.R_drewN | apply Kd.R_drew)); exact Kd.R_mono HO_1.out (fun _ hk => ⟨hk.1.1.1.1.1, ⟨hk.1.1.1.1.2.1, ⟨hk.1.1.1.2, ⟨hk.1.1.2, ⟨hk.1.2, ⟨hk.2, hk.1.1.1.1.2.2.2⟩⟩⟩⟩⟩⟩)⟩, ⟨by (with_reducible repeat (first | apply Kd.R_alloc | apply Kd.R_drewN | apply Kd.R_drew)); exact Kd.R_mono HO_7.out (fun _ hk => ⟨hk.1.1.1.1.1, ⟨hk.1.1.1.1.2.1, ⟨hk.1.1.1.2, ⟨hk.1.1.2, ⟨hk.1.2, ⟨hk.2, hk.1.1.1.1.2.2.2⟩⟩⟩⟩⟩⟩)⟩, ⟨by (with_reducible repeat (first | apply Kd.R_alloc | apply Kd.R_drewN | apply Kd.R_drew)); exact Kd.R_mono HO340.out (fun _ hk => ⟨hk.1.1.1.1.1.1.1.2, ⟨hk.1.1.1.1.1.1.2, ⟨hk.1.1.1.1.1.2, ⟨hk.1.1.2, ⟨hk.1.2, ⟨hk.2, hk.1.1.1.2⟩⟩⟩⟩⟩⟩)⟩, ⟨by (with_reducible repeat (first | apply Kd.R_alloc | apply Kd.R_drewN | apply Kd.R_drew)); exact Kd.R_mono HO343.out (fun _ hk => ⟨hk.1.1.1.1.1.1.1.2, ⟨hk.1.1.1.1.1.1.2, ⟨hk.1.1.1.1.1.2, ⟨hk.1.1.1.2, ⟨hk.1.2, ⟨hk.2, hk.1.1.2⟩⟩⟩⟩⟩⟩)⟩, ⟨by (with_reducible repeat (first | apply Kd.R_alloc | apply Kd.R_drewN | apply Kd.R_drew)); exact Kd.R_mono HO348.out (fun _ hk => ⟨hk.1.1.1.1.1.1.1.2, ⟨hk.1.1.1.1.1.1.2, ⟨hk.1.1.1.1.1.2, ⟨hk.1.1.1.2, ⟨hk.1.1.2, ⟨hk.2, hk.1.2⟩⟩⟩⟩⟩⟩)⟩, ⟨by (with_reducible repeat (first | apply Kd.R_alloc | apply Kd.R_drewN | apply Kd.R_drew)); exact Kd.R_mono HO352.out (fun _ hk => ⟨hk.1.1.1.1.1.1.1.2, ⟨hk.1.1.1.1.1.1.2, ⟨hk.1.1.1.1.1.2, ⟨hk.1.1.1.2, ⟨hk.1.1.2, ⟨hk.1.2, hk.2⟩⟩⟩⟩⟩⟩)⟩, ⟨by (with_reducible repeat (first | refine blk_drewN ?_ _ | refine blk_drew ?_ | refine blk_alloc ?_ _)); exact BK319.out⟩, ⟨by repeat (first | (with_reducible first | exact HB.out | apply below_alloc | apply pw_below_drewN | apply below_drew1 | refine below_set ?_ GE319.out) | exact HB.out)⟩⟩
        case round =>
          clear H'
          try clear c1
          try clear c2
          try clear p2
          try clear c5
          try clear c6
          try clear c9
          try clear c13
          try clear c14
          try clear c15
          try clear c16
          try clear c22
          try clear c22b0
          try clear c22b1
          try clear c23
          try clear hcz20_0
          try clear hcz20_1
          try clear hcz32_0
          try clear hcz32_1
          try clear hfz20_0
          try clear hfz20_1
          try clear hfz32_0
          try clear hfz32_1
          try clear p2
          obtain ⟨x19_2, rfl, HA, HK2, HO_0, HO_1, HO_7, HO_11, HO_13, HO_15, HO_17, BK319, HB⟩ := hrel
          cases gk with
          | zero => exact absurd HA.out (by simp [graftwoodlaw18_LackLess.l0])
          | succ k2 =>
            have H := HA.out
            clear HA
            simp only [graftwoodlaw18_LackLess.l0] at H
            by_cases c37 : x19_2 < (t328.length : Int)
            · rw [if_pos c37] at H
              have c37b0 : decide (x19_2 < (t328.length : Int)) = true := decide_eq_true c37
              clear c37
              by_cases c38 : 0 ≤ x19_2
              · rw [if_pos c38] at H
                have c38b0 : decide (0 ≤ x19_2) = true := decide_eq_true c38
                clear c38
                replace H := Option.bind_eq_some_iff.mp H
                obtain ⟨t354, A390, H⟩ := H
                replace H : (if t354 = true then ((graftwoodref05_Has.f k2 t323 ((rd_T31 t328 x19_2).f0) ((rd_T31 t328 x19_2).f1)).bind fun t356 => (if t356 = true then (some false) else (graftwoodlaw18_LackLess.l0 k2 t320 t323 t328 t337 t338 t341 t344 t345 t346 t349 t350 (wrap64 (x19_2 + 1))))) else (some false)) = some r := H
                have A39 := Aside0.mk A390
                clear A390
                by_cases c40 : t354 = true
                · subst c40
                  have H1 : ((graftwoodref05_Has.f k2 t323 ((rd_T31 t328 x19_2).f0) ((rd_T31 t328 x19_2).f1)).bind fun t356 => (if t356 = true then (some false) else (graftwoodlaw18_LackLess.l0 k2 t320 t323 t328 t337 t338 t341 t344 t345 t346 t349 t350 (wrap64 (x19_2 + 1))))) = some r := by rw [if_pos rfl] at H; exact H
                  clear H
                  have H := H1
                  clear H1
                  replace H := Option.bind_eq_some_iff.mp H
                  obtain ⟨t356, A410, H⟩ := H
                  replace H : (if t356 = true then (some false) else (graftwoodlaw18_LackLess.l0 k2 t320 t323 t328 t337 t338 t341 t344 t345 t346 t349 t350 (wrap64 (x19_2 + 1)))) = some r := H
                  have A41 := Aside0.mk A410
                  clear A410
                  by_cases c42 : t356 = true
                  · subst c42
                    have H1 : (some false) = some r := by rw [if_pos rfl] at H; exact H
                    clear H
                    have H := H1
                    clear H1
                    exact absurd ((Option.some.inj H).trans HR_.out) (by decide)
                  · replace c42 := Bool.eq_false_iff.mpr c42
                    subst c42
                    have H1 : (graftwoodlaw18_LackLess.l0 k2 t320 t323 t328 t337 t338 t341 t344 t345 t346 t349 t350 (wrap64 (x19_2 + 1))) = some r := by rw [if_neg (show ¬ (false = true) by decide)] at H; exact H
                    clear H
                    have H := H1
                    clear H1
                    have H' := Aside0.mk H
                    clear H
                    have p353 : 0 ≤ (x19_2 : Int) := of_decide_eq_true (by first | (with_reducible assumption) | assumption)
                    have q353 : x19_2 < (t328.length : Int) := of_decide_eq_true (by first | (with_reducible assumption) | assumption)
                    obtain ⟨ad353, e353, hx353_0, hx353_1⟩ := at_T31 (Kd.R_reads' HO_7.out).2.2 x19_2 p353 q353
                    cases e353
                    replace p353 := eq_true p353
                    replace q353 := eq_true q353
                    go_wp2_with (first | ((with_reducible refine gate_callee (f := 12) rfl ?_); refine goesL_ (some 79) rfl rfl Tryd.func12 (by kernel_rfl) rfl #[.slice Ao17 t320.length co17, .agg #[.string ((rd_T31 t328 x19_2).f0), .string ((rd_T31 t328 x19_2).f1)]] rfl (by (try simp only [List.map_toArray, List.map_cons, List.map_nil]); first | done | rfl | (simp only [List.length_drop, List.length_take]; rfl)) ?_; (with_reducible refine (graftwoodref05_Has.calls k2 _ _ t320 ((rd_T31 t328 x19_2).f0) ((rd_T31 t328 x19_2).f1) true _ ?side1 ?side2 A39.out).mono ?_); (case side1 => repeat (first | exact (Kd.R_reads' HO_0.out).2.2 | (with_reducible refine Kd.C_alloc ?_ _) | (with_reducible refine Kd.C_drewN ?_ _) | (with_reducible refine Kd.C_drew ?_))); (case side2 => exact (Kd.R_reads' HO_0.out).2.1); rintro e w43 ⟨rfl, hb⟩; refine ⟨_, rfl, ?_⟩; have n0_ := Aside0.mk (Kd.R_below (by (with_reducible repeat (first | apply Kd.R_alloc | apply Kd.R_drewN | apply Kd.R_drew)); exact HO_0.out) hb); have n1_ := Aside0.mk (Kd.R_below (by (with_reducible repeat (first | apply Kd.R_alloc | apply Kd.R_drewN | apply Kd.R_drew)); exact HO_1.out) hb); have n2_ := Aside0.mk (Kd.R_below (by (with_reducible repeat (first | apply Kd.R_alloc | apply Kd.R_drewN | apply Kd.R_drew)); exact HO_7.out) hb); have n3_ := Aside0.mk (Kd.R_below (by (with_reducible repeat (first | apply Kd.R_alloc | apply Kd.R_drewN | apply Kd.R_drew)); exact HO_11.out) hb); have n4_ := Aside0.mk (Kd.R_below (by (with_reducible repeat (first | apply Kd.R_alloc | apply Kd.R_drewN | apply Kd.R_drew)); exact HO_13.out) hb); have n5_ := Aside0.mk (Kd.R_below (by (with_reducible repeat (first | apply Kd.R_alloc | apply Kd.R_drewN | apply Kd.R_drew)); exact HO_15.out) hb); have n6_ := Aside0.mk (Kd.R_below (by (with_reducible repeat (first | apply Kd.R_alloc | apply Kd.R_drewN | apply Kd.R_drew)); exact HO_17.out) hb); have n7_ := Aside0.mk (blk_below (g := gb319) (o := .cells #[.string t326, .string t327] 31 (0, 0)) (by (with_reducible repeat (first | refine blk_drewN ?_ _ | refine blk_drew ?_ | refine blk_alloc ?_ _)); exact BK319.out) hb); have n8_ := Aside0.mk (below_step (by repeat (first | (with_reducible first | exact HB.out | apply below_alloc | apply pw_below_drewN | apply below_drew1 | refine below_set ?_ GE319.out) | exact HB.out)) hb); clear HO_0; clear HO_1; clear HO_7; clear HO_11; clear HO_13; clear HO_15; clear HO_17; clear BK319; clear HB; have HO_0 := n0_; have HO_1 := n1_; have HO_7 := n2_; have HO_11 := n3_; have HO_13 := n4_; have HO_15 := n5_; have HO_17 := n6_; have BK319 := n7_; have HB := n8_; clear n0_ n1_ n2_ n3_ n4_ n5_ n6_ n7_ n8_; (try clear hb); (try clear hb2); (try clear hk); (try clear hi); have p355 : 0 ≤ (x19_2 : Int) := of_decide_eq_true (by first | (with_reducible assumption) | assumption); have q355 : x19_2 < (t328.length : Int) := of_decide_eq_true (by first | (with_reducible assumption) | assumption); obtain ⟨ad355, e355, hx355_0, hx355_1⟩ := at_T31 (Kd.R_reads' HO_7.out).2.2 x19_2 p355 q355; obtain rfl : ad353 = ad355 := (by injection e355); replace p355 := eq_true p355; replace q355 := eq_true q355) | (go_at_call 12; (with_reducible refine (graftwoodref05_Has.calls k2 _ _ t323 ((rd_T31 t328 x19_2).f0) ((rd_T31 t328 x19_2).f1) false _ ?side1 ?side2 A41.out).mono ?_); (case side1 => repeat (first | exact (Kd.R_reads' HO_1.out).2.2 | (with_reducible refine Kd.C_alloc ?_ _) | (with_reducible refine Kd.C_drewN ?_ _) | (with_reducible refine Kd.C_drew ?_))); (case side2 => exact (Kd.R_reads' HO_1.out).2.1); rintro e w44 ⟨rfl, hb⟩; have n0_ := Aside0.mk (Kd.R_below (by (with_reducible repeat (first | apply Kd.R_alloc | apply Kd.R_drewN | apply Kd.R_drew)); exact HO_0.out) hb); have n1_ := Aside0.mk (Kd.R_below (by (with_reducible repeat (first | apply Kd.R_alloc | apply Kd.R_drewN | apply Kd.R_drew)); exact HO_1.out) hb); have n2_ := Aside0.mk (Kd.R_below (by (with_reducible repeat (first | apply Kd.R_alloc | apply Kd.R_drewN | apply Kd.R_drew)); exact HO_7.out) hb); have n3_ := Aside0.mk (Kd.R_below (by (with_reducible repeat (first | apply Kd.R_alloc | apply Kd.R_drewN | apply Kd.R_drew)); exact HO_11.out) hb); have n4_ := Aside0.mk (Kd.R_below (by (with_reducible repeat (first | apply Kd.R_alloc | apply Kd.R_drewN | apply Kd.R_drew)); exact HO_13.out) hb); have n5_ := Aside0.mk (Kd.R_below (by (with_reducible repeat (first | apply Kd.R_alloc | apply Kd.R_drewN | apply Kd.R_drew)); exact HO_15.out) hb); have n6_ := Aside0.mk (Kd.R_below (by (with_reducible repeat (first | apply Kd.R_alloc | apply Kd.R_drewN | apply Kd.R_drew)); exact HO_17.out) hb); have n7_ := Aside0.mk (blk_below (g := gb319) (o := .cells #[.string t326, .string t327] 31 (0, 0)) (by (with_reducible repeat (first | refine blk_drewN ?_ _ | refine blk_drew ?_ | refine blk_alloc ?_ _)); exact BK319.out) hb); have n8_ := Aside0.mk (below_step (by repeat (first | (with_reducible first | exact HB.out | apply below_alloc | apply pw_below_drewN | apply below_drew1 | refine below_set ?_ GE319.out) | exact HB.out)) hb); clear HO_0; clear HO_1; clear HO_7; clear HO_11; clear HO_13; clear HO_15; clear HO_17; clear BK319; clear HB; have HO_0 := n0_; have HO_1 := n1_; have HO_7 := n2_; have HO_11 := n3_; have HO_13 := n4_; have HO_15 := n5_; have HO_17 := n6_; have BK319 := n7_; have HB := n8_; clear n0_ n1_ n2_ n3_ n4_ n5_ n6_ n7_ n8_; (try clear hb); (try clear hb2); (try clear hk); (try clear hi)))
                    go_roundg k2
                    case measure => have := HJ8.out; have := HK2.out; omega
                    case rel => exact ⟨(wrap64 (x19_2 + 1)), (by first | rfl | (simp; done) | (simp [*]; done)), H', ⟨by have := HJ8.out; have := HK2.out; omega⟩, ⟨by (with_reducible repeat (first | apply Kd.R_alloc | apply Kd.R_drewN | apply Kd.R_drew)); exact HO_0.out⟩, ⟨by (with_reducible repeat (first | apply Kd.R_alloc | apply Kd.R_drewN | apply Kd.R_drew)); exact HO_1.out⟩, ⟨by (with_reducible repeat (first | apply Kd.R_alloc | apply Kd.R_drewN | apply Kd.R_drew)); exact HO_7.out⟩, ⟨by (with_reducible repeat (first | apply Kd.R_alloc | apply Kd.R_drewN | apply Kd.R_drew)); exact HO_11.out⟩, ⟨by (with_reducible repeat (first | apply Kd.R_alloc | apply Kd.R_drewN | apply Kd.R_drew)); exact HO_13.out⟩, ⟨by (with_reducible repeat (first | apply Kd.R_alloc | apply Kd.R_drewN | apply Kd.R_drew)); exact HO_15.out⟩, ⟨by (with_reducible repeat (first | apply Kd.R_alloc | apply Kd.R_drewN | apply Kd.R_drew)); exact HO_17.out⟩, ⟨by (with_reducible repeat (first | refine blk_drewN ?_ _ | refine blk_drew ?_ | refine blk_alloc ?_ _)); exact BK319.out⟩, ⟨by repeat (first | (with_reducible first | exact HB.out | apply below_alloc | apply pw_below_drewN | apply below_drew1 | refine below_set ?_ GE319.out) | exact HB.out)⟩⟩
                · replace c40 := Bool.eq_false_iff.mpr c40
                  subst c40
                  have H1 : (some false) = some r := by rw [if_neg (show ¬ (false = true) by decide)] at H; exact H
                  clear H
                  have H := H1
                  clear H1
                  exact absurd ((Option.some.inj H).trans HR_.out) (by decide)
              · rw [if_neg c38] at H
                exact absurd H (by simp)
            · rw [if_neg c37] at H
              have c37b0 : decide (x19_2 < (t328.length : Int)) = false := decide_eq_false c37
              clear c37
              by_cases c45 : t338 = 0
              · rw [if_pos c45] at H
                have c45b0 : (t338 == 0) = true := beq_iff_eq.mpr c45
                have c45b1 : (t338 != 0) = false := bne_eq_false_iff_eq.mpr c45
                clear c45
                by_cases c46 : t344 = 0
                · rw [if_pos c46] at H
                  have c46b0 : (t344 == 0) = true := beq_iff_eq.mpr c46
                  have c46b1 : (t344 != 0) = false := bne_eq_false_iff_eq.mpr c46
                  clear c46
                  by_cases c47 : t346 = 0
                  · rw [if_pos c47] at H
                    have c47b0 : (t346 == 0) = true := beq_iff_eq.mpr c47
                    have c47b1 : (t346 != 0) = false := bne_eq_false_iff_eq.mpr c47
                    clear c47
                    by_cases c48 : t350 = 0
                    · rw [if_pos c48] at H
                      have c48b0 : (t350 == 0) = true := beq_iff_eq.mpr c48
                      have c48b1 : (t350 != 0) = false := bne_eq_false_iff_eq.mpr c48
                      clear c48
                      replace H := Option.bind_eq_some_iff.mp H
                      obtain ⟨t357, A490, H⟩ := H
                      replace H : (if t357 = true then (if (t345.length : Int) = 0 then ((graftwoodref05_Same.f k2 t349 t320).bind fun t358 => (if t358 = true then ((node_Check.f k2 t328).bind fun t359 => (if t359 = 0 then ((graftwoodlaw18_awake.f).bind fun t360 => (some t360)) else (some false))) else (some false))) else (some false)) else (some false)) = some r := H
                      have A49 := Aside0.mk A490
                      clear A490
                      by_cases c50 : t357 = true
                      · subst c50
                        have H1 : (if (t345.length : Int) = 0 then ((graftwoodref05_Same.f k2 t349 t320).bind fun t358 => (if t358 = true then ((node_Check.f k2 t328).bind fun t359 => (if t359 = 0 then ((graftwoodlaw18_awake.f).bind fun t360 => (some t360)) else (some false))) else (some false))) else (some false)) = some r := by rw [if_pos rfl] at H; exact H
                        clear H
                        have H := H1
                        clear H1
                        by_cases c51 : (t345.length : Int) = 0
                        · rw [if_pos c51] at H
                          have c51b0 : ((t345.length : Int) == 0) = true := beq_iff_eq.mpr c51
                          have c51b1 : ((t345.length : Int) != 0) = false := bne_eq_false_iff_eq.mpr c51
                          clear c51
                          replace H := Option.bind_eq_some_iff.mp H
                          obtain ⟨t358, A520, H⟩ := H
                          replace H : (if t358 = true then ((node_Check.f k2 t328).bind fun t359 => (if t359 = 0 then ((graftwoodlaw18_awake.f).bind fun t360 => (some t360)) else (some false))) else (some false)) = some r := H
                          have A52 := Aside0.mk A520
                          clear A520
                          by_cases c53 : t358 = true
                          · subst c53
                            have H1 : ((node_Check.f k2 t328).bind fun t359 => (if t359 = 0 then ((graftwoodlaw18_awake.f).bind fun t360 => (some t360)) else (some false))) = some r := by rw [if_pos rfl] at H; exact H
                            clear H
                            have H := H1
                            clear H1
                            replace H := Option.bind_eq_some_iff.mp H
                            obtain ⟨t359, A540, H⟩ := H
                            replace H : (if t359 = 0 then ((graftwoodlaw18_awake.f).bind fun t360 => (some t360)) else (some false)) = some r := H
                            have A54 := Aside0.mk A540
                            clear A540
                            by_cases c55 : t359 = 0
                            · rw [if_pos c55] at H
                              have c55b0 : (t359 == 0) = true := beq_iff_eq.mpr c55
                              have c55b1 : (t359 != 0) = false := bne_eq_false_iff_eq.mpr c55
                              clear c55
                              replace H := Option.bind_eq_some_iff.mp H
                              obtain ⟨t360, A560, H⟩ := H
                              replace H : (some t360) = some r := H
                              have A56 := Aside0.mk A560
                              clear A560
                              obtain rfl := Option.some.inj H
                              obtain ⟨Ao57, co57, eo57⟩ := Kd.R_slice HO_11.out
                              subst eo57
                              obtain ⟨Ao58, co58, eo58⟩ := Kd.R_slice HO_13.out
                              subst eo58
                              go_wp2_with (first | (go_at_call 11; (with_reducible refine (graftwoodref05_Same.calls k2 _ _ t337 _ _ t341 true _ ?side1 ?side2 ?side3 ?side4 A49.out).mono ?_); (case side1 => repeat (first | exact (Kd.R_reads' HO_11.out).2.2 | (with_reducible refine Kd.C_alloc ?_ _) | (with_reducible refine Kd.C_drewN ?_ _) | (with_reducible refine Kd.C_drew ?_))); (case side2 => exact (Kd.R_reads' HO_11.out).2.1); (case side3 => repeat (first | exact (Kd.R_reads' HO_13.out).2.2 | (with_reducible refine Kd.C_alloc ?_ _) | (with_reducible refine Kd.C_drewN ?_ _) | (with_reducible refine Kd.C_drew ?_))); (case side4 => exact (Kd.R_reads' HO_13.out).2.1); rintro e w' ⟨rfl, ⟨nd, rfl⟩⟩; obtain ⟨Ao59, co59, eo59⟩ := Kd.R_slice HO_15.out; subst eo59; obtain ⟨Ao60, co60, eo60⟩ := Kd.R_slice HO_17.out; subst eo60) | (go_at_call 11; (with_reducible refine (graftwoodref05_Same.calls k2 _ _ t349 _ _ t320 true _ ?side1 ?side2 ?side3 ?side4 A52.out).mono ?_); (case side1 => repeat (first | exact (Kd.R_reads' HO_17.out).2.2 | (with_reducible refine Kd.C_alloc ?_ _) | (with_reducible refine Kd.C_drewN ?_ _) | (with_reducible refine Kd.C_drew ?_))); (case side2 => exact (Kd.R_reads' HO_17.out).2.1); (case side3 => repeat (first | exact (Kd.R_reads' HO_0.out).2.2 | (with_reducible refine Kd.C_alloc ?_ _) | (with_reducible refine Kd.C_drewN ?_ _) | (with_reducible refine Kd.C_drew ?_))); (case side4 => exact (Kd.R_reads' HO_0.out).2.1); rintro e w' ⟨rfl, ⟨nd, rfl⟩⟩) | (go_at_call 17; (with_reducible refine (node_Check.calls k2 _ _ t328 t359 _ ?side1 ?side2 A54.out).mono ?_); (case side1 => repeat (first | exact (Kd.R_reads' HO_7.out).2.2 | (with_reducible refine Kd.C_alloc ?_ _) | (with_reducible refine Kd.C_drewN ?_ _) | (with_reducible refine Kd.C_drew ?_))); (case side2 => exact (Kd.R_reads' HO_7.out).2.1); rintro e w61 ⟨rfl, hb⟩; have n0_ := Aside0.mk (Kd.R_below (by (with_reducible repeat (first | apply Kd.R_alloc | apply Kd.R_drewN | apply Kd.R_drew)); exact HO_0.out) hb); have n1_ := Aside0.mk (Kd.R_below (by (with_reducible repeat (first | apply Kd.R_alloc | apply Kd.R_drewN | apply Kd.R_drew)); exact HO_1.out) hb); have n2_ := Aside0.mk (Kd.R_below (by (with_reducible repeat (first | apply Kd.R_alloc | apply Kd.R_drewN | apply Kd.R_drew)); exact HO_7.out) hb); have n3_ := Aside0.mk (Kd.R_below (by (with_reducible repeat (first | apply Kd.R_alloc | apply Kd.R_drewN | apply Kd.R_drew)); exact HO_11.out) hb); have n4_ := Aside0.mk (Kd.R_below (by (with_reducible repeat (first | apply Kd.R_alloc | apply Kd.R_drewN | apply Kd.R_drew)); exact HO_13.out) hb); have n5_ := Aside0.mk (Kd.R_below (by (with_reducible repeat (first | apply Kd.R_alloc | apply Kd.R_drewN | apply Kd.R_drew)); exact HO_15.out) hb); have n6_ := Aside0.mk (Kd.R_below (by (with_reducible repeat (first | apply Kd.R_alloc | apply Kd.R_drewN | apply Kd.R_drew)); exact HO_17.out) hb); have n7_ := Aside0.mk (blk_below (g := gb319) (o := .cells #[.string t326, .string t327] 31 (0, 0)) (by (with_reducible repeat (first | refine blk_drewN ?_ _ | refine blk_drew ?_ | refine blk_alloc ?_ _)); exact BK319.out) hb); have n8_ := Aside0.mk (below_step (by repeat (first | (with_reducible first | exact HB.out | apply below_alloc | apply pw_below_drewN | apply below_drew1 | refine below_set ?_ GE319.out) | exact HB.out)) hb); clear HO_0; clear HO_1; clear HO_7; clear HO_11; clear HO_13; clear HO_15; clear HO_17; clear BK319; clear HB; have HO_0 := n0_; have HO_1 := n1_; have HO_7 := n2_; have HO_11 := n3_; have HO_13 := n4_; have HO_15 := n5_; have HO_17 := n6_; have BK319 := n7_; have HB := n8_; clear n0_ n1_ n2_ n3_ n4_ n5_ n6_ n7_ n8_; (try clear hb); (try clear hb2); (try clear hk); (try clear hi)) | (go_at_call 9; (with_reducible refine (graftwoodlaw18_awake.calls  t360 _ A56.out HR_).mono ?_); rintro e w62 ⟨rfl, hb⟩; have n0_ := Aside0.mk (Kd.R_below (by (with_reducible repeat (first | apply Kd.R_alloc | apply Kd.R_drewN | apply Kd.R_drew)); exact HO_0.out) hb); have n1_ := Aside0.mk (Kd.R_below (by (with_reducible repeat (first | apply Kd.R_alloc | apply Kd.R_drewN | apply Kd.R_drew)); exact HO_1.out) hb); have n2_ := Aside0.mk (Kd.R_below (by (with_reducible repeat (first | apply Kd.R_alloc | apply Kd.R_drewN | apply Kd.R_drew)); exact HO_7.out) hb); have n3_ := Aside0.mk (Kd.R_below (by (with_reducible repeat (first | apply Kd.R_alloc | apply Kd.R_drewN | apply Kd.R_drew)); exact HO_11.out) hb); have n4_ := Aside0.mk (Kd.R_below (by (with_reducible repeat (first | apply Kd.R_alloc | apply Kd.R_drewN | apply Kd.R_drew)); exact HO_13.out) hb); have n5_ := Aside0.mk (Kd.R_below (by (with_reducible repeat (first | apply Kd.R_alloc | apply Kd.R_drewN | apply Kd.R_drew)); exact HO_15.out) hb); have n6_ := Aside0.mk (Kd.R_below (by (with_reducible repeat (first | apply Kd.R_alloc | apply Kd.R_drewN | apply Kd.R_drew)); exact HO_17.out) hb); have n7_ := Aside0.mk (blk_below (g := gb319) (o := .cells #[.string t326, .string t327] 31 (0, 0)) (by (with_reducible repeat (first | refine blk_drewN ?_ _ | refine blk_drew ?_ | refine blk_alloc ?_ _)); exact BK319.out) hb); have n8_ := Aside0.mk (below_step (by repeat (first | (with_reducible first | exact HB.out | apply below_alloc | apply pw_below_drewN | apply below_drew1 | refine below_set ?_ GE319.out) | exact HB.out)) hb); clear HO_0; clear HO_1; clear HO_7; clear HO_11; clear HO_13; clear HO_15; clear HO_17; clear BK319; clear HB; have HO_0 := n0_; have HO_1 := n1_; have HO_7 := n2_; have HO_11 := n3_; have HO_13 := n4_; have HO_15 := n5_; have HO_17 := n6_; have BK319 := n7_; have HB := n8_; clear n0_ n1_ n2_ n3_ n4_ n5_ n6_ n7_ n8_; (try clear hb); (try clear hb2); (try clear hk); (try clear hi)))
                              go_ret
                              exact ⟨by first | rfl | (simp [errW_none, errW_some] <;> rfl) | (simp [*, errW_none, errW_some] <;> rfl), by repeat (first | (with_reducible first | exact HB.out | apply below_alloc | apply pw_below_drewN | apply below_drew1 | refine below_set ?_ GE319.out) | exact HB.out)⟩
                            · rw [if_neg c55] at H
                              have c55b0 : (t359 == 0) = false := beq_eq_false_iff_ne.mpr c55
                              have c55b1 : (t359 != 0) = true := bne_iff_ne.mpr c55
                              exact absurd ((Option.some.inj H).trans HR_.out) (by decide)
                          · replace c53 := Bool.eq_false_iff.mpr c53
                            subst c53
                            have H1 : (some false) = some r := by rw [if_neg (show ¬ (false = true) by decide)] at H; exact H
                            clear H
                            have H := H1
                            clear H1
                            exact absurd ((Option.some.inj H).trans HR_.out) (by decide)
                        · rw [if_neg c51] at H
                          have c51b0 : ((t345.length : Int) == 0) = false := beq_eq_false_iff_ne.mpr c51
                          have c51b1 : ((t345.length : Int) != 0) = true := bne_iff_ne.mpr c51
                          have c51b2 : ¬ (t345 = []) := fun h_ => c51 (by rw [h_]; rfl)
                          exact absurd ((Option.some.inj H).trans HR_.out) (by decide)
                      · replace c50 := Bool.eq_false_iff.mpr c50
                        subst c50
                        have H1 : (some false) = some r := by rw [if_neg (show ¬ (false = true) by decide)] at H; exact H
                        clear H
                        have H := H1
                        clear H1
                        exact absurd ((Option.some.inj H).trans HR_.out) (by decide)
                    · rw [if_neg c48] at H
                      have c48b0 : (t350 == 0) = false := beq_eq_false_iff_ne.mpr c48
                      have c48b1 : (t350 != 0) = true := bne_iff_ne.mpr c48
                      exact absurd ((Option.some.inj H).trans HR_.out) (by decide)
                  · rw [if_neg c47] at H
                    have c47b0 : (t346 == 0) = false := beq_eq_false_iff_ne.mpr c47
                    have c47b1 : (t346 != 0) = true := bne_iff_ne.mpr c47
                    exact absurd ((Option.some.inj H).trans HR_.out) (by decide)
                · rw [if_neg c46] at H
                  have c46b0 : (t344 == 0) = false := beq_eq_false_iff_ne.mpr c46
                  have c46b1 : (t344 != 0) = true := bne_iff_ne.mpr c46
                  exact absurd ((Option.some.inj H).trans HR_.out) (by decide)
              · rw [if_neg c45] at H
                have c45b0 : (t338 == 0) = false := beq_eq_false_iff_ne.mpr c45
                have c45b1 : (t338 != 0) = true := bne_iff_ne.mpr c45
                exact absurd ((Option.some.inj H).trans HR_.out) (by decide)
end Go.Proofs.YtffcbfclpfchnaaDoor.Q
end

section
namespace Go.Proofs.YtffcbfclpfchnaaDoor.Q
open Go.Proofs.YtffcbfclpfchnaaDoor.QB.D
open Go Go.RowKit Go.Lib Go.Proofs.YtffcbfclpfchnaaDoorW.PrintWords Go.Proofs.YtffcbfclpfchnaaDoorW.PrintLast Go.Proofs.YtffcbfclpfchnaaDoorW.PrintMore Gw
set_option linter.unusedVariables false
set_option linter.unusedSimpArgs false
theorem less18_l0 (a b w : List S31) (ha : a.length ≤ 24) (hb : b.length ≤ 24) (fw : ∀ x ∈ w, TinyN x) (hw : w.length ≤ 24) (hin : ∀ x ∈ w, x ∈ a ∧ x ∉ b) (cw : checkN w = true) (is : List S31) (hs : is.length ≤ 30) : ∀ (r i k : Nat), i + r = w.length → r + 8589934700 ≤ k →
    graftwoodlaw18_LackLess.l0 k a b w is 0 is 0 [] 0 a 0 (i : Int) = some true := by
  intro r
  induction r with
  | zero =>
    intro i k hi hk
    obtain ⟨j, rfl⟩ : ∃ j, k = j + 1 := ⟨k - 1, by omega⟩
    have h1 := same_val is is (by omega) j (by omega)
    have h2 := same_val a a (by omega) j (by omega)
    have h3 := check_val w (by omega) fw j (by omega)
    rw [decide_eq_true rfl] at h1 h2
    rw [cw] at h3
    simp only [graftwoodlaw18_LackLess.l0]
    rw [if_neg (by omega), if_pos trivial, if_pos trivial, if_pos trivial, if_pos trivial, h1]
    simp only [Option.bind_some]
    rw [if_pos trivial, if_pos (by rfl), h2]
    simp only [Option.bind_some]
    rw [if_pos trivial, h3]
    simp only [Option.bind_some]
    rw [if_pos (by rfl), awake18_val]
    rfl
  | succ r ih =>
    intro i k hi hk
    obtain ⟨j, rfl⟩ : ∃ j, k = j + 1 := ⟨k - 1, by omega⟩
    have hil : i < w.length := by omega
    have hwr : wrap64 ((i : Int) + 1) = ((i + 1 : Nat) : Int) := by unfold wrap64; omega
    have hm := hin _ (List.getElem_mem hil)
    have h1 := has_val a w[i] (by omega) j (by omega)
    have h2 := has_val b w[i] (by omega) j (by omega)
    rw [decide_eq_true hm.1] at h1
    rw [decide_eq_false hm.2] at h2
    simp only [graftwoodlaw18_LackLess.l0]
    rw [if_pos (by omega), if_pos (by omega), rd_nat hil, h1]
    simp only [Option.bind_some]
    rw [if_pos trivial, h2]
    simp only [Option.bind_some]
    rw [if_neg (by decide), hwr]
    exact ih (i + 1) j (by omega) (by omega)
theorem lackLess_true (K : Nat) (hK : 8589935999 ≤ K) (live keys : List S31) (n0 n1 : ByteArray) : graftwoodlaw18_LackLess.f (K + 1) live keys n0 n1 = some true := by
  unfold graftwoodlaw18_LackLess.f
  rw [fewN_val live _ (by omega), fewN_val keys _ (by omega), One_val]
  simp only [Option.bind_some]
  have ha := fewN_len live
  have hb := fewN_len keys
  have fa := fewN_brief live
  have fb := fewN_brief keys
  have fn : Brief (⟨few n0, few n1⟩ : S31) := oneN_brief ⟨n0, n1⟩
  generalize fewN live = a at *
  generalize fewN keys = b at *
  obtain ⟨n, hn⟩ : ∃ n : S31, n = ⟨few n0, few n1⟩ := ⟨_, rfl⟩
  rw [← hn] at fn
  rw [show few n0 = n.f0 by rw [hn], show few n1 = n.f1 by rw [hn]]
  clear hn
  have hW : node_With.f b n.f0 n.f1 = some (if checkN b = true ∧ mayN n = true then (withN b n, 0) else ([], 1)) := if_pos ⟨by omega, fun x hx => (fb x hx).tiny, fn.tiny⟩
  rw [missing_val a b (by omega) (by omega) fa fb, hW]
  simp only [Option.bind_some]
  by_cases hc : (checkN a = true ∧ checkN b = true) ∧ mayN n = true
  · obtain ⟨⟨ca, cb⟩, hm⟩ := hc
    have hab : checkN a = true ∧ checkN b = true := ⟨ca, cb⟩
    have hbm : checkN b = true ∧ mayN n = true := ⟨cb, hm⟩
    rw [if_pos hab, if_pos hbm]
    simp only []
    have sa : IsSet a := (check_set (fun x hx => (fa x hx).tiny)).1 ca
    have sb : IsSet b := (check_set (fun x hx => (fb x hx).tiny)).1 cb
    have gn : GoodN n := mayN_good fn.tiny hm
    have sw : IsSet (withN b n) := withN_set sb gn hm
    have fw : ∀ x ∈ withN b n, Brief x := fun x hx => by
      rcases (mem_withN sb gn hm x).1 hx with h | h
      · exact fb x h
      · rw [h]; exact fn
    have lw : (withN b n).length ≤ 25 := by
      unfold withN
      split
      · omega
      · simp only [List.length_append, List.length_take, List.length_drop, List.length_cons, List.length_nil]; omega
    have sg := goneF_set b sa
    have lg := goneF_len a b
    have fg : ∀ x ∈ goneF a b, Brief x := fun x hx => fa x (mem_goneF.1 hx).1
    have hO : node_Without.f (goneF a b) n.f0 n.f1 = some (if checkN (goneF a b) = true ∧ mayN n = true then (woutN (goneF a b) n, 0) else ([], 1)) := if_pos ⟨by omega, fun x hx => (fg x hx).tiny, fn.tiny⟩
    have heq : goneF a (withN b n) = woutN (goneF a b) n := (goneF_set _ sa).ext (woutN_set sg gn) (fun x => by
      rw [mem_goneF, mem_woutN sg gn, mem_goneF, mem_withN sb gn hm]
      constructor
      · rintro ⟨h1, h2⟩; exact ⟨⟨h1, fun h => h2 (Or.inl h)⟩, fun h => h2 (Or.inr h)⟩
      · rintro ⟨⟨h1, h2⟩, h3⟩; exact ⟨h1, fun h => h.elim h2 h3⟩)
    have lo : (woutN (goneF a b) n).length ≤ 24 := by rw [← heq]; exact Nat.le_trans (goneF_len _ _) ha
    rw [if_pos trivial, show ((0 : Int) != 0) = false from rfl]
    simp only [graftwoodlaw18_LackLess.j0]
    rw [if_neg (by decide), missing_val a (withN b n) (by omega) (by omega) fa fw, hO, missing_val a a (by omega) (by omega) fa fa, missing_val a [] (by omega) (by simp) fa (fun x hx => by cases hx), if_pos (show checkN a = true ∧ checkN (withN b n) = true from ⟨ca, sw.check⟩), if_pos (show checkN (goneF a b) = true ∧ mayN n = true from ⟨sg.check, hm⟩), if_pos (show checkN a = true ∧ checkN a = true from ⟨ca, ca⟩), if_pos (show checkN a = true ∧ checkN [] = true from ⟨ca, rfl⟩), goneF_self, goneF_nil, heq]
    simp only [Option.bind_some]
    exact less18_l0 a b (goneF a b) ha hb (fun x hx => (fg x hx).tiny) (by omega) (fun x hx => mem_goneF.1 hx) sg.check _ (by omega) (goneF a b).length 0 _ (by omega) (by omega)
  · have hj : ∀ (u v : List S31), graftwoodlaw18_LackLess.j0 (K + 1) a b u v true n.f0 n.f1 = some true := fun u v => by
      simp only [graftwoodlaw18_LackLess.j0]
      rw [if_pos trivial, awake18_val]
      rfl
    by_cases h1 : checkN a = true ∧ checkN b = true
    · have h2 : ¬ (checkN b = true ∧ mayN n = true) := fun h => hc ⟨h1, h.2⟩
      rw [if_pos h1, if_neg h2, if_pos rfl]
      exact hj _ _
    · rw [if_neg h1]
      simp only []
      rw [if_neg (by decide)]
      exact hj _ _
end Go.Proofs.YtffcbfclpfchnaaDoor.Q
end
