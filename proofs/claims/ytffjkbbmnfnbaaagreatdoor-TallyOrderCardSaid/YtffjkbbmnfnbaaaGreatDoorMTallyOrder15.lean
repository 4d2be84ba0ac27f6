/- Part 15 of this claim: several texts one behind the other: EvXf, EvXh. What each shows stands in its theorems; conditions: sizes of texts and lists, as the functions' definitions say. -/
import Derived.Test.YtffjkbbmnfnbaaaGreatDoorMTallyOrder14
section
namespace Go.Proofs.YtffjkbbmnfnbaaaGreatDoor.Q
open Go.Proofs.YtffjkbbmnfnbaaaGreatDoor.QB.D
open Go Go.RowKit Go.Lib Go.Proofs.YtffjkbbmnfnbaaaGreatDoorW.PrintWords Go.Ev Gw
set_option linter.unusedVariables false
set_option maxRecDepth 100000
def awA : Nd := ⟨⟨#[97]⟩, ⟨#[118, 49, 46, 57, 46, 48]⟩⟩
def awB : Nd := ⟨⟨#[97]⟩, ⟨#[118, 49, 46, 49, 48, 46, 48]⟩⟩
theorem awA_may : mayN awA = true := by decide +kernel
theorem awB_may : mayN awB = true := by decide +kernel
theorem awAB : ordN awA awB < 0 := by decide +kernel
theorem awA_b : Brief awA := by decide +kernel
theorem awB_b : Brief awB := by decide +kernel
theorem awS2 : IsSet [awA, awB] := by
 refine ⟨fun x hx => ?_, fun x hx => ?_, ?_⟩
 ·simp only [List.mem_cons, List.not_mem_nil, or_false] at hx
  rcases hx with rfl | rfl
  ·exact mayN_good awA_b.tiny awA_may
  ·exact mayN_good awB_b.tiny awB_may
 ·simp only [List.mem_cons, List.not_mem_nil, or_false] at hx
  rcases hx with rfl | rfl
  ·exact awA_may
  ·exact awB_may
 ·exact List.pairwise_cons.2 ⟨fun x hx => by rw [List.mem_singleton] at hx; subst hx; exact awAB, List.pairwise_singleton _ _⟩
theorem awS1 : IsSet [awA] := ⟨fun x hx => awS2.good x (by rw [List.mem_singleton] at hx; subst hx; simp), fun x hx => awS2.may x (by rw [List.mem_singleton] at hx; subst hx; simp), List.pairwise_singleton _ _⟩
theorem awSet : setN [awB, awA] = [awA, awB] := by
 refine (setN_set (fun x hx => ?_) fun x hx => ?_).ext awS2 fun x => ?_
 ·exact (awS2.good x (by simp only [List.mem_cons, List.not_mem_nil, or_false] at hx ⊢; exact hx.symm)).1 |> fun h => ⟨h, (awS2.good x (by simp only [List.mem_cons, List.not_mem_nil, or_false] at hx ⊢; exact hx.symm)).2.1⟩
 ·exact awS2.may x (by simp only [List.mem_cons, List.not_mem_nil, or_false] at hx ⊢; exact hx.symm)
 ·rw [mem_setN]
  simp only [List.mem_cons, List.not_mem_nil, or_false]
  exact or_comm
theorem awBrief2 : ∀ x ∈ [awA, awB], Brief x := fun x hx => by
 simp only [List.mem_cons, List.not_mem_nil, or_false] at hx
 rcases hx with rfl | rfl
 ·exact awA_b
 ·exact awB_b
theorem aw_ne : awA ≠ awB := fun e => by
 have := awAB
 rw [e] at this
 exact absurd this (by decide +kernel)
theorem awake16_pc : PC 19 [] (.s (.bool true)) := by
 have f2 : FewRs (rowsN [awA, awB]) := fewRs_rows awS2 (by decide) awBrief2
 have f1 : FewRs (rowsN [awA]) := fewRs_rows awS1 (by decide) (fun x hx => by rw [List.mem_singleton] at hx; subst hx; exact awA_b)
 have wO := ofc (m := [awB, awA]) (by decide) (fun x hx => awBrief2 x (by simp only [List.mem_cons, List.not_mem_nil, or_false] at hx ⊢; exact hx.symm)) (by rw [awSet]; decide)
 rw [awSet, show [awB, awA].all mayN = true by rw [List.all_cons, List.all_cons, awA_may, awB_may]; rfl] at wO
 simp only [if_true] at wO
 have wB2 := bestc (p := ⟨#[97]⟩) f2 (by decide)
 rw [(best_ref (rows_good awS2) (by decide +kernel)).1, show b16 ⟨#[97]⟩ (rowsN [awA, awB]) = (⟨#[118, 49, 46, 49, 48, 46, 48]⟩, true) by decide +kernel] at wB2
 have wD := dropc (n := awB) f2 awB_b
 rw [drop_in (rows_good awS2) awB_may (by rw [allN_rows]; simp) awS1 (fun x => by
  rw [allN_rows]
  simp only [List.mem_cons, List.not_mem_nil, or_false]
  constructor
  ·rintro rfl; exact ⟨Or.inl rfl, aw_ne⟩
  ·rintro ⟨h | h, h2⟩
   ·exact h
   ·exact absurd h h2)] at wD
 simp only [] at wD
 have wB1 := bestc (p := ⟨#[97]⟩) f1 (by decide)
 rw [(best_ref (rows_good awS1) (by decide +kernel)).1, show b16 ⟨#[97]⟩ (rowsN [awA]) = (⟨#[118, 49, 46, 57, 46, 48]⟩, true) by decide +kernel] at wB1
 have wB0 := bestc (p := ⟨#[98]⟩) f1 (by decide)
 rw [(best_ref (rows_good awS1) (by decide +kernel)).1, show b16 ⟨#[98]⟩ (rowsN [awA]) = (⟨#[]⟩, false) by decide +kernel] at wB0
 simp only [if_true, if_false, Bool.false_eq_true] at wB2 wB1 wB0
 generalize (rowsN [awA, awB]).map evRw = L2 at *
 generalize (rowsN [awA]).map evRw = L1 at *
 refine pc_of tt_ok tt_follows Tryz.func19 rfl (by kernel_rfl) (by kernel_rfl) (Nat.le_of_ble_eq_true rfl) rfl ?_
 conv => whnf
 refine ⟨_, wO, ?_⟩
 conv => whnf
 refine ⟨_, wB2, ?_⟩
 conv => whnf
 refine ⟨_, wD, ?_⟩
 conv => whnf
 refine ⟨_, wB1, ?_⟩
 conv => whnf
 refine ⟨_, wB0, ?_⟩
 conv => whnf
 refine ⟨fun _ => ?_, (fun h => by cases h)⟩
 conv => whnf
 refine ⟨fun _ => ?_, (fun h => by simp at h)⟩
 conv => whnf
 refine ⟨fun _ => ?_, (fun h => by cases h)⟩
 conv => whnf
 refine ⟨fun _ => ?_, (fun h => by cases h)⟩
 conv => whnf
 refine ⟨fun _ => ?_, (fun h => by simp at h)⟩
 conv => whnf
 refine ⟨fun _ => ?_, (fun h => by cases h)⟩
 conv => whnf
 rfl
theorem mem_take_succ {α : Type} {l : List α} {i : Nat} (h : i < l.length) (x : α) : x ∈ l.take (i + 1) ↔ x ∈ l.take i ∨ x = l[i] := by
 rw [List.take_succ_eq_append_getElem h, List.mem_append, List.mem_singleton]
theorem mem_drop_pred {α : Type} {l : List α} {i : Nat} (h : i < l.length) (x : α) : x ∈ l.drop i ↔ x ∈ l.drop (i + 1) ∨ x = l[i] := by
 rw [List.drop_eq_getElem_cons h, List.mem_cons, or_comm]
theorem tallyOrder_pc (m0 : List Nd) : PC 5 [.sl 0 2 (m0.map evN)] (.s (.bool true)) := by
 have ml := fewN_len m0
 have mb := fewN_brief m0
 have w1 := few5_pc m0
 generalize fewN m0 = m at ml mb w1
 have hml : (m.map evN).length = m.length := List.length_map ..
 have sl := setN_len m
 have wO := ofc (m := m) (by omega) mb (by omega)
 cases hm : m.all mayN
 ·rw [hm] at wO
  simp only [if_false, Bool.false_eq_true] at wO
  refine pc_of tt_ok tt_follows Tryz.func5 rfl (by kernel_rfl) (by kernel_rfl) (Nat.le_of_ble_eq_true rfl) rfl ?_
  conv => whnf
  refine ⟨_, w1, ?_⟩
  conv => whnf
  refine ⟨_, wO, ?_⟩
  conv => whnf
  refine ⟨fun _ => ?_, (fun h => by cases h)⟩
  conv => whnf
  refine ⟨_, awake16_pc, ?_⟩
  (conv => whnf) <;> try rfl
 rw [hm] at wO
 simp only [if_true] at wO
 have may : ∀ x ∈ m, mayN x = true := fun x hx => List.all_eq_true.1 hm x hx
 have setOf : ∀ t : List Nd, (∀ x ∈ t, x ∈ m) → IsSet (setN t) := fun t ht => setN_set (fun x hx => (mb x (ht x hx)).tiny) (fun x hx => may x (ht x hx))
 have few : ∀ t : List Nd, IsSet t → (∀ x ∈ t, x ∈ m) → FewRs (rowsN t) := fun t h1 h2 => fewRs_rows h1 (Nat.le_trans (sub_len h1.nodup h2) (by omega)) (fun x hx => mb x (h2 x hx))
 have inT : ∀ i, ∀ x ∈ m.take i, x ∈ m := fun i x hx => List.mem_of_mem_take hx
 have inD : ∀ i, ∀ x ∈ m.drop i, x ∈ m := fun i x hx => List.mem_of_mem_drop hx
 have sT := fun i => setOf _ (inT i)
 have sD := fun i => setOf _ (inD i)
 have fT := fun i => few _ (sT i) (fun x hx => inT i x ((mem_setN _ x).1 hx))
 have fD := fun i => few _ (sD i) (fun x hx => inD i x ((mem_setN _ x).1 hx))
 obtain ⟨U, hU⟩ : ∃ U : Nat → List Nd, U = fun i => (setN m).filter fun x => decide (x ∉ m.take i) := ⟨_, rfl⟩
 have mU : ∀ i x, x ∈ U i ↔ x ∈ m ∧ x ∉ m.take i := fun i x => by subst hU; show x ∈ List.filter _ _ ↔ _; rw [List.mem_filter, mem_setN, decide_eq_true_eq]
 have sU : ∀ i, IsSet (U i) := fun i => by subst hU; exact (setOf m (fun x h => h)).filter _
 have fU := fun i => few _ (sU i) (fun x hx => ((mU i x).1 hx).1)
 have hU0 : U 0 = setN m := by subst hU; exact List.filter_eq_self.2 fun x _ => by simp
 have hUn : U m.length = [] := List.eq_nil_iff_forall_not_mem.2 fun x hx => by
  have := (mU _ x).1 hx
  rw [List.take_length] at this
  exact this.2 this.1
 clear hU
 have stepT : ∀ i (h : i < m.length), ∃ e, addV (rowsN (setN (m.take i))) m[i] = (rowsN (setN (m.take (i + 1))), e) ∧ (e = 0 ∨ e = 3) := fun i h => add_to (sT i) (sT (i + 1)) (may _ (List.getElem_mem h)) fun x => by rw [mem_setN, mem_setN]; exact mem_take_succ h x
 have stepD : ∀ i (h : i < m.length), ∃ e, addV (rowsN (setN (m.drop (i + 1)))) m[i] = (rowsN (setN (m.drop i)), e) ∧ (e = 0 ∨ e = 3) := fun i h => add_to (sD (i + 1)) (sD i) (may _ (List.getElem_mem h)) fun x => by rw [mem_setN, mem_setN]; exact mem_drop_pred h x
 have stepU : ∀ i (h : i < m.length), ∃ e, dropV (rowsN (U i)) m[i] = (rowsN (U (i + 1)), e) ∧ (e = 0 ∨ e = 2) := fun i h => drop_to (sU i) (sU (i + 1)) (may _ (List.getElem_mem h)) fun x => by
  rw [mU, mU, mem_take_succ h, not_or, and_assoc]
 have wA : ∀ i (h : i < m.length), ∃ e, PC 25 [.sl 0 2 ((rowsN (setN (m.take i))).map evRw), evN m[i]] (.tu [.sl 0 2 ((rowsN (setN (m.take (i + 1)))).map evRw), .s (.int .i64 e)]) ∧ (e = 0 ∨ e = 3) := fun i h => by
  obtain ⟨e, he, h3⟩ := stepT i h
  have := addc (fT i) (mb _ (List.getElem_mem h))
  rw [he] at this
  exact ⟨e, this, h3⟩
 have wB : ∀ i (h : i < m.length), ∃ e, PC 25 [.sl 0 2 ((rowsN (setN (m.drop (i + 1)))).map evRw), evN m[i]] (.tu [.sl 0 2 ((rowsN (setN (m.drop i))).map evRw), .s (.int .i64 e)]) ∧ (e = 0 ∨ e = 3) := fun i h => by
  obtain ⟨e, he, h3⟩ := stepD i h
  have := addc (fD (i + 1)) (mb _ (List.getElem_mem h))
  rw [he] at this
  exact ⟨e, this, h3⟩
 have wU : ∀ i (h : i < m.length), ∃ e, PC 26 [.sl 0 2 ((rowsN (U i)).map evRw), evN m[i]] (.tu [.sl 0 2 ((rowsN (U (i + 1))).map evRw), .s (.int .i64 e)]) ∧ (e = 0 ∨ e = 2) := fun i h => by
  obtain ⟨e, he, h3⟩ := stepU i h
  have := dropc (fU i) (mb _ (List.getElem_mem h))
  rw [he] at this
  exact ⟨e, this, h3⟩
 have hTn : setN (m.take m.length) = setN m := by rw [List.take_length]
 have fS := few (setN m) (setOf m fun x h => h) (fun x hx => (mem_setN m x).1 hx)
 have wSame := tsamec (rowsN (setN m)) fS
 rw [eqR_self] at wSame
 have wC := checkc fS
 rw [chk_good (rows_good (setOf m fun x h => h))] at wC
 refine pc_of tt_ok tt_follows Tryz.func5 rfl (by kernel_rfl) (by kernel_rfl) (Nat.le_of_ble_eq_true rfl) rfl ?_
 conv => whnf
 refine ⟨_, w1, ?_⟩
 conv => whnf
 refine ⟨_, wO, ?_⟩
 conv => whnf
 refine ⟨(fun h => by cases h), fun _ => ?_⟩
 conv => whnf
 refine ⟨Nat, fun i => i ≤ m.length, fun i => [(15, .sl 0 2 ((rowsN (setN (m.take i))).map evRw)), (18, .sl 0 2 ((rowsN (setN (m.drop (m.length - i)))).map evRw)), (21, .s (.int .i64 i))], [0, 9, 50], fun i => m.length - i, 0, Nat.zero_le _, ?_, fun i hi => ?_⟩
 ·refine ⟨⟨⟨rfl, Or.inr rfl, Or.inl rfl⟩, trivial, ⟨by rw [Nat.sub_zero, List.drop_length]; rfl, Or.inr rfl, Or.inl rfl⟩, trivial, rfl, trivial, trivial⟩, ?_⟩
  repeat' (first | exact trivial | refine ⟨?_, ?_⟩ | (((conv => lhs; whnf) <;> (try (conv => rhs; whnf))) <;> exact rfl))
  (conv => whnf)
  exact Nat.le_refl _
 conv => whnf
 constructor
 ·intro h
  have hil := ltm h
  obtain ⟨e1, wA1, c1⟩ := wA i hil
  have hj : m.length - 1 - i < m.length := by omega
  obtain ⟨e2, wB1, c2⟩ := wB (m.length - 1 - i) hj
  rw [show m.length - 1 - i + 1 = m.length - i by omega] at wB1
  have hw : IntKind.i64.wrap (IntKind.i64.wrap (((m.map evN).length : Int) - 1) - (i : Int)) = ((m.length - 1 - i : Nat) : Int) := by rw [hml, IntKind.wrap_i64, IntKind.wrap_i64]; omega
  conv => whnf
  refine ⟨_, idx_map evN m i hil, ?_⟩
  conv => whnf
  refine ⟨_, wA1, ?_⟩
  conv => whnf
  refine ⟨_, idx_mapI evN m _ hw hj, ?_⟩
  conv => whnf
  refine ⟨_, wB1, ?_⟩
  conv => whnf
  rcases c1 with rfl | rfl <;> rcases c2 with rfl | rfl
  ·refine ⟨(fun h => by cases h), fun _ => ?_⟩
   conv => whnf
   refine ⟨(fun h => by cases h), fun _ => ?_⟩
   conv => whnf
   refine ⟨i + 1, hil, less1 hil, ⟨⟨⟨rfl, Or.inl rfl, Or.inl rfl⟩, trivial, ⟨by rw [show m.length - (i + 1) = m.length - 1 - i by omega], Or.inl rfl, Or.inl rfl⟩, trivial, incI hil (by omega), trivial, trivial⟩, ?_⟩⟩
   repeat' (first | exact trivial | refine ⟨?_, ?_⟩ | (((conv => lhs; whnf) <;> (try (conv => rhs; whnf))) <;> exact rfl))
   (conv => whnf)
   exact Nat.le_refl _
  ·refine ⟨(fun h => by cases h), fun _ => ?_⟩
   conv => whnf
   refine ⟨fun _ => ?_, (fun h => by cases h)⟩
   conv => whnf
   refine ⟨(fun h => by cases h), fun _ => ?_⟩
   conv => whnf
   refine ⟨i + 1, hil, less1 hil, ⟨⟨⟨rfl, Or.inl rfl, Or.inl rfl⟩, trivial, ⟨by rw [show m.length - (i + 1) = m.length - 1 - i by omega], Or.inl rfl, Or.inl rfl⟩, trivial, incI hil (by omega), trivial, trivial⟩, ?_⟩⟩
   repeat' (first | exact trivial | refine ⟨?_, ?_⟩ | (((conv => lhs; whnf) <;> (try (conv => rhs; whnf))) <;> exact rfl))
   (conv => whnf)
   exact Nat.le_refl _
  ·refine ⟨fun _ => ?_, (fun h => by cases h)⟩
   conv => whnf
   refine ⟨(fun h => by cases h), fun _ => ?_⟩
   conv => whnf
   refine ⟨(fun h => by cases h), fun _ => ?_⟩
   conv => whnf
   refine ⟨i + 1, hil, less1 hil, ⟨⟨⟨rfl, Or.inl rfl, Or.inl rfl⟩, trivial, ⟨by rw [show m.length - (i + 1) = m.length - 1 - i by omega], Or.inl rfl, Or.inl rfl⟩, trivial, incI hil (by omega), trivial, trivial⟩, ?_⟩⟩
   repeat' (first | exact trivial | refine ⟨?_, ?_⟩ | (((conv => lhs; whnf) <;> (try (conv => rhs; whnf))) <;> exact rfl))
   (conv => whnf)
   exact Nat.le_refl _
  ·refine ⟨fun _ => ?_, (fun h => by cases h)⟩
   conv => whnf
   refine ⟨(fun h => by cases h), fun _ => ?_⟩
   conv => whnf
   refine ⟨fun _ => ?_, (fun h => by cases h)⟩
   conv => whnf
   refine ⟨(fun h => by cases h), fun _ => ?_⟩
   conv => whnf
   refine ⟨i + 1, hil, less1 hil, ⟨⟨⟨rfl, Or.inl rfl, Or.inl rfl⟩, trivial, ⟨by rw [show m.length - (i + 1) = m.length - 1 - i by omega], Or.inl rfl, Or.inl rfl⟩, trivial, incI hil (by omega), trivial, trivial⟩, ?_⟩⟩
   repeat' (first | exact trivial | refine ⟨?_, ?_⟩ | (((conv => lhs; whnf) <;> (try (conv => rhs; whnf))) <;> exact rfl))
   (conv => whnf)
   exact Nat.le_refl _
 ·intro h
  have hil := gem h hi
  subst hil
  have hDn : setN (m.drop (m.length - m.length)) = setN m := by rw [Nat.sub_self, List.drop_zero]
  have wS1 : PC 28 [.sl 0 2 ((rowsN (setN (m.take m.length))).map evRw), .sl 0 2 ((rowsN (setN m)).map evRw)] (.s (.bool true)) := by rw [hTn]; exact wSame
  have wS2 : PC 28 [.sl 0 2 ((rowsN (setN (m.drop (m.length - m.length)))).map evRw), .sl 0 2 ((rowsN (setN m)).map evRw)] (.s (.bool true)) := by rw [hDn]; exact wSame
  have wC1 : PC 27 [.sl 0 2 ((rowsN (setN (m.take m.length))).map evRw)] (.s (.int .i64 0)) := by rw [hTn]; exact wC
  conv => whnf
  refine ⟨_, wS1, ?_⟩
  conv => whnf
  refine ⟨(fun h => by cases h), fun _ => ?_⟩
  conv => whnf
  refine ⟨_, wS2, ?_⟩
  conv => whnf
  refine ⟨(fun h => by cases h), fun _ => ?_⟩
  conv => whnf
  refine ⟨_, wC1, ?_⟩
  conv => whnf
  refine ⟨(fun h => by cases h), fun _ => ?_⟩
  conv => whnf
  refine ⟨Nat, fun i => i ≤ m.length, fun i => [(15, .sl 0 2 ((rowsN (U i)).map evRw)), (36, .s (.int .i64 i))], [0, 50], fun i => m.length - i, 0, Nat.zero_le _, ?_, fun i hi => ?_⟩
  ·refine ⟨⟨⟨by rw [hTn, hU0], Or.inl rfl, Or.inl rfl⟩, trivial, rfl, trivial, trivial⟩, ?_⟩
   repeat' (first | exact trivial | refine ⟨?_, ?_⟩ | (((conv => lhs; whnf) <;> (try (conv => rhs; whnf))) <;> exact rfl))
   (conv => whnf)
   exact Nat.le_refl _
  conv => whnf
  constructor
  ·intro h
   have hil := ltm h
   obtain ⟨e1, wU1, c1⟩ := wU i hil
   conv => whnf
   refine ⟨_, idx_map evN m i hil, ?_⟩
   conv => whnf
   refine ⟨_, wU1, ?_⟩
   conv => whnf
   rcases c1 with rfl | rfl
   ·refine ⟨(fun h => by cases h), fun _ => ?_⟩
    conv => whnf
    refine ⟨i + 1, hil, less1 hil, ⟨⟨⟨rfl, Or.inl rfl, Or.inl rfl⟩, trivial, incI hil (by omega), trivial, trivial⟩, ?_⟩⟩
    repeat' (first | exact trivial | refine ⟨?_, ?_⟩ | (((conv => lhs; whnf) <;> (try (conv => rhs; whnf))) <;> exact rfl))
    (conv => whnf)
    exact Nat.le_refl _
   ·refine ⟨fun _ => ?_, (fun h => by cases h)⟩
    conv => whnf
    refine ⟨(fun h => by cases h), fun _ => ?_⟩
    conv => whnf
    refine ⟨i + 1, hil, less1 hil, ⟨⟨⟨rfl, Or.inl rfl, Or.inl rfl⟩, trivial, incI hil (by omega), trivial, trivial⟩, ?_⟩⟩
    repeat' (first | exact trivial | refine ⟨?_, ?_⟩ | (((conv => lhs; whnf) <;> (try (conv => rhs; whnf))) <;> exact rfl))
    (conv => whnf)
    exact Nat.le_refl _
  ·intro h
   have hil := gem h hi
   subst hil
   have h0 : ((((rowsN (U m.length)).map evRw).length : Nat) : Int) = 0 := by rw [hUn]; rfl
   conv => whnf
   refine ⟨fun _ => ?_, (fun h => by rw [h0] at h; cases h)⟩
   conv => whnf
   refine ⟨_, awake16_pc, ?_⟩
   (conv => whnf) <;> try rfl
end Go.Proofs.YtffjkbbmnfnbaaaGreatDoor.Q
end
