/- Part 15 of this claim: several texts one behind the other: EvXf, EvXi, EvXj. What each shows stands in its theorems; conditions: sizes of texts and lists, as the functions' definitions say. -/
import Derived.Test.YtffjkbbmnfnbaaaGreatDoorMTallyBest14
section
namespace Go.Proofs.YtffjkbbmnfnbaaaGreatDoor.Q
open Go.Proofs.YtffjkbbmnfnbaaaGreatDoor.QB.D
open Go Go.RowKit Go.Lib Go.Proofs.YtffjkbbmnfnbaaaGreatDoorW.PrintWords Go.Ev Gw
set_option linter.unusedVariables false
set_option maxRecDepth 100000
def awA : Nd := ⟨⟨#[97]⟩, ⟨#[118, 49, 46, 57, 46, 48]⟩⟩
def awB : Nd := ⟨⟨#[97]⟩, ⟨#[118, 49, 46, 49, 48, 46, 48]⟩⟩
theorem awA_may : mayN awA = true := by decide +kernel
theorem awB_may : mayN awB = true := by decide +kernel
theorem awAB : ordN awA awB < 0 := by decide +kernel
theorem awA_b : Brief awA := by decide +kernel
theorem awB_b : Brief awB := by decide +kernel
theorem awS2 : IsSet [awA, awB] := by
 refine ⟨fun x hx => ?_, fun x hx => ?_, ?_⟩
 ·simp only [List.mem_cons, List.not_mem_nil, or_false] at hx
  rcases hx with rfl | rfl
  ·exact mayN_good awA_b.tiny awA_may
  ·exact mayN_good awB_b.tiny awB_may
 ·simp only [List.mem_cons, List.not_mem_nil, or_false] at hx
  rcases hx with rfl | rfl
  ·exact awA_may
  ·exact awB_may
 ·exact List.pairwise_cons.2 ⟨fun x hx => by rw [List.mem_singleton] at hx; subst hx; exact awAB, List.pairwise_singleton _ _⟩
theorem awS1 : IsSet [awA] := ⟨fun x hx => awS2.good x (by rw [List.mem_singleton] at hx; subst hx; simp), fun x hx => awS2.may x (by rw [List.mem_singleton] at hx; subst hx; simp), List.pairwise_singleton _ _⟩
theorem awSet : setN [awB, awA] = [awA, awB] := by
 refine (setN_set (fun x hx => ?_) fun x hx => ?_).ext awS2 fun x => ?_
 ·exact (awS2.good x (by simp only [List.mem_cons, List.not_mem_nil, or_false] at hx ⊢; exact hx.symm)).1 |> fun h => ⟨h, (awS2.good x (by simp only [List.mem_cons, List.not_mem_nil, or_false] at hx ⊢; exact hx.symm)).2.1⟩
 ·exact awS2.may x (by simp only [List.mem_cons, List.not_mem_nil, or_false] at hx ⊢; exact hx.symm)
 ·rw [mem_setN]
  simp only [List.mem_cons, List.not_mem_nil, or_false]
  exact or_comm
theorem awBrief2 : ∀ x ∈ [awA, awB], Brief x := fun x hx => by
 simp only [List.mem_cons, List.not_mem_nil, or_false] at hx
 rcases hx with rfl | rfl
 ·exact awA_b
 ·exact awB_b
theorem aw_ne : awA ≠ awB := fun e => by
 have := awAB
 rw [e] at this
 exact absurd this (by decide +kernel)
theorem awake16_pc : PC 19 [] (.s (.bool true)) := by
 have f2 : FewRs (rowsN [awA, awB]) := fewRs_rows awS2 (by decide) awBrief2
 have f1 : FewRs (rowsN [awA]) := fewRs_rows awS1 (by decide) (fun x hx => by rw [List.mem_singleton] at hx; subst hx; exact awA_b)
 have wO := ofc (m := [awB, awA]) (by decide) (fun x hx => awBrief2 x (by simp only [List.mem_cons, List.not_mem_nil, or_false] at hx ⊢; exact hx.symm)) (by rw [awSet]; decide)
 rw [awSet, show [awB, awA].all mayN = true by rw [List.all_cons, List.all_cons, awA_may, awB_may]; rfl] at wO
 simp only [if_true] at wO
 have wB2 := bestc (p := ⟨#[97]⟩) f2 (by decide)
 rw [(best_ref (rows_good awS2) (by decide +kernel)).1, show b16 ⟨#[97]⟩ (rowsN [awA, awB]) = (⟨#[118, 49, 46, 49, 48, 46, 48]⟩, true) by decide +kernel] at wB2
 have wD := dropc (n := awB) f2 awB_b
 rw [drop_in (rows_good awS2) awB_may (by rw [allN_rows]; simp) awS1 (fun x => by
  rw [allN_rows]
  simp only [List.mem_cons, List.not_mem_nil, or_false]
  constructor
  ·rintro rfl; exact ⟨Or.inl rfl, aw_ne⟩
  ·rintro ⟨h | h, h2⟩
   ·exact h
   ·exact absurd h h2)] at wD
 simp only [] at wD
 have wB1 := bestc (p := ⟨#[97]⟩) f1 (by decide)
 rw [(best_ref (rows_good awS1) (by decide +kernel)).1, show b16 ⟨#[97]⟩ (rowsN [awA]) = (⟨#[118, 49, 46, 57, 46, 48]⟩, true) by decide +kernel] at wB1
 have wB0 := bestc (p := ⟨#[98]⟩) f1 (by decide)
 rw [(best_ref (rows_good awS1) (by decide +kernel)).1, show b16 ⟨#[98]⟩ (rowsN [awA]) = (⟨#[]⟩, false) by decide +kernel] at wB0
 simp only [if_true, if_false, Bool.false_eq_true] at wB2 wB1 wB0
 generalize (rowsN [awA, awB]).map evRw = L2 at *
 generalize (rowsN [awA]).map evRw = L1 at *
 refine pc_of tt_ok tt_follows Tryz.func19 rfl (by kernel_rfl) (by kernel_rfl) (Nat.le_of_ble_eq_true rfl) rfl ?_
 conv => whnf
 refine ⟨_, wO, ?_⟩
 conv => whnf
 refine ⟨_, wB2, ?_⟩
 conv => whnf
 refine ⟨_, wD, ?_⟩
 conv => whnf
 refine ⟨_, wB1, ?_⟩
 conv => whnf
 refine ⟨_, wB0, ?_⟩
 conv => whnf
 refine ⟨fun _ => ?_, (fun h => by cases h)⟩
 conv => whnf
 refine ⟨fun _ => ?_, (fun h => by simp at h)⟩
 conv => whnf
 refine ⟨fun _ => ?_, (fun h => by cases h)⟩
 conv => whnf
 refine ⟨fun _ => ?_, (fun h => by cases h)⟩
 conv => whnf
 refine ⟨fun _ => ?_, (fun h => by simp at h)⟩
 conv => whnf
 refine ⟨fun _ => ?_, (fun h => by cases h)⟩
 conv => whnf
 rfl
structure AddR (l : List RW) (n : Nd) (a : List RW) (g : Int) : Prop where
 few : FewRs a
 good : GRs a
 len : (allN a).length ≤ 200
 mem : g ≠ 1 → mayN n = true ∧ ∀ x, x ∈ allN a ↔ x ∈ allN l ∨ x = n
 cases : (g = 0 ∧ n ∉ allN l ∧ (allN a).length = (allN l).length + 1) ∨ (g = 3 ∧ n ∈ allN l ∧ a = l) ∨ (g = 1 ∧ a = l ∧ mayN n = false)
theorem addR {l : List RW} {n : Nd} (fl : FewRs l) (fa : (allN l).length ≤ 150) (nb : Brief n) (hg : GRs l) : ∃ a g, addV l n = (a, g) ∧ AddR l n a g := by
 cases hm : mayN n
 ·exact ⟨l, 1, add_bad (fun h => by rw [hm] at h; exact absurd h.2 (by decide)), fl, hg, by omega, fun h => absurd rfl h, Or.inr (Or.inr ⟨rfl, rfl, hm⟩)⟩
 ·have hs := hg.set fl.tiny
  have gn := mayN_good nb.tiny hm
  by_cases hin : n ∈ allN l
  ·exact ⟨l, 3, add_in hg hm hin, fl, hg, by omega, fun _ => ⟨hm, fun x => ⟨Or.inl, fun h => h.elim id (fun e => by rw [e]; exact hin)⟩⟩, Or.inr (Or.inl ⟨rfl, hin, rfl⟩)⟩
  ·have h2 := rwithN_set hs gn hm
   have m2 := mem_rwithN hs.good gn
   have ll : (rwithN (allN l) n).length = (allN l).length + 1 := by
    have l1 := rwithN_len hs.good gn
    have l2 := sub_len (l := n :: allN l) (m := rwithN (allN l) n) (List.nodup_cons.2 ⟨hin, hs.nodup⟩) fun x hx => (m2 x).2 ((List.mem_cons.1 hx).symm)
    rw [List.length_cons] at l2
    omega
   refine ⟨rowsN (rwithN (allN l) n), 0, add_out hg hm hin h2 m2, fewRs_rows h2 (by omega) (fun x hx => ((m2 x).1 hx).elim (fl.brief x) (fun e => by rw [e]; exact nb)), rows_good h2, by rw [allN_rows]; omega, fun _ => ⟨hm, fun x => by rw [allN_rows]; exact m2 x⟩, Or.inl ⟨rfl, hin, by rw [allN_rows]; exact ll⟩⟩
theorem IsBest.path {l : List RW} {p b : ByteArray} (h : IsBest l p b) (hg : GRs l) : isPath (bs p) = true ∧ isVersion (bs b) = true := by
 obtain ⟨r, hr, h1, h2⟩ := mem_allN.1 h.mem
 have gr := hg.r r hr
 have h1 : r.p = p := h1
 exact ⟨by rw [← h1]; exact gr.p, gr.v _ h2⟩
theorem IsBest.uniq {l : List RW} {p b c : ByteArray} (hg : GRs l) (h : IsBest l p b) (h' : IsBest l p c) : b = c := by
 have vb := (h.path hg).2
 have vc := (h'.path hg).2
 have h1 := h.le c h'.mem
 have h2 := h'.le b h.mem
 have := vord_sym vb vc
 exact (vord_zero vb vc).1 (by omega)
theorem tallyBest_pc (l0 : List RW) (n0 : Nd) : PC 6 [.sl 0 2 (l0.map evRw), evN n0] (.s (.bool true)) := by
 have fl := fewR_few l0
 have fa := fewR_all l0
 have nb := oneN_brief n0
 have w1 := few16_pc l0
 have w2 := one5_pc n0
 generalize fewR l0 = l at fl fa w1
 generalize oneN n0 = n at nb w2
 have wC := checkc fl
 have wN := ref5May_pc n nb
 by_cases hb : GRs l ∧ mayN n = true
 ·obtain ⟨hg, hm⟩ := hb
  rw [chk_good hg] at wC
  rw [hm] at wN
  have hp := isP_of hm
  have hv := isV_of hm
  have gn := mayN_good nb.tiny hm
  obtain ⟨a, f, ha, R⟩ := addR fl (by omega) nb hg
  have hf : f = 0 ∨ f = 3 := by
   rcases R.cases with h | h | h
   ·exact Or.inl h.1
   ·exact Or.inr h.1
   ·rw [hm] at h; exact absurd h.2.2 (by decide)
  have hma := (R.mem (by omega)).2
  have wA := addc fl nb
  rw [ha] at wA
  simp only [] at wA
  have wB := bestc (p := n.f0) fl nb.1
  obtain ⟨was, e, hbe⟩ : ∃ was e, bestV l n.f0 = (was, e) := ⟨_, _, rfl⟩
  rw [hbe] at wB
  simp only [] at wB
  have wB2 := bestc (p := n.f0) R.few nb.1
  have hin : n ∈ allN a := (hma n).2 (Or.inr rfl)
  obtain ⟨is, hbi, bi⟩ : ∃ is, bestV a n.f0 = (is, 0) ∧ IsBest a n.f0 is := by
   rcases best_spec R.good hp with h | ⟨_, h⟩
   ·exact h
   ·exact absurd hin (h n.f1)
  rw [hbi] at wB2
  simp only [] at wB2
  have wL := allc R.few
  rw [chk_good R.good, if_pos rfl] at wL
  have wH := has5_pc (allN a) ⟨n.f0, is⟩ R.few.all
  rw [any_in.2 bi.mem] at wH
  obtain ⟨d, hd, gd, md⟩ : ∃ d, dropV a n = (d, 0) ∧ GRs d ∧ ∀ x, x ∈ allN d ↔ x ∈ allN a ∧ x ≠ n := by
   rcases drop_spec R.good hm with ⟨h, _⟩ | ⟨_, h⟩
   ·exact absurd hin h
   ·exact h
  have td : TinyRs d := gd.tiny fun x hx => R.few.tiny.nodes x ((md x).1 hx).1
  have fd : FewRs d := fewRs_of gd (Nat.le_trans (sub_len (gd.set td).nodup fun x hx => ((md x).1 hx).1) (Nat.le_trans R.len (by decide))) fun x hx => R.few.brief x ((md x).1 hx).1
  have wD := dropc R.few nb
  rw [hd] at wD
  simp only [] at wD
  have wB3 := bestc (p := n.f0) fd nb.1
  have wSd := tsamec l fd
  have same : f = 0 → d = l := fun h => by
   have hnin : n ∉ allN l := by
    rcases R.cases with h' | h' | h'
    ·exact h'.2.1
    ·omega
    ·omega
   refine GRs.ext gd hg td fl.tiny fun x => ?_
   rw [md, hma]
   constructor
   ·rintro ⟨h | h, h2⟩
    ·exact h
    ·exact absurd h h2
   ·exact fun h => ⟨Or.inl h, fun e => hnin (by rw [← e]; exact h)⟩
  have vi := (bi.path R.good).2
  have ti : Tiny is := (R.few.brief _ bi.mem).tiny.2
  have wCmp : ∀ x ∈ allN a, PC 32 [evS x.f1, evS is] (.s (.int .i64 (vord x.f1 is))) := fun x hx => ref3Cmp_pc _ _ (R.few.brief x hx).tiny.2 ti (isV_of ((R.good.set R.few.tiny).may x hx)) vi
  have low : ∀ x ∈ allN a, eqS x.f0 n.f0 = true → ¬ vord x.f1 is > 0 := fun x hx h => by
   have hx0 := eqS_iff.1 h
   have := bi.le x.f1 (by rw [← hx0]; exact hx)
   omega
  have cas : (e = 0 ∧ IsBest l n.f0 was ∧ eqS is n.f1 = decide (vord n.f1 was ≥ 0) ∧ PC 32 [evS n.f1, evS was] (.s (.int .i64 (vord n.f1 was)))) ∨ (e = 2 ∧ is = n.f1) := by
   rcases best_spec hg hp with ⟨b, h1, h2⟩ | ⟨h1, h2⟩
   ·rw [hbe] at h1
    injection h1 with e1 e2
    subst e1 e2
    have vw := (h2.path hg).2
    refine Or.inl ⟨rfl, h2, ?_, ref3Cmp_pc _ _ nb.tiny.2 (fl.brief _ h2.mem).tiny.2 hv vw⟩
    by_cases hc : vord n.f1 was ≥ 0
    ·rw [decide_eq_true hc, eqS_iff]
     refine bi.uniq R.good ⟨hin, fun s hs => ?_⟩
     rcases (hma _).1 hs with hs | hs
     ·have l1 := h2.le s hs
      have vs := isV_of ((hg.set fl.tiny).may _ hs)
      have vs : isVersion (bs s) = true := vs
      have s1 := vord_sym hv vw
      by_cases h : vord s n.f1 ≤ 0
      ·exact h
      ·exfalso
       have s2 := vord_sym vs hv
       have z1 := @vord_zero s was vs vw
       have z2 := @vord_zero was n.f1 vw hv
       have z3 := @vord_zero n.f1 s hv vs
       by_cases q1 : vord s was = 0
       ·have := z1.1 q1; subst this; omega
       ·by_cases q2 : vord was n.f1 = 0
        ·have := z2.1 q2; subst this; omega
        ·have := vord_tr vs vw hv (by omega) (by omega)
         omega
     ·have : s = n.f1 := congrArg (·.f1) hs
      subst this
      have := (vord_zero hv hv).2 rfl
      omega
    ·rw [decide_eq_false hc]
     cases hq : eqS is n.f1
     ·rfl
     ·have := eqS_iff.1 hq
      subst this
      have := bi.le was ((hma _).2 (Or.inl h2.mem))
      have := vord_sym hv vw
      omega
   ·rw [hbe] at h1
    injection h1 with e1 e2
    refine Or.inr ⟨e2, ?_⟩
    rcases (hma _).1 bi.mem with h | h
    ·exact absurd h (h2 is)
    ·exact congrArg (·.f1) h
  rcases hf with rfl | rfl
  ·obtain rfl := same rfl
   rw [hbe] at wB3
   simp only [] at wB3
   refine pc_of tt_ok tt_follows Tryz.func6 rfl (by kernel_rfl) (by kernel_rfl) (Nat.le_of_ble_eq_true rfl) rfl ?_
   conv => whnf
   refine ⟨_, w1, ?_⟩
   conv => whnf
   refine ⟨_, w2, ?_⟩
   conv => whnf
   refine ⟨by kernel_rfl, ?_⟩
   conv => whnf
   refine ⟨_, wC, ?_⟩
   conv => whnf
   refine ⟨(fun h => by cases h), fun _ => ?_⟩
   conv => whnf
   refine ⟨_, wN, ?_⟩
   conv => whnf
   refine ⟨(fun h => by cases h), fun _ => ?_⟩
   conv => whnf
   refine ⟨_, wB, ?_⟩
   conv => whnf
   refine ⟨_, wA, ?_⟩
   conv => whnf
   refine ⟨_, wB2, ?_⟩
   conv => whnf
   refine ⟨_, wL, ?_⟩
   conv => whnf
   refine ⟨(fun h => by cases h), fun _ => ?_⟩
   conv => whnf
   refine ⟨(fun h => by cases h), fun _ => ?_⟩
   conv => whnf
   refine ⟨(fun h => by cases h), fun _ => ?_⟩
   conv => whnf
   refine ⟨_, wH, ?_⟩
   conv => whnf
   refine ⟨(fun h => by cases h), fun _ => ?_⟩
   conv => whnf
   refine ⟨Nat, fun i => i ≤ (allN a).length, fun i => [(39, .s (.int .i64 i))], [0, 9, 10, 15, 18, 21, 24, 27, 33, 59, 161], fun i => (allN a).length - i, 0, Nat.zero_le _, ?_, fun i hi => ?_⟩
   ·refine ⟨⟨rfl, trivial, trivial⟩, ?_⟩
    repeat' (first | exact trivial | refine ⟨?_, ?_⟩ | (((conv => lhs; whnf) <;> (try (conv => rhs; whnf))) <;> exact rfl))
    ·(conv => whnf)
     exact Nat.le_refl _
    ·(conv => whnf)
     exact Nat.le_refl _
   conv => whnf
   constructor
   ·intro h
    have hil := ltm h
    have hmem := List.getElem_mem hil
    conv => whnf
    refine ⟨_, idx_map evN (allN a) i hil, ?_⟩
    conv => whnf
    constructor
    ·intro hq
     conv => whnf
     refine ⟨_, idx_map evN (allN a) i hil, ?_⟩
     conv => whnf
     refine ⟨_, wCmp _ hmem, ?_⟩
     conv => whnf
     refine ⟨by kernel_rfl, ?_⟩
     conv => whnf
     refine ⟨fun h => absurd (of_decide_eq_true h) (low _ hmem hq), fun _ => ?_⟩
     conv => whnf
     refine ⟨i + 1, hil, less1 hil, ⟨⟨incI hil (by have := R.len; omega), trivial, trivial⟩, ?_⟩⟩
     repeat' (first | exact trivial | refine ⟨?_, ?_⟩ | (((conv => lhs; whnf) <;> (try (conv => rhs; whnf))) <;> exact rfl))
     ·(conv => whnf)
      exact Nat.le_refl _
     ·(conv => whnf)
      exact Nat.le_refl _
    ·intro hq
     conv => whnf
     refine ⟨by kernel_rfl, ?_⟩
     conv => whnf
     conv => whnf
     refine ⟨i + 1, hil, less1 hil, ⟨⟨incI hil (by have := R.len; omega), trivial, trivial⟩, ?_⟩⟩
     repeat' (first | exact trivial | refine ⟨?_, ?_⟩ | (((conv => lhs; whnf) <;> (try (conv => rhs; whnf))) <;> exact rfl))
     ·(conv => whnf)
      exact Nat.le_refl _
     ·(conv => whnf)
      exact Nat.le_refl _
   ·intro h
    have hil := gem h hi
    subst hil
    conv => whnf
    rcases cas with ⟨rfl, _, q1, q2⟩ | ⟨rfl, rfl⟩
    ·refine ⟨fun _ => ?_, (fun h => by cases h)⟩
     conv => whnf
     refine ⟨_, q2, ?_⟩
     conv => whnf
     refine ⟨fun h => ?_, fun _ => ?_⟩
     ·have h : (!(eqS is n.f1 == decide (vord n.f1 was ≥ 0))) = true := h
      rw [q1] at h
      simp at h
     conv => whnf
     refine ⟨(fun h => by cases h), fun _ => ?_⟩
     conv => whnf
     refine ⟨by kernel_rfl, ?_⟩
     conv => whnf
     refine ⟨_, wD, ?_⟩
     conv => whnf
     refine ⟨_, wB3, ?_⟩
     conv => whnf
     refine ⟨fun _ => ?_, (fun h => by cases h)⟩
     conv => whnf
     refine ⟨(fun h => by cases h), fun _ => ?_⟩
     conv => whnf
     refine ⟨_, wSd, ?_⟩
     conv => whnf
     refine ⟨fun _ => ?_, (fun h => by rw [eqR_self] at h; cases h)⟩
     conv => whnf
     refine ⟨fun _ => ?_, (fun h => by simp at h)⟩
     conv => whnf
     refine ⟨fun _ => ?_, (fun h => by cases h)⟩
     conv => whnf
     refine ⟨_, awake16_pc, ?_⟩
     (conv => whnf) <;> try rfl
    ·refine ⟨(fun h => by cases h), fun _ => ?_⟩
     conv => whnf
     refine ⟨fun _ => ?_, (fun h => by cases h)⟩
     conv => whnf
     refine ⟨(fun h => by cases h), fun _ => ?_⟩
     conv => whnf
     refine ⟨by kernel_rfl, ?_⟩
     conv => whnf
     refine ⟨fun h => ?_, fun _ => ?_⟩
     ·have h : (!(n.f1.toList == n.f1.toList)) = true := h
      simp at h
     conv => whnf
     refine ⟨_, wD, ?_⟩
     conv => whnf
     refine ⟨_, wB3, ?_⟩
     conv => whnf
     refine ⟨fun _ => ?_, (fun h => by cases h)⟩
     conv => whnf
     refine ⟨(fun h => by cases h), fun _ => ?_⟩
     conv => whnf
     refine ⟨_, wSd, ?_⟩
     conv => whnf
     refine ⟨fun _ => ?_, (fun h => by rw [eqR_self] at h; cases h)⟩
     conv => whnf
     refine ⟨fun _ => ?_, (fun h => by simp at h)⟩
     conv => whnf
     refine ⟨fun _ => ?_, (fun h => by cases h)⟩
     conv => whnf
     refine ⟨_, awake16_pc, ?_⟩
     (conv => whnf) <;> try rfl
  ·refine pc_of tt_ok tt_follows Tryz.func6 rfl (by kernel_rfl) (by kernel_rfl) (Nat.le_of_ble_eq_true rfl) rfl ?_
   conv => whnf
   refine ⟨_, w1, ?_⟩
   conv => whnf
   refine ⟨_, w2, ?_⟩
   conv => whnf
   refine ⟨by kernel_rfl, ?_⟩
   conv => whnf
   refine ⟨_, wC, ?_⟩
   conv => whnf
   refine ⟨(fun h => by cases h), fun _ => ?_⟩
   conv => whnf
   refine ⟨_, wN, ?_⟩
   conv => whnf
   refine ⟨(fun h => by cases h), fun _ => ?_⟩
   conv => whnf
   refine ⟨_, wB, ?_⟩
   conv => whnf
   refine ⟨_, wA, ?_⟩
   conv => whnf
   refine ⟨_, wB2, ?_⟩
   conv => whnf
   refine ⟨_, wL, ?_⟩
   conv => whnf
   refine ⟨fun _ => ?_, (fun h => by cases h)⟩
   conv => whnf
   refine ⟨(fun h => by cases h), fun _ => ?_⟩
   conv => whnf
   refine ⟨(fun h => by cases h), fun _ => ?_⟩
   conv => whnf
   refine ⟨(fun h => by cases h), fun _ => ?_⟩
   conv => whnf
   refine ⟨_, wH, ?_⟩
   conv => whnf
   refine ⟨(fun h => by cases h), fun _ => ?_⟩
   conv => whnf
   refine ⟨Nat, fun i => i ≤ (allN a).length, fun i => [(39, .s (.int .i64 i))], [0, 9, 10, 15, 18, 21, 24, 27, 33, 59, 161], fun i => (allN a).length - i, 0, Nat.zero_le _, ?_, fun i hi => ?_⟩
   ·refine ⟨⟨rfl, trivial, trivial⟩, ?_⟩
    repeat' (first | exact trivial | refine ⟨?_, ?_⟩ | (((conv => lhs; whnf) <;> (try (conv => rhs; whnf))) <;> exact rfl))
    ·(conv => whnf)
     exact Nat.le_refl _
    ·(conv => whnf)
     exact Nat.le_refl _
   conv => whnf
   constructor
   ·intro h
    have hil := ltm h
    have hmem := List.getElem_mem hil
    conv => whnf
    refine ⟨_, idx_map evN (allN a) i hil, ?_⟩
    conv => whnf
    constructor
    ·intro hq
     conv => whnf
     refine ⟨_, idx_map evN (allN a) i hil, ?_⟩
     conv => whnf
     refine ⟨_, wCmp _ hmem, ?_⟩
     conv => whnf
     refine ⟨by kernel_rfl, ?_⟩
     conv => whnf
     refine ⟨fun h => absurd (of_decide_eq_true h) (low _ hmem hq), fun _ => ?_⟩
     conv => whnf
     refine ⟨i + 1, hil, less1 hil, ⟨⟨incI hil (by have := R.len; omega), trivial, trivial⟩, ?_⟩⟩
     repeat' (first | exact trivial | refine ⟨?_, ?_⟩ | (((conv => lhs; whnf) <;> (try (conv => rhs; whnf))) <;> exact rfl))
     ·(conv => whnf)
      exact Nat.le_refl _
     ·(conv => whnf)
      exact Nat.le_refl _
    ·intro hq
     conv => whnf
     refine ⟨by kernel_rfl, ?_⟩
     conv => whnf
     conv => whnf
     refine ⟨i + 1, hil, less1 hil, ⟨⟨incI hil (by have := R.len; omega), trivial, trivial⟩, ?_⟩⟩
     repeat' (first | exact trivial | refine ⟨?_, ?_⟩ | (((conv => lhs; whnf) <;> (try (conv => rhs; whnf))) <;> exact rfl))
     ·(conv => whnf)
      exact Nat.le_refl _
     ·(conv => whnf)
      exact Nat.le_refl _
   ·intro h
    have hil := gem h hi
    subst hil
    conv => whnf
    rcases cas with ⟨rfl, _, q1, q2⟩ | ⟨rfl, rfl⟩
    ·refine ⟨fun _ => ?_, (fun h => by cases h)⟩
     conv => whnf
     refine ⟨_, q2, ?_⟩
     conv => whnf
     refine ⟨fun h => ?_, fun _ => ?_⟩
     ·have h : (!(eqS is n.f1 == decide (vord n.f1 was ≥ 0))) = true := h
      rw [q1] at h
      simp at h
     conv => whnf
     refine ⟨(fun h => by cases h), fun _ => ?_⟩
     conv => whnf
     refine ⟨by kernel_rfl, ?_⟩
     conv => whnf
     refine ⟨_, wD, ?_⟩
     conv => whnf
     refine ⟨_, wB3, ?_⟩
     conv => whnf
     refine ⟨fun _ => ?_, (fun h => by cases h)⟩
     conv => whnf
     refine ⟨fun _ => ?_, (fun h => by cases h)⟩
     conv => whnf
     refine ⟨_, awake16_pc, ?_⟩
     (conv => whnf) <;> try rfl
    ·refine ⟨(fun h => by cases h), fun _ => ?_⟩
     conv => whnf
     refine ⟨fun _ => ?_, (fun h => by cases h)⟩
     conv => whnf
     refine ⟨(fun h => by cases h), fun _ => ?_⟩
     conv => whnf
     refine ⟨by kernel_rfl, ?_⟩
     conv => whnf
     refine ⟨fun h => ?_, fun _ => ?_⟩
     ·have h : (!(n.f1.toList == n.f1.toList)) = true := h
      simp at h
     conv => whnf
     refine ⟨_, wD, ?_⟩
     conv => whnf
     refine ⟨_, wB3, ?_⟩
     conv => whnf
     refine ⟨fun _ => ?_, (fun h => by cases h)⟩
     conv => whnf
     refine ⟨fun _ => ?_, (fun h => by cases h)⟩
     conv => whnf
     refine ⟨_, awake16_pc, ?_⟩
     (conv => whnf) <;> try rfl
 ·obtain ⟨c, hc⟩ : ∃ c, chkT l = c := ⟨_, rfl⟩
  rw [hc] at wC
  have hno : c = 0 → mayN n = false := fun h => by
   cases hm : mayN n
   ·rfl
   ·exact absurd ⟨chk_gr (hc.trans h), hm⟩ hb
  refine pc_of tt_ok tt_follows Tryz.func6 rfl (by kernel_rfl) (by kernel_rfl) (Nat.le_of_ble_eq_true rfl) rfl ?_
  conv => whnf
  refine ⟨_, w1, ?_⟩
  conv => whnf
  refine ⟨_, w2, ?_⟩
  conv => whnf
  refine ⟨by kernel_rfl, ?_⟩
  conv => whnf
  refine ⟨_, wC, ?_⟩
  conv => whnf
  constructor
  ·intro h
   conv => whnf
   refine ⟨_, awake16_pc, ?_⟩
   (conv => whnf) <;> try rfl
  ·intro h
   have h : c = 0 := by simpa using h
   rw [hno h] at wN
   conv => whnf
   refine ⟨_, wN, ?_⟩
   conv => whnf
   refine ⟨fun _ => ?_, (fun h => by cases h)⟩
   conv => whnf
   refine ⟨_, awake16_pc, ?_⟩
   (conv => whnf) <;> try rfl
end Go.Proofs.YtffjkbbmnfnbaaaGreatDoor.Q
end
