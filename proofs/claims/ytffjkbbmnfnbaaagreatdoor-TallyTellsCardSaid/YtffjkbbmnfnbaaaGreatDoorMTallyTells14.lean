/- Part 14 of this claim: several texts one behind the other: Fgraftwoodref05Less, Fgraftwoodref05With, Fgraftwoodref05Set, RLess5, RWith5, RSet5, EvR5, EvXc, EvXd, EvXe. What each shows stands in its theorems; conditions: sizes of texts and lists, as the functions' definitions say. -/
import Derived.Test.YtffjkbbmnfnbaaaGreatDoorMTallyTells6
import Derived.Test.YtffjkbbmnfnbaaaGreatDoorMTallyTells7
import Derived.Test.YtffjkbbmnfnbaaaGreatDoorMTallyTells12
import Derived.Test.YtffjkbbmnfnbaaaGreatDoorMTallyTells11
import Derived.Test.YtffjkbbmnfnbaaaGreatDoorMTallyTells13
section
namespace Go.Proofs.YtffjkbbmnfnbaaaGreatDoor.Q
open Go.RowKit Go.Proofs.YtffjkbbmnfnbaaaGreatDoorW.PrintWords Go.Proofs.YtffjkbbmnfnbaaaGreatDoorW.PrintLast Go.Proofs.YtffjkbbmnfnbaaaGreatDoorW.PrintMore
attribute [local go_sem] max2_int min2_int max_two min_two max_three min_three max_four min_four   -- for this text's walks alone
set_option linter.unusedVariables false
set_option linter.unusedSimpArgs false
def graftwoodref05_Less.f (k : Nat) (a0_0 : ByteArray) (a0_1 : ByteArray) (a1_0 : ByteArray) (a1_1 : ByteArray) : Option (Bool) := (graftwoodref01_Cmp.f k a0_0 a1_0).bind fun t148 => (if t148 < 0 then (some true) else (if t148 = 0 then ((graftwoodref03_Cmp.f a0_1 a1_1).bind fun t149 => (some (decide (t149 < 0)))) else (some false)))
mutual
def graftwoodref05_With.l0 : Nat → List (S36) → List (S36) → Int → ByteArray → ByteArray → Option ((List (S36)))
 | 0, _, _, _, _, _ => none
 | k + 1, x0, x5, x6, x151000, x151001 => if x6 < (x0.length : Int) then (if 0 ≤ x6 then ((graftwoodref05_Less.f k ((rd_T36 x0 x6).f0) ((rd_T36 x0 x6).f1) x151000 x151001).bind fun t152 => (if t152 = true then (if x5.length < 4398046511104 then (graftwoodref05_With.l0 k x0 (x5 ++ [(⟨(rd_T36 x0 x6).f0, (rd_T36 x0 x6).f1⟩ : S36)]) (wrap64 (x6 + 1)) x151000 x151001) else (none)) else (graftwoodref05_With.l0 k x0 x5 (wrap64 (x6 + 1)) x151000 x151001))) else (none)) else (if x5.length < 4398046511104 then (graftwoodref05_With.l1 k x0 (x5 ++ [(⟨x151000, x151001⟩ : S36)]) 0 x151000 x151001) else (none))
def graftwoodref05_With.l1 : Nat → List (S36) → List (S36) → Int → ByteArray → ByteArray → Option ((List (S36)))
 | 0, _, _, _, _, _ => none
 | k + 1, x0, x5, x7, x151000, x151001 => if x7 < (x0.length : Int) then (if 0 ≤ x7 then ((graftwoodref05_Less.f k x151000 x151001 ((rd_T36 x0 x7).f0) ((rd_T36 x0 x7).f1)).bind fun t161 => (if t161 = true then (if x5.length < 4398046511104 then (graftwoodref05_With.l1 k x0 (x5 ++ [(⟨(rd_T36 x0 x7).f0, (rd_T36 x0 x7).f1⟩ : S36)]) (wrap64 (x7 + 1)) x151000 x151001) else (none)) else (graftwoodref05_With.l1 k x0 x5 (wrap64 (x7 + 1)) x151000 x151001))) else (none)) else (some x5)
end
end Go.Proofs.YtffjkbbmnfnbaaaGreatDoor.Q
end
section
namespace Go.Proofs.YtffjkbbmnfnbaaaGreatDoor.Q
open Go.Proofs.YtffjkbbmnfnbaaaGreatDoor.QB.D
open Go Go.RowKit Go.Lib Go.Proofs.YtffjkbbmnfnbaaaGreatDoorW.PrintWords Go.Proofs.YtffjkbbmnfnbaaaGreatDoorW.PrintLast Go.Proofs.YtffjkbbmnfnbaaaGreatDoorW.PrintMore Gw
set_option linter.unusedVariables false
set_option linter.unusedSimpArgs false
theorem filter_two {α : Type} (p q : α → Bool) : ∀ (l : List α), (∀ x ∈ l, ¬ (p x = true ∧ q x = true)) → (l.filter p).length + (l.filter q).length ≤ l.length
 | [], _ => by simp
 | x :: r, h => by
  have ih := filter_two p q r (fun y hy => h y (List.mem_cons_of_mem _ hy))
  have hx := h x List.mem_cons_self
  simp only [List.filter_cons, List.length_cons]
  cases hp : p x <;> cases hq : q x <;> simp_all <;> omega
theorem rwithN_len {l : List S36} {t : S36} (hg : ∀ x ∈ l, GoodN x) (gt : GoodN t) : (rwithN l t).length ≤ l.length + 1 := by
 have h := filter_two (fun x => decide (ordN x t < 0)) (fun x => decide (ordN t x < 0)) l (fun x hx h => by
  have h1 : ordN x t < 0 := of_decide_eq_true h.1
  have h2 : ordN t x < 0 := of_decide_eq_true h.2
  have := ordN_to.sym x t (hg x hx) gt
  omega)
 unfold rwithN
 simp only [List.length_append, List.length_cons, List.length_nil]
 omega
end Go.Proofs.YtffjkbbmnfnbaaaGreatDoor.Q
end
section
namespace Go.Proofs.YtffjkbbmnfnbaaaGreatDoor.Q
open Go.Proofs.YtffjkbbmnfnbaaaGreatDoor.QB.D
open Go Go.RowKit Go.Lib Go.Proofs.YtffjkbbmnfnbaaaGreatDoorW.PrintWords Go.Ev
set_option linter.unusedVariables false
set_option maxRecDepth 100000
theorem len1' {n k : Nat} (h : n ≤ 1000000) (hk : k ≤ 100) : n + 1 ≤ maxLen ∧ (n + 1) * k ≤ 140737488355328 := by
 constructor
 ·unfold maxLen; omega
 ·have : (n + 1) * k ≤ 1000001 * 100 := Nat.mul_le_mul (by omega) hk
  omega
theorem filter_take {α : Type} (p : α → Bool) (l : List α) (i : Nat) (h : i < l.length) : (l.take (i + 1)).filter p = (l.take i).filter p ++ (if p l[i] = true then [l[i]] else []) := by
 rw [List.take_succ_eq_append_getElem h, List.filter_append]
 congr 1
 by_cases e : p l[i] = true
 ·rw [if_pos e, List.filter_cons_of_pos e]; rfl
 ·rw [if_neg e, List.filter_cons_of_neg e]; rfl
theorem filter_le {α : Type} (p : α → Bool) (l : List α) (i : Nat) : ((l.take i).filter p).length ≤ l.length := Nat.le_trans (List.length_filter_le _ _) (by rw [List.length_take]; omega)
theorem rwith_pc (l : List S36) (t : S36) (hl : l.length ≤ 200000) (hb : ∀ x ∈ l, Brief x ∧ mayN x = true) (bt : Brief t ∧ mayN t = true) : PC 31 [.sl 0 2 (l.map evN), evN t] (.sl 0 2 ((rwithN l t).map evN)) := by
 obtain ⟨p, hp⟩ : ∃ p : S36 → Bool, p = fun x => decide (ordN x t < 0) := ⟨_, rfl⟩
 obtain ⟨q, hq⟩ : ∃ q : S36 → Bool, q = fun x => decide (ordN t x < 0) := ⟨_, rfl⟩
 have wP : ∀ x ∈ l, PC 56 [evN x, evN t] (.s (.bool (p x))) := fun x hx => by subst hp; exact less5_pc x t (hb x hx).1 bt.1 (hb x hx).2 bt.2
 have wQ : ∀ x ∈ l, PC 56 [evN t, evN x] (.s (.bool (q x))) := fun x hx => by subst hq; exact less5_pc t x bt.1 (hb x hx).1 bt.2 (hb x hx).2
 have hr : rwithN l t = l.filter p ++ [t] ++ l.filter q := by rw [hp, hq]; rfl
 rw [hr]
 clear hp hq hr hb bt
 refine pc_of tt_ok tt_follows Tryz.func31 rfl (by kernel_rfl) (by kernel_rfl) (Nat.le_of_ble_eq_true rfl) rfl ?_
 conv => whnf
 refine ⟨Nat, fun i => i ≤ l.length, fun i => [(15, .sl 28 2 (((l.take i).filter p).map evN)), (18, .s (.int .i64 i)), (80, .fr (((l.take i).filter p).map evN).length 2)], [0, 9, 10, 12], fun i => l.length - i, 0, Nat.zero_le _, ?_, fun i hi => ?_⟩
 ·refine ⟨⟨⟨rfl, Or.inr rfl, Or.inr (Or.inr rfl)⟩, Nat.le_refl _, rfl, trivial, Or.inl rfl, trivial, trivial⟩, ?_⟩
  repeat' (first | exact trivial | refine ⟨?_, ?_⟩ | (((conv => lhs; whnf) <;> (try (conv => rhs; whnf))) <;> exact rfl))
 conv => whnf
 constructor
 ·intro h
  have hil := ltm h
  have hst := filter_take p l i hil
  have hle := filter_le p l i
  conv => whnf
  refine ⟨_, idx_map evN l i hil, ?_⟩
  conv => whnf
  refine ⟨_, wP l[i] (List.getElem_mem hil), ?_⟩
  conv => whnf
  refine ⟨by kernel_rfl, ?_⟩
  conv => whnf
  constructor
  ·intro g
   have g : p l[i] = true := g
   rw [if_pos g] at hst
   conv => whnf
   refine ⟨_, idx_map evN l i hil, ?_⟩
   conv => whnf
   refine ⟨by rw [List.length_map]; exact len1' (by omega) (by decide), ?_⟩
   conv => whnf
   refine ⟨rfl, ?_⟩
   conv => whnf
   refine ⟨i + 1, hil, less1 hil, ⟨⟨⟨?_, Or.inl rfl, Or.inr (Or.inl rfl)⟩, Nat.le_refl _, incI hil (by omega), trivial, Or.inr ?_, trivial, trivial⟩, ?_⟩⟩
   ·rw [hst, List.map_append]; rfl
   ·exact congrArg (fun l => PV.fr (List.length l) 2) (by rw [hst, List.map_append]; rfl : ((l.take i).filter p).map evN ++ [evN l[i]] = ((l.take (i + 1)).filter p).map evN)
   ·repeat' (first | exact trivial | refine ⟨?_, ?_⟩ | (((conv => lhs; whnf) <;> (try (conv => rhs; whnf))) <;> exact rfl))
  ·intro g
   have g : p l[i] = false := g
   rw [if_neg (by rw [g]; decide), List.append_nil] at hst
   conv => whnf
   refine ⟨i + 1, hil, less1 hil, ⟨⟨⟨?_, Or.inl rfl, Or.inr (Or.inl rfl)⟩, Nat.le_refl _, incI hil (by omega), trivial, Or.inr ?_, trivial, trivial⟩, ?_⟩⟩
   ·rw [hst]
   ·exact congrArg (fun l => PV.fr (List.length (List.map evN l)) 2) hst.symm
   ·repeat' (first | exact trivial | refine ⟨?_, ?_⟩ | (((conv => lhs; whnf) <;> (try (conv => rhs; whnf))) <;> exact rfl))
 intro h
 have hil := gem h hi
 have hta : l.take i = l := by rw [hil, List.take_length]
 have hle := filter_le p l i
 conv => whnf
 refine ⟨by rw [List.length_map]; exact len1' (by omega) (by decide), ?_⟩
 conv => whnf
 refine ⟨rfl, ?_⟩
 conv => whnf
 have e0 : ((l.take i).filter p).map evN ++ [evN t] = (l.filter p ++ [t] ++ (l.take 0).filter q).map evN := by rw [hta]; simp
 have hlp : (l.filter p).length ≤ l.length := List.length_filter_le _ _
 refine ⟨Nat, fun j => j ≤ l.length, fun j => [(15, .sl 28 2 ((l.filter p ++ [t] ++ (l.take j).filter q).map evN)), (21, .s (.int .i64 j)), (80, .fr ((l.filter p ++ [t] ++ (l.take j).filter q).map evN).length 2)], [0, 9, 10, 12], fun j => l.length - j, 0, Nat.zero_le _, ?_, fun j hj => ?_⟩
 ·refine ⟨⟨⟨e0, Or.inl rfl, Or.inr (Or.inl rfl)⟩, Nat.le_refl _, rfl, trivial, Or.inr (congrArg (fun l => PV.fr (List.length l) 2) e0), trivial, trivial⟩, ?_⟩
  repeat' (first | exact trivial | refine ⟨?_, ?_⟩ | (((conv => lhs; whnf) <;> (try (conv => rhs; whnf))) <;> exact rfl))
 conv => whnf
 constructor
 ·intro h
  have hjl := ltm h
  have hst := filter_take q l j hjl
  have hle := filter_le q l j
  conv => whnf
  refine ⟨_, idx_map evN l j hjl, ?_⟩
  conv => whnf
  refine ⟨_, wQ l[j] (List.getElem_mem hjl), ?_⟩
  conv => whnf
  refine ⟨by kernel_rfl, ?_⟩
  conv => whnf
  constructor
  ·intro g
   have g : q l[j] = true := g
   rw [if_pos g] at hst
   conv => whnf
   refine ⟨_, idx_map evN l j hjl, ?_⟩
   conv => whnf
   refine ⟨by rw [List.length_map, List.length_append, List.length_append]; exact len1' (by show _ + 1 + _ ≤ _; omega) (by decide), ?_⟩
   conv => whnf
   refine ⟨rfl, ?_⟩
   conv => whnf
   have e1 : (l.filter p ++ [t] ++ (l.take j).filter q).map evN ++ [evN l[j]] = (l.filter p ++ [t] ++ (l.take (j + 1)).filter q).map evN := by rw [hst]; simp
   refine ⟨j + 1, hjl, less1 hjl, ⟨⟨⟨e1, Or.inl rfl, Or.inr (Or.inl rfl)⟩, Nat.le_refl _, incI hjl (by omega), trivial, Or.inr (congrArg (fun l => PV.fr (List.length l) 2) e1), trivial, trivial⟩, ?_⟩⟩
   repeat' (first | exact trivial | refine ⟨?_, ?_⟩ | (((conv => lhs; whnf) <;> (try (conv => rhs; whnf))) <;> exact rfl))
  ·intro g
   have g : q l[j] = false := g
   rw [if_neg (by rw [g]; decide), List.append_nil] at hst
   conv => whnf
   have e1 : (l.filter p ++ [t] ++ (l.take j).filter q).map evN = (l.filter p ++ [t] ++ (l.take (j + 1)).filter q).map evN := by rw [hst]
   refine ⟨j + 1, hjl, less1 hjl, ⟨⟨⟨e1, Or.inl rfl, Or.inr (Or.inl rfl)⟩, Nat.le_refl _, incI hjl (by omega), trivial, Or.inr (congrArg (fun l => PV.fr (List.length l) 2) e1), trivial, trivial⟩, ?_⟩⟩
   repeat' (first | exact trivial | refine ⟨?_, ?_⟩ | (((conv => lhs; whnf) <;> (try (conv => rhs; whnf))) <;> exact rfl))
 intro h
 have hjl := gem h hj
 conv => whnf
 exact ⟨by rw [show l.take j = l by rw [hjl, List.take_length]], Or.inl rfl, trivial⟩
theorem set5_pc (l : List S36) (hl : l.length ≤ 100000) (hb : ∀ x ∈ l, Brief x) (hm : ∀ x ∈ l, mayN x = true) : PC 17 [.sl 0 2 (l.map evN)] (.sl 0 2 ((rsetN l).map evN)) := by
 have facts : ∀ i, i ≤ l.length → (∀ x ∈ (l.take i).foldl rwithN [], Brief x ∧ mayN x = true) ∧ ((l.take i).foldl rwithN []).length ≤ i := by
  intro i
  induction i with
  | zero => intro _; exact ⟨(fun x h => by cases h), Nat.le_refl _⟩
  | succ i ih =>
   intro hi
   obtain ⟨h1, h2⟩ := ih (by omega)
   have bt := hb _ (List.getElem_mem (by omega : i < l.length))
   have mt := hm _ (List.getElem_mem (by omega : i < l.length))
   have gt := mayN_good bt.tiny mt
   have hg : ∀ x ∈ (l.take i).foldl rwithN [], GoodN x := fun x hx => mayN_good (h1 x hx).1.tiny (h1 x hx).2
   rw [List.take_succ_eq_append_getElem (by omega : i < l.length), List.foldl_append]
   refine ⟨fun x hx => ?_, ?_⟩
   ·rcases (mem_rwithN hg gt x).1 hx with e | e
    ·exact h1 x e
    ·subst e; exact ⟨bt, mt⟩
   ·have := rwithN_len hg gt
    show (rwithN _ _).length ≤ _
    omega
 refine pc_of tt_ok tt_follows Tryz.func17 rfl (by kernel_rfl) (by kernel_rfl) (Nat.le_of_ble_eq_true rfl) rfl ?_
 conv => whnf
 refine ⟨Nat, fun i => i ≤ l.length, fun i => [(9, .sl 0 2 (((l.take i).foldl rwithN []).map evN)), (12, .s (.int .i64 i))], [0, 6], fun i => l.length - i, 0, Nat.zero_le _, ?_, fun i hi => ?_⟩
 ·refine ⟨⟨⟨rfl, Or.inr rfl, Or.inl rfl⟩, trivial, rfl, trivial, trivial⟩, ?_⟩
  repeat' (first | exact trivial | refine ⟨?_, ?_⟩ | (((conv => lhs; whnf) <;> (try (conv => rhs; whnf))) <;> exact rfl))
 conv => whnf
 constructor
 ·intro h
  have hil := ltm h
  obtain ⟨f1, f2⟩ := facts i hi
  have hst : (l.take (i + 1)).foldl rwithN [] = rwithN ((l.take i).foldl rwithN []) l[i] := by rw [List.take_succ_eq_append_getElem hil, List.foldl_append]; rfl
  conv => whnf
  refine ⟨_, idx_map evN l i hil, ?_⟩
  conv => whnf
  refine ⟨_, rwith_pc ((l.take i).foldl rwithN []) l[i] (by omega) f1 ⟨hb _ (List.getElem_mem hil), hm _ (List.getElem_mem hil)⟩, ?_⟩
  conv => whnf
  refine ⟨i + 1, hil, less1 hil, ⟨⟨⟨by rw [hst], Or.inl rfl, Or.inl rfl⟩, trivial, incI hil (by omega), trivial, trivial⟩, ?_⟩⟩
  repeat' (first | exact trivial | refine ⟨?_, ?_⟩ | (((conv => lhs; whnf) <;> (try (conv => rhs; whnf))) <;> exact rfl))
 ·intro h
  have hil := gem h hi
  conv => whnf
  exact ⟨by rw [show l.take i = l by rw [hil, List.take_length]]; rfl, Or.inl rfl, trivial⟩
end Go.Proofs.YtffjkbbmnfnbaaaGreatDoor.Q
end
section
namespace Go.Proofs.YtffjkbbmnfnbaaaGreatDoor.Q
open Go.Proofs.YtffjkbbmnfnbaaaGreatDoor.QB.D
open Go Go.RowKit Go.Lib Go.Proofs.YtffjkbbmnfnbaaaGreatDoorW.PrintWords Go.Ev Gw
set_option linter.unusedVariables false
set_option maxRecDepth 100000
structure FewRs (l : List RW) : Prop where
 n : l.length ≤ 1000
 v : ∀ r ∈ l, r.v.length ≤ 1000
 b : ∀ r ∈ l, r.p.size ≤ 400 ∧ ∀ s ∈ r.v, s.size ≤ 400
theorem FewRs.tiny {l : List RW} (h : FewRs l) : TinyRs l := fun r hr => ⟨by have := (h.b r hr).1; unfold Tiny; omega, fun s hs => by have := (h.b r hr).2 s hs; unfold Tiny; omega⟩
theorem FewRs.tinyR {l : List RW} (h : FewRs l) : TinyR l := ⟨fun r hr => (h.tiny r hr).1, fun r hr => (h.tiny r hr).2, fun r hr => Nat.le_trans (h.v r hr) (by omega)⟩
theorem all_le : ∀ {l : List RW}, (∀ r ∈ l, r.v.length ≤ 1000) → (allN l).length ≤ l.length * 1000
 | [], _ => Nat.le_refl _
 | r :: l, h => by
  have h1 := all_le (l := l) (fun x hx => h x (List.mem_cons_of_mem _ hx))
  have h2 := h r List.mem_cons_self
  rw [allN_cons, List.length_cons, Nat.add_mul]
  omega
theorem FewRs.all {l : List RW} (h : FewRs l) : (allN l).length ≤ 1000000 := by
 have h1 := all_le h.v
 have h2 := h.n
 omega
theorem FewRs.brief {l : List RW} (h : FewRs l) : ∀ x ∈ allN l, Brief x := fun x hx => by
 obtain ⟨r, hr, hp, hv⟩ := mem_allN.1 hx
 have := (h.b r hr).1
 rw [hp] at this
 exact ⟨this, (h.b r hr).2 _ hv⟩
theorem fewRs_of {l : List RW} (h : GRs l) (n : (allN l).length ≤ 1000) (b : ∀ x ∈ allN l, Brief x) : FewRs l := by
 refine ⟨Nat.le_trans (rows_le fun r hr => (h.r r hr).ne) n, fun r hr => Nat.le_trans (row_le r hr) n, fun r hr => ⟨?_, fun s hs => (b ⟨r.p, s⟩ (mem_allN.2 ⟨r, hr, rfl, hs⟩)).2⟩⟩
 obtain ⟨s, hs⟩ := List.exists_mem_of_ne_nil _ (h.r r hr).ne
 exact (b ⟨r.p, s⟩ (mem_allN.2 ⟨r, hr, rfl, hs⟩)).1
theorem fewRs_rows {s : List Nd} (h : IsSet s) (n : s.length ≤ 1000) (b : ∀ x ∈ s, Brief x) : FewRs (rowsN s) := fewRs_of (rows_good h) (by rw [allN_rows]; exact n) (by rw [allN_rows]; exact b)
open Classical in
noncomputable def mayB (l : List RW) : Bool := decide (GRs l)
open Classical in
theorem mayB_eq {l : List RW} (h : FewRs l) : (ok5B (allN l) && eqB eqR l (rowsN (allN l))) = mayB l := by
 have := may_iff h.tiny
 unfold mayB
 by_cases hg : GRs l
 ·rw [this.2 hg, decide_eq_true hg]
 ·rw [decide_eq_false hg]
  cases hq : (ok5B (allN l) && eqB eqR l (rowsN (allN l)))
  ·rfl
  ·exact absurd (this.1 hq) hg
theorem take_rows (s : List Nd) (n : s.length ≤ 1000000) (i : Nat) : (rowsN (s.take i)).length ≤ 1000000 ∧ ∀ r ∈ rowsN (s.take i), r.v ≠ [] ∧ r.v.length ≤ 1000000 := by
 have h1 := rowsN_len (s.take i)
 have h2 : (s.take i).length ≤ s.length := by rw [List.length_take]; omega
 exact ⟨by omega, fun r hr => ⟨(rowsN_v _ r hr).1, Nat.le_trans (rowsN_v _ r hr).2 (by omega)⟩⟩
theorem may16c {l : List RW} (h : FewRs l) : PC 18 [.sl 0 2 (l.map evRw)] (.s (.bool (mayB l))) := by
 have := may16_pc l (Nat.le_trans h.n (by omega)) (fun r hr => Nat.le_trans (h.v r hr) (by omega)) h.all h.brief (fun i => (take_rows _ h.all i).1) (fun i => (take_rows _ h.all i).2)
 rwa [mayB_eq h] at this
theorem all16c {l : List RW} (h : FewRs l) : PC 21 [.sl 0 2 (l.map evRw)] (.sl 4 2 ((allN l).map evN)) :=
 all16_pc l (Nat.le_trans h.n (by omega)) (fun r hr => Nat.le_trans (h.v r hr) (by omega)) h.all
theorem of16c {s : List Nd} (h : s.length ≤ 1000000) : PC 16 [.sl 0 2 (s.map evN)] (.sl 0 2 ((rowsN s).map evRw)) :=
 of16_pc s h (fun i => (take_rows _ h i).1) (fun i => (take_rows _ h i).2)
theorem same16c {l : List RW} (m : List RW) (h : FewRs l) : PC 15 [.sl 0 2 (l.map evRw), .sl 0 2 (m.map evRw)] (.s (.bool (eqB eqR l m))) :=
 same16_pc l m (Nat.le_trans h.n (by omega)) (fun r hr => Nat.le_trans (h.v r hr) (by omega))
theorem dropc {l : List RW} {n : Nd} (h : FewRs l) (hn : Brief n) : PC 26 [.sl 0 2 (l.map evRw), evN n] (.tu [.sl 0 2 ((dropV l n).1.map evRw), .s (.int .i64 (dropV l n).2)]) := drop_pc l n (Nat.le_trans h.n (by omega)) h.tinyR hn.tiny
theorem bestc {l : List RW} {p : ByteArray} (h : FewRs l) (hp : p.size ≤ 400) : PC 13 [.sl 0 2 (l.map evRw), evS p] (.tu [evS (bestV l p).1, .s (.int .i64 (bestV l p).2)]) := best_pc l p (Nat.le_trans h.n (by omega)) h.tinyR (by unfold Tiny; omega)
theorem allc {l : List RW} (h : FewRs l) : PC 11 [.sl 0 2 (l.map evRw)] (.tu [.sl 4 2 ((if chkT l = 0 then allN l else []).map evN), .s (.int .i64 (chkT l))]) := all_pc l (Nat.le_trans h.n (by omega)) h.tinyR h.all
theorem ofc {m : List Nd} (h : m.length ≤ 1000000) (hb : ∀ x ∈ m, Brief x) (hs : (setN m).length ≤ 1000000) : PC 12 [.sl 0 2 (m.map evN)] (.tu [.sl 0 2 ((if m.all mayN then rowsN (setN m) else []).map evRw), .s (.int .i64 (if m.all mayN then 0 else 1))]) :=
 of_pc m h (fun x hx => (hb x hx).tiny) hs (fun i => (take_rows _ hs i).1) (fun i => (take_rows _ hs i).2)
theorem setN_len (m : List Nd) : (setN m).length ≤ m.length := by
 have h1 : (setN m).length = (ded m).length := (sortN_perm _).length_eq
 rw [h1]
 have h : ∀ (l acc : List Nd), (l.foldl (fun acc x => if x ∈ acc then acc else acc ++ [x]) acc).length ≤ acc.length + l.length := by
  intro l
  induction l with
  | nil => intro acc; exact Nat.le_refl _
  | cons x r ih =>
   intro acc
   rw [List.foldl_cons]
   refine Nat.le_trans (ih _) ?_
   split
   ·rw [List.length_cons]; omega
   ·rw [List.length_append, List.length_cons, List.length_cons, List.length_nil]; omega
 have := h m []
 rw [List.length_nil, Nat.zero_add] at this
 exact this
def fewRw (r : RW) : RW := ⟨few r.p, (r.v.take 12).map few⟩
def fewR (l : List RW) : List RW := (l.take 12).map fewRw
theorem fewR_few (l : List RW) : FewRs (fewR l) := by
 refine ⟨by unfold fewR; rw [List.length_map, List.length_take]; omega, fun r hr => ?_, fun r hr => ?_⟩
 ·obtain ⟨q, _, rfl⟩ := List.mem_map.1 hr
  show ((q.v.take 12).map few).length ≤ _
  rw [List.length_map, List.length_take]; omega
 ·obtain ⟨q, _, rfl⟩ := List.mem_map.1 hr
  refine ⟨few_size _, fun s hs => ?_⟩
  obtain ⟨t, _, rfl⟩ := List.mem_map.1 hs
  exact few_size _
theorem fewR_all (l : List RW) : (allN (fewR l)).length ≤ 144 := by
 have h : ∀ (l : List RW), (∀ r ∈ l, r.v.length ≤ 12) → (allN l).length ≤ l.length * 12 := by
  intro l
  induction l with
  | nil => intro _; exact Nat.le_refl _
  | cons r l ih =>
   intro h
   have h1 := ih (fun x hx => h x (List.mem_cons_of_mem _ hx))
   have h2 := h r List.mem_cons_self
   rw [allN_cons, List.length_cons, Nat.add_mul]
   omega
 have h1 := h (fewR l) (fun r hr => by
  obtain ⟨q, _, rfl⟩ := List.mem_map.1 hr
  show ((q.v.take 12).map few).length ≤ _
  rw [List.length_map, List.length_take]; omega)
 have h2 : (fewR l).length ≤ 12 := by unfold fewR; rw [List.length_map, List.length_take]; omega
 omega
end Go.Proofs.YtffjkbbmnfnbaaaGreatDoor.Q
end
section
namespace Go.Proofs.YtffjkbbmnfnbaaaGreatDoor.Q
open Go Go.RowKit Go.Lib Go.Proofs.YtffjkbbmnfnbaaaGreatDoorW.PrintWords Go.Ev
set_option linter.unusedVariables false
set_option maxRecDepth 100000
theorem few16_pc (l : List RW) : PC 8 [.sl 0 2 (l.map evRw)] (.sl 4 2 ((fewR l).map evRw)) := by
 have hlm : (l.map evRw).length = l.length := List.length_map ..
 refine pc_of tt_ok tt_follows Tryz.func8 rfl (by kernel_rfl) (by kernel_rfl) (Nat.le_of_ble_eq_true rfl) rfl ?_
 conv => whnf
 refine ⟨Nat, fun i => i ≤ l.length ∧ i ≤ 12, fun i => [(9, .sl 57 2 (((l.take i).map fewRw).map evRw)), (12, .s (.int .i64 i)), (167, .fr (((l.take i).map fewRw).map evRw).length 2)], [0, 6], fun i => l.length - i, 0, ⟨Nat.zero_le _, Nat.zero_le _⟩, ?_, fun i hi => ?_⟩
 ·refine ⟨⟨⟨rfl, Or.inr rfl, Or.inr (Or.inr rfl)⟩, Nat.le_refl _, rfl, trivial, Or.inl rfl, trivial, trivial⟩, ?_⟩
  repeat' (first | exact trivial | refine ⟨?_, ?_⟩ | (((conv => lhs; whnf) <;> (try (conv => rhs; whnf))) <;> exact rfl))
 obtain ⟨h1, h2⟩ := hi
 conv => whnf
 constructor
 ·intro h
  have hil := ltm h
  conv => whnf
  constructor
  ·intro h
   have hi24 : i < 12 := by have := of_decide_eq_true h; omega
   conv => whnf
   refine ⟨_, idx_map evRw l i hil, ?_⟩
   conv => whnf
   refine ⟨_, few1_pc l[i].p, ?_⟩
   conv => whnf
   refine ⟨Nat, fun k => k ≤ l[i].v.length ∧ k ≤ 12, fun k => [(16, .ag [.s (.string (few l[i].p)), .sl 52 1 (((l[i].v.take k).map few).map evS)]), (18, .s (.int .i64 k)), (152, .fr (((l[i].v.take k).map few).map evS).length 1)], [0, 6, 9, 12, 15, 167], fun k => l[i].v.length - k, 0, ⟨Nat.zero_le _, Nat.zero_le _⟩, ?_, fun k hk => ?_⟩
   ·refine ⟨⟨⟨rfl, ⟨rfl, Or.inr rfl, Or.inr (Or.inr rfl)⟩, trivial⟩, ⟨trivial, Nat.le_refl _, trivial⟩, rfl, trivial, Or.inl rfl, trivial, trivial⟩, ?_⟩
    repeat' (first | exact trivial | refine ⟨?_, ?_⟩ | (((conv => lhs; whnf) <;> (try (conv => rhs; whnf))) <;> exact rfl))
    (conv => whnf)
    exact Nat.le_refl _
   obtain ⟨k1, k2⟩ := hk
   conv => whnf
   refine ⟨_, idx_map evRw l i hil, ?_⟩
   conv => whnf
   constructor
   ·intro h
    have hkl : k < l[i].v.length := ltm h
    conv => whnf
    constructor
    ·intro h
     have hk12 : k < 12 := by have := of_decide_eq_true h; omega
     have hst := take_succ_map few l[i].v k hkl
     conv => whnf
     refine ⟨_, idx_map evRw l i hil, ?_⟩
     conv => whnf
     refine ⟨_, idx_map evS l[i].v k hkl, ?_⟩
     conv => whnf
     refine ⟨_, few1_pc l[i].v[k], ?_⟩
     conv => whnf
     refine ⟨by show ((List.map evS (List.map few (List.take k l[i].v))).length + 1 ≤ 9223372036854775807) ∧ ((List.map evS (List.map few (List.take k l[i].v))).length + 1) * 16 ≤ 140737488355328; rw [List.length_map, List.length_map, List.length_take]; omega, rfl, ?_⟩
     conv => whnf
     refine ⟨by kernel_rfl, ?_⟩
     conv => whnf
     have e1 : ((l[i].v.take k).map few).map evS ++ [evS (few l[i].v[k])] = ((l[i].v.take (k + 1)).map few).map evS := by rw [hst, List.map_append]; rfl
     refine ⟨k + 1, ⟨hkl, hk12⟩, less1 hkl, ⟨⟨⟨rfl, ⟨e1, Or.inl rfl, Or.inr (Or.inl rfl)⟩, trivial⟩, ⟨trivial, Nat.le_refl _, trivial⟩, incI hk12 (by decide), trivial, Or.inr (congrArg (fun l => PV.fr (List.length l) 1) e1), trivial, trivial⟩, ?_⟩⟩
     repeat' (first | exact trivial | refine ⟨?_, ?_⟩ | (((conv => lhs; whnf) <;> (try (conv => rhs; whnf))) <;> exact rfl))
     (conv => whnf)
     exact Nat.le_refl _
    ·intro h
     have hk12 : ¬ k < 12 := by have := of_decide_eq_false h; omega
     have hke : (l[i].v.take k).map few = (l[i].v.take 12).map few := by rw [show k = 12 by omega]
     conv => whnf
     have e2 : ((l.take i).map fewRw).map evRw ++ [PV.ag [.s (.string (few l[i].p)), .sl 0 1 (((l[i].v.take k).map few).map evS)]] = ((l.take (i + 1)).map fewRw).map evRw := by rw [hke, take_succ_map fewRw l i hil, List.map_append]; rfl
     refine ⟨by show ((List.map evRw (List.map fewRw (List.take i l))).length + 1 ≤ 9223372036854775807) ∧ ((List.map evRw (List.map fewRw (List.take i l))).length + 1) * 40 ≤ 140737488355328; rw [List.length_map, List.length_map, List.length_take]; omega, rfl, ?_⟩
     conv => whnf
     refine ⟨i + 1, ⟨hil, hi24⟩, less1 hil, ⟨⟨⟨e2, Or.inl rfl, Or.inr (Or.inl rfl)⟩, Nat.le_refl _, incI hi24 (by decide), trivial, Or.inr (congrArg (fun l => PV.fr (List.length l) 2) e2), trivial, trivial⟩, ?_⟩⟩
     repeat' (first | exact trivial | refine ⟨?_, ?_⟩ | (((conv => lhs; whnf) <;> (try (conv => rhs; whnf))) <;> exact rfl))
   ·intro h
    have hkl := gem h k1
    have hke : (l[i].v.take k).map few = (l[i].v.take 12).map few := by rw [List.take_of_length_le (by omega), List.take_of_length_le (by omega)]
    conv => whnf
    have e2 : ((l.take i).map fewRw).map evRw ++ [PV.ag [.s (.string (few l[i].p)), .sl 0 1 (((l[i].v.take k).map few).map evS)]] = ((l.take (i + 1)).map fewRw).map evRw := by rw [hke, take_succ_map fewRw l i hil, List.map_append]; rfl
    refine ⟨by show ((List.map evRw (List.map fewRw (List.take i l))).length + 1 ≤ 9223372036854775807) ∧ ((List.map evRw (List.map fewRw (List.take i l))).length + 1) * 40 ≤ 140737488355328; rw [List.length_map, List.length_map, List.length_take]; omega, rfl, ?_⟩
    conv => whnf
    refine ⟨i + 1, ⟨hil, hi24⟩, less1 hil, ⟨⟨⟨e2, Or.inl rfl, Or.inr (Or.inl rfl)⟩, Nat.le_refl _, incI hi24 (by decide), trivial, Or.inr (congrArg (fun l => PV.fr (List.length l) 2) e2), trivial, trivial⟩, ?_⟩⟩
    repeat' (first | exact trivial | refine ⟨?_, ?_⟩ | (((conv => lhs; whnf) <;> (try (conv => rhs; whnf))) <;> exact rfl))
  ·intro h
   have hi12 : ¬ i < 12 := by have := of_decide_eq_false h; omega
   conv => whnf
   refine ⟨?_, Or.inl rfl, Or.inr rfl⟩
   unfold fewR
   obtain rfl : i = 12 := by omega
   rfl
 ·intro h
  have hil := gem h h1
  conv => whnf
  refine ⟨?_, Or.inl rfl, Or.inr rfl⟩
  unfold fewR
  rw [List.take_of_length_le (by omega), List.take_of_length_le (by omega)]
end Go.Proofs.YtffjkbbmnfnbaaaGreatDoor.Q
end
section
namespace Go.Proofs.YtffjkbbmnfnbaaaGreatDoor.Q
open Go.Proofs.YtffjkbbmnfnbaaaGreatDoor.QB.D
open Go Go.RowKit Go.Lib Go.Proofs.YtffjkbbmnfnbaaaGreatDoorW.PrintWords Go.Ev Gw
set_option linter.unusedVariables false
theorem GRs.tiny {l : List RW} (h : GRs l) (hb : ∀ x ∈ allN l, TinyN x) : TinyRs l := fun r hr => by
 obtain ⟨s, hs⟩ := List.exists_mem_of_ne_nil _ (h.r r hr).ne
 exact ⟨(hb ⟨r.p, s⟩ (mem_allN.2 ⟨r, hr, rfl, hs⟩)).1, fun s' hs' => (hb ⟨r.p, s'⟩ (mem_allN.2 ⟨r, hr, rfl, hs'⟩)).2⟩
theorem IsSet.tinyR {s : List Nd} (h : IsSet s) : TinyRs (rowsN s) := (rows_good h).tiny (by rw [allN_rows]; exact fun x hx => ⟨(h.good x hx).1, (h.good x hx).2.1⟩)
theorem GRs.rows {l : List RW} {s : List Nd} (h : GRs l) (hs : IsSet s) (hx : ∀ x, x ∈ allN l ↔ x ∈ s) : l = rowsN s := by
 have ht : TinyRs l := h.tiny fun x hx' => by
  have := hs.good x ((hx x).1 hx')
  exact ⟨this.1, this.2.1⟩
 rw [← h.back, (h.set ht).ext hs hx]
theorem drop_in {l : List RW} {n : Nd} {s : List Nd} (h : GRs l) (hm : mayN n = true) (hin : n ∈ allN l) (hs : IsSet s) (hx : ∀ x, x ∈ s ↔ x ∈ allN l ∧ x ≠ n) : dropV l n = (rowsN s, 0) := by
 rcases drop_spec h hm with ⟨hn, _⟩ | ⟨_, l', e, g, m⟩
 ·exact absurd hin hn
 ·rw [e, g.rows hs fun x => (m x).trans (hx x).symm]
theorem eqR_self (l : List RW) : eqB eqR l l = true := (eqB_iff eqR_iff).2 rfl
open Classical in
theorem mayB_t {l : List RW} (h : GRs l) : mayB l = true := by unfold mayB; exact decide_eq_true h
open Classical in
theorem mayB_f {l : List RW} (h : ¬ GRs l) : mayB l = false := by unfold mayB; exact decide_eq_false h
theorem chk_f {l : List RW} (h : ¬ GRs l) : chkT l = 1 := if_neg fun e => h e.gr
end Go.Proofs.YtffjkbbmnfnbaaaGreatDoor.Q
end
