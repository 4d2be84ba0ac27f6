/- Part 13 of this claim: several texts one behind the other: Fgraftwoodref05With, Fgraftwoodref05Set, RLess5, RWith5, RSet5, EvR5, YDep. What each shows stands in its theorems; conditions: sizes of texts and lists, as the functions' definitions say. -/
import Derived.Test.YtodkjmbmlobihaaGreatDoorVWhyTells
import Derived.Test.YtodkjmbmlobihaaGreatDoorMWhyTells6
import Derived.Test.YtodkjmbmlobihaaGreatDoorMWhyTells12
import Derived.Test.YtodkjmbmlobihaaGreatDoorMWhyTells11
import Derived.Test.YtodkjmbmlobihaaGreatDoorMWhyTells9
import Derived.Maps.OwnOps
section
namespace Go.Proofs.YtodkjmbmlobihaaGreatDoor.Q
open Go.RowKit Go.Proofs.YtodkjmbmlobihaaGreatDoorW.PrintWords Go.Proofs.YtodkjmbmlobihaaGreatDoorW.PrintLast Go.Proofs.YtodkjmbmlobihaaGreatDoorW.PrintMore
attribute [local go_sem] max2_int min2_int max_two min_two max_three min_three max_four min_four   -- for this text's walks alone
set_option linter.unusedVariables false
set_option linter.unusedSimpArgs false
mutual
def graftwoodref05_With.l0 : Nat → List (S24) → List (S24) → Int → ByteArray → ByteArray → Option ((List (S24)))
 | 0, _, _, _, _, _ => none
 | k + 1, x0, x5, x6, x227000, x227001 => if x6 < (x0.length : Int) then (if 0 ≤ x6 then ((graftwoodref05_Less.f k ((rd_T24 x0 x6).f0) ((rd_T24 x0 x6).f1) x227000 x227001).bind fun t228 => (if t228 = true then (if x5.length < 4398046511104 then (graftwoodref05_With.l0 k x0 (x5 ++ [(⟨(rd_T24 x0 x6).f0, (rd_T24 x0 x6).f1⟩ : S24)]) (wrap64 (x6 + 1)) x227000 x227001) else (none)) else (graftwoodref05_With.l0 k x0 x5 (wrap64 (x6 + 1)) x227000 x227001))) else (none)) else (if x5.length < 4398046511104 then (graftwoodref05_With.l1 k x0 (x5 ++ [(⟨x227000, x227001⟩ : S24)]) 0 x227000 x227001) else (none))
def graftwoodref05_With.l1 : Nat → List (S24) → List (S24) → Int → ByteArray → ByteArray → Option ((List (S24)))
 | 0, _, _, _, _, _ => none
 | k + 1, x0, x5, x7, x227000, x227001 => if x7 < (x0.length : Int) then (if 0 ≤ x7 then ((graftwoodref05_Less.f k x227000 x227001 ((rd_T24 x0 x7).f0) ((rd_T24 x0 x7).f1)).bind fun t237 => (if t237 = true then (if x5.length < 4398046511104 then (graftwoodref05_With.l1 k x0 (x5 ++ [(⟨(rd_T24 x0 x7).f0, (rd_T24 x0 x7).f1⟩ : S24)]) (wrap64 (x7 + 1)) x227000 x227001) else (none)) else (graftwoodref05_With.l1 k x0 x5 (wrap64 (x7 + 1)) x227000 x227001))) else (none)) else (some x5)
end
end Go.Proofs.YtodkjmbmlobihaaGreatDoor.Q
end
section
namespace Go.Proofs.YtodkjmbmlobihaaGreatDoor.Q
open Go.Proofs.YtodkjmbmlobihaaGreatDoor.QB.D
open Go Go.RowKit Go.Lib Go.Proofs.YtodkjmbmlobihaaGreatDoorW.PrintWords Go.Proofs.YtodkjmbmlobihaaGreatDoorW.PrintLast Go.Proofs.YtodkjmbmlobihaaGreatDoorW.PrintMore Gw
set_option linter.unusedVariables false
set_option linter.unusedSimpArgs false
theorem filter_two {α : Type} (p q : α → Bool) : ∀ (l : List α), (∀ x ∈ l, ¬ (p x = true ∧ q x = true)) → (l.filter p).length + (l.filter q).length ≤ l.length
 | [], _ => by simp
 | x :: r, h => by
  have ih := filter_two p q r (fun y hy => h y (List.mem_cons_of_mem _ hy))
  have hx := h x List.mem_cons_self
  simp only [List.filter_cons, List.length_cons]
  cases hp : p x <;> cases hq : q x <;> simp_all <;> omega
theorem rwithN_len {l : List S24} {t : S24} (hg : ∀ x ∈ l, GoodN x) (gt : GoodN t) : (rwithN l t).length ≤ l.length + 1 := by
 have h := filter_two (fun x => decide (ordN x t < 0)) (fun x => decide (ordN t x < 0)) l (fun x hx h => by
  have h1 : ordN x t < 0 := of_decide_eq_true h.1
  have h2 : ordN t x < 0 := of_decide_eq_true h.2
  have := ordN_to.sym x t (hg x hx) gt
  omega)
 unfold rwithN
 simp only [List.length_append, List.length_cons, List.length_nil]
 omega
end Go.Proofs.YtodkjmbmlobihaaGreatDoor.Q
end
section
namespace Go.Proofs.YtodkjmbmlobihaaGreatDoor.Q
open Go.Proofs.YtodkjmbmlobihaaGreatDoor.QB.D
open Go Go.RowKit Go.Lib Go.Proofs.YtodkjmbmlobihaaGreatDoorW.PrintWords Go.Ev
set_option linter.unusedVariables false
set_option maxRecDepth 100000
theorem len1' {n k : Nat} (h : n ≤ 1000000) (hk : k ≤ 100) : n + 1 ≤ maxLen ∧ (n + 1) * k ≤ 140737488355328 := by
 constructor
 ·unfold maxLen; omega
 ·have : (n + 1) * k ≤ 1000001 * 100 := Nat.mul_le_mul (by omega) hk
  omega
theorem filter_take {α : Type} (p : α → Bool) (l : List α) (i : Nat) (h : i < l.length) : (l.take (i + 1)).filter p = (l.take i).filter p ++ (if p l[i] = true then [l[i]] else []) := by
 rw [List.take_succ_eq_append_getElem h, List.filter_append]
 congr 1
 by_cases e : p l[i] = true
 ·rw [if_pos e, List.filter_cons_of_pos e]; rfl
 ·rw [if_neg e, List.filter_cons_of_neg e]; rfl
theorem filter_le {α : Type} (p : α → Bool) (l : List α) (i : Nat) : ((l.take i).filter p).length ≤ l.length := Nat.le_trans (List.length_filter_le _ _) (by rw [List.length_take]; omega)
theorem rwith_pc (l : List S24) (t : S24) (hl : l.length ≤ 200000) (hb : ∀ x ∈ l, Brief x ∧ mayN x = true) (bt : Brief t ∧ mayN t = true) : PC 31 [.sl 0 2 (l.map evN), evN t] (.sl 0 2 ((rwithN l t).map evN)) := by
 obtain ⟨p, hp⟩ : ∃ p : S24 → Bool, p = fun x => decide (ordN x t < 0) := ⟨_, rfl⟩
 obtain ⟨q, hq⟩ : ∃ q : S24 → Bool, q = fun x => decide (ordN t x < 0) := ⟨_, rfl⟩
 have wP : ∀ x ∈ l, PC 18 [evN x, evN t] (.s (.bool (p x))) := fun x hx => by subst hp; exact less5_pc x t (hb x hx).1 bt.1 (hb x hx).2 bt.2
 have wQ : ∀ x ∈ l, PC 18 [evN t, evN x] (.s (.bool (q x))) := fun x hx => by subst hq; exact less5_pc t x bt.1 (hb x hx).1 bt.2 (hb x hx).2
 have hr : rwithN l t = l.filter p ++ [t] ++ l.filter q := by rw [hp, hq]; rfl
 rw [hr]
 clear hp hq hr hb bt
 refine pc_of tt_ok tt_follows Tryz.func31 rfl (by kernel_rfl) (by kernel_rfl) (Nat.le_of_ble_eq_true rfl) rfl ?_
 conv => whnf
 refine ⟨Nat, fun i => i ≤ l.length, fun i => [(15, .sl 28 2 (((l.take i).filter p).map evN)), (18, .s (.int .i64 i)), (80, .fr (((l.take i).filter p).map evN).length 2)], [0, 9, 10, 12], fun i => l.length - i, 0, Nat.zero_le _, ?_, fun i hi => ?_⟩
 ·refine ⟨⟨⟨rfl, Or.inr rfl, Or.inr (Or.inr rfl)⟩, Nat.le_refl _, rfl, trivial, Or.inl rfl, trivial, trivial⟩, ?_⟩
  repeat' (first | exact trivial | refine ⟨?_, ?_⟩ | (((conv => lhs; whnf) <;> (try (conv => rhs; whnf))) <;> exact rfl))
 conv => whnf
 constructor
 ·intro h
  have hil := ltm h
  have hst := filter_take p l i hil
  have hle := filter_le p l i
  conv => whnf
  refine ⟨_, idx_map evN l i hil, ?_⟩
  conv => whnf
  refine ⟨_, wP l[i] (List.getElem_mem hil), ?_⟩
  conv => whnf
  refine ⟨by kernel_rfl, ?_⟩
  conv => whnf
  constructor
  ·intro g
   have g : p l[i] = true := g
   rw [if_pos g] at hst
   conv => whnf
   refine ⟨_, idx_map evN l i hil, ?_⟩
   conv => whnf
   refine ⟨by rw [List.length_map]; exact len1' (by omega) (by decide), ?_⟩
   conv => whnf
   refine ⟨rfl, ?_⟩
   conv => whnf
   refine ⟨i + 1, hil, less1 hil, ⟨⟨⟨?_, Or.inl rfl, Or.inr (Or.inl rfl)⟩, Nat.le_refl _, incI hil (by omega), trivial, Or.inr ?_, trivial, trivial⟩, ?_⟩⟩
   ·rw [hst, List.map_append]; rfl
   ·exact congrArg (fun l => PV.fr (List.length l) 2) (by rw [hst, List.map_append]; rfl : ((l.take i).filter p).map evN ++ [evN l[i]] = ((l.take (i + 1)).filter p).map evN)
   ·repeat' (first | exact trivial | refine ⟨?_, ?_⟩ | (((conv => lhs; whnf) <;> (try (conv => rhs; whnf))) <;> exact rfl))
  ·intro g
   have g : p l[i] = false := g
   rw [if_neg (by rw [g]; decide), List.append_nil] at hst
   conv => whnf
   refine ⟨i + 1, hil, less1 hil, ⟨⟨⟨?_, Or.inl rfl, Or.inr (Or.inl rfl)⟩, Nat.le_refl _, incI hil (by omega), trivial, Or.inr ?_, trivial, trivial⟩, ?_⟩⟩
   ·rw [hst]
   ·exact congrArg (fun l => PV.fr (List.length (List.map evN l)) 2) hst.symm
   ·repeat' (first | exact trivial | refine ⟨?_, ?_⟩ | (((conv => lhs; whnf) <;> (try (conv => rhs; whnf))) <;> exact rfl))
 intro h
 have hil := gem h hi
 have hta : l.take i = l := by rw [hil, List.take_length]
 have hle := filter_le p l i
 conv => whnf
 refine ⟨by rw [List.length_map]; exact len1' (by omega) (by decide), ?_⟩
 conv => whnf
 refine ⟨rfl, ?_⟩
 conv => whnf
 have e0 : ((l.take i).filter p).map evN ++ [evN t] = (l.filter p ++ [t] ++ (l.take 0).filter q).map evN := by rw [hta]; simp
 have hlp : (l.filter p).length ≤ l.length := List.length_filter_le _ _
 refine ⟨Nat, fun j => j ≤ l.length, fun j => [(15, .sl 28 2 ((l.filter p ++ [t] ++ (l.take j).filter q).map evN)), (21, .s (.int .i64 j)), (80, .fr ((l.filter p ++ [t] ++ (l.take j).filter q).map evN).length 2)], [0, 9, 10, 12], fun j => l.length - j, 0, Nat.zero_le _, ?_, fun j hj => ?_⟩
 ·refine ⟨⟨⟨e0, Or.inl rfl, Or.inr (Or.inl rfl)⟩, Nat.le_refl _, rfl, trivial, Or.inr (congrArg (fun l => PV.fr (List.length l) 2) e0), trivial, trivial⟩, ?_⟩
  repeat' (first | exact trivial | refine ⟨?_, ?_⟩ | (((conv => lhs; whnf) <;> (try (conv => rhs; whnf))) <;> exact rfl))
 conv => whnf
 constructor
 ·intro h
  have hjl := ltm h
  have hst := filter_take q l j hjl
  have hle := filter_le q l j
  conv => whnf
  refine ⟨_, idx_map evN l j hjl, ?_⟩
  conv => whnf
  refine ⟨_, wQ l[j] (List.getElem_mem hjl), ?_⟩
  conv => whnf
  refine ⟨by kernel_rfl, ?_⟩
  conv => whnf
  constructor
  ·intro g
   have g : q l[j] = true := g
   rw [if_pos g] at hst
   conv => whnf
   refine ⟨_, idx_map evN l j hjl, ?_⟩
   conv => whnf
   refine ⟨by rw [List.length_map, List.length_append, List.length_append]; exact len1' (by show _ + 1 + _ ≤ _; omega) (by decide), ?_⟩
   conv => whnf
   refine ⟨rfl, ?_⟩
   conv => whnf
   have e1 : (l.filter p ++ [t] ++ (l.take j).filter q).map evN ++ [evN l[j]] = (l.filter p ++ [t] ++ (l.take (j + 1)).filter q).map evN := by rw [hst]; simp
   refine ⟨j + 1, hjl, less1 hjl, ⟨⟨⟨e1, Or.inl rfl, Or.inr (Or.inl rfl)⟩, Nat.le_refl _, incI hjl (by omega), trivial, Or.inr (congrArg (fun l => PV.fr (List.length l) 2) e1), trivial, trivial⟩, ?_⟩⟩
   repeat' (first | exact trivial | refine ⟨?_, ?_⟩ | (((conv => lhs; whnf) <;> (try (conv => rhs; whnf))) <;> exact rfl))
  ·intro g
   have g : q l[j] = false := g
   rw [if_neg (by rw [g]; decide), List.append_nil] at hst
   conv => whnf
   have e1 : (l.filter p ++ [t] ++ (l.take j).filter q).map evN = (l.filter p ++ [t] ++ (l.take (j + 1)).filter q).map evN := by rw [hst]
   refine ⟨j + 1, hjl, less1 hjl, ⟨⟨⟨e1, Or.inl rfl, Or.inr (Or.inl rfl)⟩, Nat.le_refl _, incI hjl (by omega), trivial, Or.inr (congrArg (fun l => PV.fr (List.length l) 2) e1), trivial, trivial⟩, ?_⟩⟩
   repeat' (first | exact trivial | refine ⟨?_, ?_⟩ | (((conv => lhs; whnf) <;> (try (conv => rhs; whnf))) <;> exact rfl))
 intro h
 have hjl := gem h hj
 conv => whnf
 exact ⟨by rw [show l.take j = l by rw [hjl, List.take_length]], Or.inl rfl, trivial⟩
theorem set5_pc (l : List S24) (hl : l.length ≤ 100000) (hb : ∀ x ∈ l, Brief x) (hm : ∀ x ∈ l, mayN x = true) : PC 27 [.sl 0 2 (l.map evN)] (.sl 0 2 ((rsetN l).map evN)) := by
 have facts : ∀ i, i ≤ l.length → (∀ x ∈ (l.take i).foldl rwithN [], Brief x ∧ mayN x = true) ∧ ((l.take i).foldl rwithN []).length ≤ i := by
  intro i
  induction i with
  | zero => intro _; exact ⟨(fun x h => by cases h), Nat.le_refl _⟩
  | succ i ih =>
   intro hi
   obtain ⟨h1, h2⟩ := ih (by omega)
   have bt := hb _ (List.getElem_mem (by omega : i < l.length))
   have mt := hm _ (List.getElem_mem (by omega : i < l.length))
   have gt := mayN_good bt.tiny mt
   have hg : ∀ x ∈ (l.take i).foldl rwithN [], GoodN x := fun x hx => mayN_good (h1 x hx).1.tiny (h1 x hx).2
   rw [List.take_succ_eq_append_getElem (by omega : i < l.length), List.foldl_append]
   refine ⟨fun x hx => ?_, ?_⟩
   ·rcases (mem_rwithN hg gt x).1 hx with e | e
    ·exact h1 x e
    ·subst e; exact ⟨bt, mt⟩
   ·have := rwithN_len hg gt
    show (rwithN _ _).length ≤ _
    omega
 refine pc_of tt_ok tt_follows Tryz.func27 rfl (by kernel_rfl) (by kernel_rfl) (Nat.le_of_ble_eq_true rfl) rfl ?_
 conv => whnf
 refine ⟨Nat, fun i => i ≤ l.length, fun i => [(9, .sl 0 2 (((l.take i).foldl rwithN []).map evN)), (12, .s (.int .i64 i))], [0, 6], fun i => l.length - i, 0, Nat.zero_le _, ?_, fun i hi => ?_⟩
 ·refine ⟨⟨⟨rfl, Or.inr rfl, Or.inl rfl⟩, trivial, rfl, trivial, trivial⟩, ?_⟩
  repeat' (first | exact trivial | refine ⟨?_, ?_⟩ | (((conv => lhs; whnf) <;> (try (conv => rhs; whnf))) <;> exact rfl))
 conv => whnf
 constructor
 ·intro h
  have hil := ltm h
  obtain ⟨f1, f2⟩ := facts i hi
  have hst : (l.take (i + 1)).foldl rwithN [] = rwithN ((l.take i).foldl rwithN []) l[i] := by rw [List.take_succ_eq_append_getElem hil, List.foldl_append]; rfl
  conv => whnf
  refine ⟨_, idx_map evN l i hil, ?_⟩
  conv => whnf
  refine ⟨_, rwith_pc ((l.take i).foldl rwithN []) l[i] (by omega) f1 ⟨hb _ (List.getElem_mem hil), hm _ (List.getElem_mem hil)⟩, ?_⟩
  conv => whnf
  refine ⟨i + 1, hil, less1 hil, ⟨⟨⟨by rw [hst], Or.inl rfl, Or.inl rfl⟩, trivial, incI hil (by omega), trivial, trivial⟩, ?_⟩⟩
  repeat' (first | exact trivial | refine ⟨?_, ?_⟩ | (((conv => lhs; whnf) <;> (try (conv => rhs; whnf))) <;> exact rfl))
 ·intro h
  have hil := gem h hi
  conv => whnf
  exact ⟨by rw [show l.take i = l by rw [hil, List.take_length]]; rfl, Or.inl rfl, trivial⟩
end Go.Proofs.YtodkjmbmlobihaaGreatDoor.Q
end
section
namespace Go.Proofs.YtodkjmbmlobihaaGreatDoor.Q
open Go.Proofs.YtodkjmbmlobihaaGreatDoor.QB.D
open Go Go.RowKit Go.Maps Go.Lib Go.Proofs.YtodkjmbmlobihaaGreatDoorW.PrintWords Go.Proofs.YtodkjmbmlobihaaGreatDoorW.PrintLast Go.Proofs.YtodkjmbmlobihaaGreatDoorW.PrintMore Gw
set_option linter.unusedVariables false
set_option linter.unusedSimpArgs false
def lookF (out : List (S24 × Nat)) (x : S24) : Option Nat := (out.find? (fun p => decide (p.1 = x))).map (·.2)
def stepF (d : Nat) (level : List S24) (st : List (S24 × Nat) × List S24) (e : S49) : List (S24 × Nat) × List S24 :=
 if (lookF st.1 e.f1).isNone ∧ e.f0 ∈ level then (st.1 ++ [(e.f1, d)], st.2 ++ [e.f1]) else st
def roundF (l : List S49) (d : Nat) (level : List S24) (out : List (S24 × Nat)) : List (S24 × Nat) × List S24 := l.foldl (stepF d level) (out, [])
def depF (l : List S49) : Nat → Nat → List S24 → List (S24 × Nat) → Option (List (S24 × Nat))
 | 0, _, _, _ => none
 | k + 1, d, level, out => if level = [] then some out else depF l k (d + 1) (roundF l d level out).2 (roundF l d level out).1
theorem lookF_snoc (out : List (S24 × Nat)) (x y : S24) (d : Nat) : lookF (out ++ [(x, d)]) y = (lookF out y).or (if y = x then some d else none) := by
 unfold lookF
 rw [List.find?_append]
 cases h : out.find? (fun p => decide (p.1 = y)) with
 | some p => rfl
 | none =>
  simp only [Option.none_or, Option.map_none, List.find?_cons, List.find?_nil]
  by_cases e : x = y
  ·subst e; simp
  ·rw [decide_eq_false e, if_neg (fun h => e h.symm)]; rfl
structure FarM (D : DataW Unit) (out : List (S24 × Nat)) : Prop where
 map : IsMap D
 has : ∀ y, NS y → Maps.has D (nkey y) = (lookF out y).isSome
 at_ : ∀ y, NS y → D.atKey (nkey y) (.lit (.int .i64 0)) = .lit (.int .i64 (((lookF out y).getD 0 : Nat) : Int))
theorem farM_none : FarM (.map []) [] := ⟨isMap_empty, fun y _ => by simp [Maps.has, lookF], fun y _ => by simp [DataW.atKey, lookF]⟩
theorem FarM.put {D : DataW Unit} {out : List (S24 × Nat)} (h : FarM D out) (x : S24) (hx : NS x) (d : Nat) (hn : lookF out x = none) : FarM (D.put (nkey x) (.lit (.int .i64 (d : Int)))) (out ++ [(x, d)]) := by
 refine ⟨h.map.put _ _, fun y hy => ?_, fun y hy => ?_⟩
 ·rw [lookF_snoc]
  by_cases e : y = x
  ·subst e
   rw [has_put_same h.map (nkey_lit _), if_pos rfl]
   cases lookF out y <;> rfl
  ·rw [has_put_other (fun h2 => e ((nkey_inj hy hx).1 h2)), h.has y hy, if_neg e]
   cases lookF out y <;> rfl
 ·rw [lookF_snoc]
  by_cases e : y = x
  ·subst e
   rw [atKey_put_same h.map (nkey_lit _), if_pos rfl, hn]
   rfl
  ·rw [atKey_put_other (fun h2 => e ((nkey_inj hy hx).1 h2)), h.at_ y hy, if_neg e]
   cases lookF out y <;> rfl
theorem cell_blk {w w' : World} {a : Addr} (h : w'.heap[a.block]? = w.heap[a.block]?) : w'.cell? a = w.cell? a := by unfold World.cell?; rw [h]
theorem zero_int (w : World) : (zeroValue 3).run Tryz.prog w = .ok (.int .i64 0) w := by kernel_rfl
theorem foldF_take (l : List S49) (d : Nat) (level : List S24) (st : List (S24 × Nat) × List S24) (i : Nat) (hi : i < l.length) : (l.take (i + 1)).foldl (stepF d level) st = stepF d level ((l.take i).foldl (stepF d level) st) l[i] := by
 rw [List.take_succ_eq_append_getElem hi, List.foldl_append]
 rfl
theorem foldF_len (l : List S49) (d : Nat) (level : List S24) : ∀ (st : List (S24 × Nat) × List S24), (l.foldl (stepF d level) st).2.length ≤ st.2.length + l.length ∧ (l.foldl (stepF d level) st).1.length ≤ st.1.length + l.length := by
 induction l with
 | nil => intro st; exact ⟨Nat.le_refl _, Nat.le_refl _⟩
 | cons x r ih =>
  intro st
  rw [List.foldl_cons]
  have h := ih (stepF d level st x)
  unfold stepF at h ⊢
  simp only [List.length_cons]
  split at h
  ·rename_i hc
   rw [if_pos hc]
   simp only [List.length_append, List.length_cons, List.length_nil] at h
   omega
  ·rename_i hc
   rw [if_neg hc]
   omega
set_option maxHeartbeats 8000000 in
set_option maxRecDepth 100000 in
theorem depths_calls (A0 : Option Addr) (c0 : Nat) (l0 : List S49) (w : World) (hr0 : Kd.C k49 w A0 l0.length l0) (hl0 : l0.length ≤ 65536) (hns : ∀ x ∈ l0, NS x.f0 ∧ NS x.f1) (K : Nat) (hK : K ≤ 65540) (out : List (S24 × Nat)) (hout : depF l0 K 1 [z24] [] = some out) :
 Calls Tryz.prog 21 #[.slice A0 l0.length c0] w fun e w' => ∃ (g n : Nat) (D : DataW Unit), e = .returned (.map (some g)) ∧ w.heap.size ≤ g ∧ w'.ownsMap Tryz.prog 24 (plainElem Tryz.prog 3) g n D ∧ FarM D out ∧ Below w.heap.size w w' := by
 have hu24 := Tryz.underlying24
 have hu34 := Tryz.underlying49
 have hmm := @run_makeMap Tryz.prog
 have HR0 := Aside0.mk hr0
 have HNS := Aside0.mk hns
 have HOUT := Aside0.mk hout
 have hl1 : (l0.length : Int) ≤ 65536 := by omega
 clear hr0 hns hout
 go_enter Tryz.func21, Tryz.ntmps21
 go_wp2_with fail
 have HL0 : Aside0 (Kd.R k24 24 ((w.alloc (.map #[] 0)).alloc (.cells #[.string ⟨#[]⟩, .string ⟨#[]⟩] 24 (0, 0))) w.heap.size (fun j => j ≠ w.heap.size) (.slice (some ⟨w.heap.size + 1, 0, none⟩) 1 1) [z24]) :=
  ⟨⟨fun k hk => by simp [Value.ownBlock] at hk; omega, [.string ⟨#[]⟩, .string ⟨#[]⟩], ⟨rfl, Or.inr ⟨w.heap.size + 1, 1, #[.string ⟨#[]⟩, .string ⟨#[]⟩], rfl, by omega, by have h9 := (MapKept.heap_alloc (w.alloc (.map #[] 0)) (.cells #[.string ⟨#[]⟩, .string ⟨#[]⟩] 24 (0, 0))).1; simpa using h9, by decide, by decide, rfl, rfl⟩⟩, Reps.c2 (k24_mkM _ _ _ z24) (Reps.none _ _)⟩⟩
 have HM0 : Aside0 (((w.alloc (.map #[] 0)).alloc (.cells #[.string ⟨#[]⟩, .string ⟨#[]⟩] 24 (0, 0))).ownsMap Tryz.prog 24 (plainElem (H := Unit) Tryz.prog 3) w.heap.size 0 (.map [])) := ⟨(World.ownsMap_made _ _ _ _).alloc _⟩
 have HB0 : Aside0 (Below w.heap.size w ((w.alloc (.map #[] 0)).alloc (.cells #[.string ⟨#[]⟩, .string ⟨#[]⟩] 24 (0, 0)))) := ⟨below_alloc (below_alloc (Below.refl _ _) _) _⟩
 go_loopg [4, 5] K (fun kq v4 v5 wr => ∃ (d : Nat) (level : List S24) (out1 : List (S24 × Nat)) (D : DataW Unit), v5 = .int .i64 (d : Int) ∧ d + kq = K + 1 ∧ 1 ≤ d ∧ Aside0 (depF l0 kq d level out1 = some out) ∧ Aside0 (wr.ownsMap Tryz.prog 24 (plainElem Tryz.prog 3) w.heap.size out1.length D) ∧ Aside0 (FarM D out1) ∧ Aside0 (Kd.R k24 24 wr w.heap.size (fun j => j ≠ w.heap.size) v4 level) ∧ Aside0 (Below w.heap.size w wr) ∧ Aside0 (out1.length ≤ (d - 1) * l0.length) ∧ level.length ≤ 65537 ∧ w.heap.size + 1 ≤ wr.heap.size)
 case atStart => exact ⟨1, [z24], [], _, rfl, by omega, by omega, HOUT, HM0, ⟨farM_none⟩, HL0, HB0, ⟨Nat.zero_le _⟩, by simp, by simp⟩
 case round =>
  obtain ⟨d, level, out1, D, rfl, hdk, hd1, HF, HM, HD, HL, HB, HLO, hll, hws⟩ := hrel
  clear HL0 HM0 HB0
  cases gk with
  | zero => exact absurd HF.out (by simp [depF])
  | succ k1 =>
   have hF := HF.out
   simp only [depF] at hF
   obtain ⟨Ao, co, eo⟩ := Kd.R_slice HL.out
   subst eo
   by_cases hlev : level = []
   ·rw [if_pos hlev] at hF
    injection hF with hF
    subst hF
    subst hlev
    go_wp2
    go_ret
    exact ⟨_, _, D, rfl, Nat.le_refl _, HM.out, HD.out, HB.out⟩
   ·rw [if_neg hlev] at hF
    have hpos : 0 < level.length := List.length_pos_iff.2 hlev
    have hp1 : decide (((level.length : Nat) : Int) > 0) = true := decide_eq_true (by omega)
    have hp2 : decide ((0 : Int) < ((level.length : Nat) : Int)) = true := decide_eq_true (by omega)
    have HF1 := Aside0.mk hF
    clear hF HF hlev
    go_wp2_with fail
    go_loopw [6, 21] (fun v6 v21 wr => ∃ (i : Nat) (st : List (S24 × Nat) × List S24) (D : DataW Unit), i ≤ l0.length ∧ v21 = .int .i64 (i : Int) ∧ Aside0 (st = (l0.take i).foldl (stepF d level) (out1, [])) ∧ Aside0 (wr.ownsMap Tryz.prog 24 (plainElem Tryz.prog 3) w.heap.size st.1.length D) ∧ Aside0 (FarM D st.1) ∧ Aside0 (Kd.R k24 24 wr w.heap.size (fun j => j ≠ w.heap.size ∧ some j ≠ v6.ownBlock) (.slice Ao level.length co) level) ∧ Aside0 (Kd.R k24 24 wr w.heap.size (fun j => j ≠ w.heap.size ∧ some j ≠ (Value.slice Ao level.length co).ownBlock) v6 st.2) ∧ Aside0 (Below w.heap.size w wr) ∧ w.heap.size + 1 ≤ wr.heap.size) (fun _ v21 _ => l0.length - (RowKit.intOf v21).toNat)
    case atStart => exact ⟨0, (out1, []), D, Nat.zero_le _, rfl, ⟨rfl⟩, HM, HD, ⟨Kd.R_mono HL.out (fun j hj => ⟨hj, by simp [Value.ownBlock]⟩)⟩, ⟨Kd.R_nil _ _ _ _ _⟩, HB, hws⟩
    case round =>
     clear HM HD HL HB hws
     obtain ⟨i, st, D, hi, rfl, HST, HM, HD, HL, HO, HB, hws⟩ := hrel
     by_cases hil : i < l0.length
     ·have j1 : (i : Int) < (l0.length : Int) := by omega
      have hdi : decide ((i : Int) < (l0.length : Int)) = true := decide_eq_true j1
      obtain ⟨x, hx⟩ : ∃ x, x = l0[i] := ⟨_, rfl⟩
      have hmem : x ∈ l0 := by rw [hx]; exact List.getElem_mem hil
      obtain ⟨ad, e0, hx0, hx1, hx2, hx3⟩ := at_T49 HR0.out (i : Int) (by omega) (by omega)
      have hrd : rd_T49 l0 (i : Int) = x := by rw [hx]; simp [rd_T49, List.getD_eq_getElem?_getD, List.getElem?_eq_getElem hil]
      rw [hrd, Int.toNat_natCast] at hx0 hx1 hx2 hx3
      cases e0
      replace hx0 := (HB.out.cell (World.block_lt_of_cell? w _ hx0)).trans hx0
      replace hx1 := (HB.out.cell (World.block_lt_of_cell? w _ hx1)).trans hx1
      replace hx2 := (HB.out.cell (World.block_lt_of_cell? w _ hx2)).trans hx2
      replace hx3 := (HB.out.cell (World.block_lt_of_cell? w _ hx3)).trans hx3
      have hnx := HNS.out x hmem
      have hkey := keyOf_node x.f1 hnx.2.1 hnx.2.2
      have hfs := foldF_take l0 d level (out1, []) i hil
      have hlens := foldF_len (l0.take i) d level (out1, [])
      rw [← hx, ← HST.out] at hfs
      rw [← HST.out, List.length_take] at hlens
      have HFS := Aside0.mk hfs
      have HNX := Aside0.mk hnx
      have hn1 : st.1.length < maxLen := by
       have h5 := HLO.out
       have h6 : (d - 1) * l0.length ≤ 65540 * 65536 := Nat.mul_le_mul (by omega) hl0
       have h7 := hlens.2
       simp only [] at h7
       unfold maxLen
       omega
      have hn2 : st.2.length ≤ 65536 := by
       have h7 := hlens.1
       simp only [List.length_nil] at h7
       omega
      clear hx hrd hfs hmem hlens hnx
      have HM5 := Aside0.mk (HM.out.alloc (.cells #[.string x.f0.f0, .string x.f0.f1, .string x.f1.f0, .string x.f1.f1] 49 (0, 0)))
      have HB5 := Aside0.mk (below_alloc HB.out (.cells #[.string x.f0.f0, .string x.f0.f1, .string x.f1.f0, .string x.f1.f1] 49 (0, 0)))
      have HO5 := Aside0.mk (Kd.R_alloc HO.out (.cells #[.string x.f0.f0, .string x.f0.f1, .string x.f1.f0, .string x.f1.f1] 49 (0, 0)))
      have HL5 := Aside0.mk (Kd.R_alloc HL.out (.cells #[.string x.f0.f0, .string x.f0.f1, .string x.f1.f0, .string x.f1.f1] 49 (0, 0)))
      have n0 : (wr.alloc (.cells #[.string x.f0.f0, .string x.f0.f1, .string x.f1.f0, .string x.f1.f1] 49 (0, 0))).cell? ⟨wr.heap.size, 0, none⟩ = some (.string x.f0.f0) := by simp [go_sem]
      have n1 : (wr.alloc (.cells #[.string x.f0.f0, .string x.f0.f1, .string x.f1.f0, .string x.f1.f1] 49 (0, 0))).cell? ⟨wr.heap.size, 1, none⟩ = some (.string x.f0.f1) := by simp [go_sem]
      have n2 : (wr.alloc (.cells #[.string x.f0.f0, .string x.f0.f1, .string x.f1.f0, .string x.f1.f1] 49 (0, 0))).cell? ⟨wr.heap.size, 2, none⟩ = some (.string x.f1.f0) := by simp [go_sem]
      have n3 : (wr.alloc (.cells #[.string x.f0.f0, .string x.f0.f1, .string x.f1.f0, .string x.f1.f1] 49 (0, 0))).cell? ⟨wr.heap.size, 3, none⟩ = some (.string x.f1.f1) := by simp [go_sem]
      obtain ⟨bm, hbm⟩ : ∃ b, b = Maps.has D (nkey x.f1) := ⟨_, rfl⟩
      have HBM := Aside0.mk hbm
      clear hbm
      cases bm
      · -- a node that was not met
       have hnone : lookF st.1 x.f1 = none := by
        have h := HD.out.has x.f1 HNX.out.2
        rw [← HBM.out] at h
        cases h9 : lookF st.1 x.f1 with
        | none => rfl
        | some _ => rw [h9] at h; cases h
       have HNONE := Aside0.mk hnone
       clear hnone
       go_wp2_with (first
        | (at_lookup; refine wpList_lookup_own_ok_int _ rfl _ _ 52 rfl 24 3 .i64 law_node Tryz.underlying52 Tryz.underlying3 (zero_int _) w.heap.size _ D rfl HM5.out _ _ rfl hkey ?_; intro cq hat hwc; rw [← HBM.out]; clear hat hwc)
        | fail)
       obtain ⟨bc, hbc⟩ : ∃ b, b = decide (x.f0 ∈ level) := ⟨_, rfl⟩
       have hcv := conN_val level x.f0 (by omega) 65540 (by omega)
       rw [← hbc] at hcv
       have CC := fun (W : World) (h : Kd.C k24 W Ao level.length level) => api_Node_37.calls 65540 Ao co level x.f0.f0 x.f0.f1 bc W h (Kd.R_reads' HL.out).2.1 hcv
       have HBC := Aside0.mk hbc
       clear hbc hcv
       refine (CC _ (Kd.R_reads' HL5.out).2.2).mono ?_
       rintro e w5 ⟨rfl, hb5⟩
       have HM6 := Aside0.mk (HM5.out.kept (grown_of_below hb5 none) (by simp))
       have HB6 := Aside0.mk (below_step HB5.out hb5)
       have HO6 := Aside0.mk (Kd.R_below HO5.out hb5)
       have HL6 := Aside0.mk (Kd.R_below HL5.out hb5)
       have p2 := (hb5.cell (p := ⟨wr.heap.size, 2, none⟩) (by simp)).trans n2
       have p3 := (hb5.cell (p := ⟨wr.heap.size, 3, none⟩) (by simp)).trans n3
       have hz5 : wr.heap.size + 1 ≤ w5.heap.size := by have := hb5.size; simp at this; omega
       clear hb5 CC n0 n1 n2 n3
       cases bc
       · -- its parent isn't in the level
        have hst : st = (l0.take (i + 1)).foldl (stepF d level) (out1, []) := by
         rw [HFS.out]; unfold stepF; rw [if_neg (fun h => absurd h.2 (of_decide_eq_false HBC.out.symm))]
        have HST2 := Aside0.mk hst
        clear hst
        go_wp2
        go_roundw
        case rel => exact ⟨i + 1, st, D, by omega, by go_num, HST2, HM6, HD, HL6, HO6, HB6, by omega⟩
        case measure => simp [RowKit.intOf]; omega
       ·have hst : (st.1 ++ [(x.f1, d)], st.2 ++ [x.f1]) = (l0.take (i + 1)).foldl (stepF d level) (out1, []) := by
         rw [HFS.out]; unfold stepF; rw [if_pos ⟨by rw [HNONE.out]; rfl, of_decide_eq_true HBC.out.symm⟩]
        have HST2 := Aside0.mk hst
        have hwd : (Lit.int .i64 (d : Int)).wf = true := by simp [Lit.wf, IntKind.min, IntKind.max, IntKind.signed, IntKind.bits]; omega
        clear hst
        go_wp2_with (first
         | (at_mapUpdate; refine wpList_mapUpdate_own _ rfl _ _ _ 52 rfl 24 3 law_node Tryz.underlying52 (plainElem (H := Unit) Tryz.prog 3) w.heap.size _ D rfl HM6.out hn1 _ _ _ rfl rfl hkey _ [] (plainElem_int Tryz.underlying3 hwd) ?_; intro w8 hown8 hgrow8; have HM8 := Aside0.mk hown8; have HO8 := Aside0.mk (Kd.R_grown HO6.out hgrow8 (fun j hj => by simp; exact hj.1)); have HL8 := Aside0.mk (Kd.R_grown HL6.out hgrow8 (fun j hj => by simp; exact hj.1)); have HB8 := Aside0.mk (pw_below_grown HB6.out _ HB6.out.size hgrow8 (fun j hj => by cases hj; exact Nat.le_refl _)); have hz8 := hgrow8.size; have q2 := (cell_blk (a := ⟨wr.heap.size, 2, none⟩) (hgrow8.block wr.heap.size (by omega) (by simp; omega))).trans p2; have q3 := (cell_blk (a := ⟨wr.heap.size, 3, none⟩) (hgrow8.block wr.heap.size (by omega) (by simp; omega))).trans p3; clear hown8 hgrow8)
         | ((with_reducible refine gate_builtin (b := .append) (xs := #[.tmp 44, .tmp 47]) rfl ?_); at_builtin; refine Kd.R_append k24 (w0 := w) w.heap.size rfl (.tmp 44) (.tmp 47) 31 24 (.agg #[(.string ⟨#[]⟩), (.string ⟨#[]⟩)]) 32 rfl Tryz.underlying31 info24 rfl (by decide) (by omega) u6 st.2 x.f1 [.string x.f1.f0, .string x.f1.f1] (fun j => j ≠ w.heap.size ∧ some j ≠ (Value.slice Ao level.length co).ownBlock) (fun _ => False) rfl rfl ?aP (fun _ hk => hk.elim) ?aF ?aO ?aB ?aS ?aL ?_; (case aP => exact k24_mkM _ _ _ x.f1); (case aB => exact HB8.out); (case aF => exact (fun j hj => ⟨by omega, fun e => absurd (Kd.R_lt HL8.out j e.symm) (by omega)⟩)); (case aO => exact HO8.out); (case aS => exact HB8.out.size); (case aL => omega); intro v9 w9 ho9 hb9 hg9 hat9)
         | fail)
        have HO9 := Aside0.mk ho9
        have HB9 := Aside0.mk hb9
        have HM9 := Aside0.mk (HM8.out.kept hg9 (Kd.R_away HO8.out (fun j hj => hj.1)))
        have HL9 : Aside0 (Kd.R k24 24 w9 w.heap.size (fun j => j ≠ w.heap.size ∧ some j ≠ v9.ownBlock) (.slice Ao level.length co) level) := ⟨Kd.R_mono (Kd.R_grown (Kd.R_bound HL8.out) hg9 (fun j hj => hj.1.2)) (fun j hj => ⟨hj.1.1, fun e => by
         rcases hat9 with h | ⟨b, h, h2⟩
         ·exact hj.1.2 (by rw [← h]; exact e)
         ·rw [h] at e; injection e with e; have := hj.2.2.1; omega⟩)⟩
        have hz9 := hg9.size
        clear ho9 hb9 hg9 hat9
        go_roundw
        case rel => exact ⟨i + 1, (st.1 ++ [(x.f1, d)], st.2 ++ [x.f1]), _, by omega, by go_num, HST2, ⟨by rw [show (st.1 ++ [(x.f1, d)], st.2 ++ [x.f1]).1.length = st.1.length + 1 by simp]; exact HM9.out⟩, ⟨HD.out.put x.f1 HNX.out.2 d HNONE.out⟩, HL9, HO9, HB9, by omega⟩
        case measure => simp [RowKit.intOf]; omega
      · -- one that was met
       have hst : st = (l0.take (i + 1)).foldl (stepF d level) (out1, []) := by
        have h := HD.out.has x.f1 HNX.out.2
        rw [← HBM.out] at h
        rw [HFS.out]; unfold stepF
        rw [if_neg (fun h2 => by
         cases h9 : lookF st.1 x.f1 with
         | none => rw [h9] at h; cases h
         | some _ => rw [h9] at h2; cases h2.1)]
       have HST2 := Aside0.mk hst
       clear hst
       go_wp2_with (first
        | (at_lookup; refine wpList_lookup_own_ok_int _ rfl _ _ 52 rfl 24 3 .i64 law_node Tryz.underlying52 Tryz.underlying3 (zero_int _) w.heap.size _ D rfl HM5.out _ _ rfl hkey ?_; intro cq hat hwc; rw [← HBM.out]; clear hat hwc)
        | fail)
       go_roundw
       case rel => exact ⟨i + 1, st, D, by omega, by go_num, HST2, HM5, HD, HL5, HO5, HB5, by simp; omega⟩
       case measure => simp [RowKit.intOf]; omega
     ·obtain rfl : i = l0.length := by omega
      have hdi : decide ((l0.length : Int) < (l0.length : Int)) = false := decide_eq_false (by omega)
      have hst := HST.out
      rw [List.take_length] at hst
      have hF := HF1.out
      rw [show roundF l0 d level out1 = st from hst.symm] at hF
      have hlens := foldF_len l0 d level (out1, [])
      rw [← hst] at hlens
      have HF2 := Aside0.mk hF
      have HLEN := Aside0.mk hlens
      have hsl : st.2.length ≤ 65537 := by have h7 := hlens.1; simp only [List.length_nil] at h7; omega
      have hso : st.1.length ≤ d * l0.length := by
       have h7 := hlens.2
       have h8 := HLO.out
       simp only [] at h7
       have h9 : d * l0.length = (d - 1) * l0.length + l0.length := by rw [← Nat.succ_mul]; congr 1; omega
       omega
      have HSO := Aside0.mk hso
      clear hst hF hlens hso
      go_wp2
      go_roundg k1
      case measure => omega
      case rel => exact ⟨d + 1, st.2, st.1, D, by go_num, by omega, by omega, HF2, HM, HD, ⟨Kd.R_mono HO.out (fun j hj => hj.1)⟩, HB, ⟨by rw [Nat.add_sub_cancel]; exact HSO.out⟩, hsl, hws⟩
end Go.Proofs.YtodkjmbmlobihaaGreatDoor.Q
end
