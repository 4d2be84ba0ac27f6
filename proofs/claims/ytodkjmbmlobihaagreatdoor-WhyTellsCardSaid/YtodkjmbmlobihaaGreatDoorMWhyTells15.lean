/- Part 15 of this claim: several texts one behind the other: EvWc, EvWd, EvWe, EvWf. What each shows stands in its theorems; conditions: sizes of texts and lists, as the functions' definitions say. -/
import Derived.Test.YtodkjmbmlobihaaGreatDoorMWhyTells14
import Derived.Test.YtodkjmbmlobihaaGreatDoorMWhyTells5
section
namespace Go.Proofs.YtodkjmbmlobihaaGreatDoor.Q
open Go.Proofs.YtodkjmbmlobihaaGreatDoor.QB.D
open Go Go.RowKit Go.Lib Go.Proofs.YtodkjmbmlobihaaGreatDoorW.PrintWords Go.Ev Gw
set_option linter.unusedVariables false
set_option maxRecDepth 100000
def nextF (l : List Ne) (at_ met : List Nd) (i : Nat) : List Nd := rsetN (((l.take i).filter fun e => decide (e.f0 ∈ at_) && !decide (e.f1 ∈ met)).map (·.f1))
theorem rset_snoc (L : List Nd) (x : Nd) : rsetN (L ++ [x]) = rwithN (rsetN L) x := by
 unfold rsetN
 rw [List.foldl_append]; rfl
theorem next_yes (l : List Ne) (at_ met : List Nd) (i : Nat) (h : i < l.length) (h1 : l[i].f0 ∈ at_) (h2 : l[i].f1 ∉ met) : nextF l at_ met (i + 1) = rwithN (nextF l at_ met i) l[i].f1 := by
 unfold nextF
 rw [List.take_succ_eq_append_getElem h, List.filter_append, List.filter_cons_of_pos (by rw [decide_eq_true h1, decide_eq_false h2]; rfl), List.map_append]
 exact rset_snoc _ _
theorem next_no (l : List Ne) (at_ met : List Nd) (i : Nat) (h : i < l.length) (h1 : (decide (l[i].f0 ∈ at_) && !decide (l[i].f1 ∈ met)) = false) : nextF l at_ met (i + 1) = nextF l at_ met i := by
 unfold nextF
 rw [List.take_succ_eq_append_getElem h, List.filter_append, List.filter_cons_of_neg (by rw [h1]; decide), List.filter_nil, List.append_nil]
theorem next_facts {l : List Ne} (h : OkL l) (at_ met : List Nd) (i : Nat) : (∀ x ∈ nextF l at_ met i, Brief x ∧ mayN x = true) ∧ IsSet (nextF l at_ met i) ∧ (nextF l at_ met i).length ≤ 30 ∧ ∀ y, y ∈ nextF l at_ met i ↔ ∃ e ∈ l.take i, e.f1 = y ∧ e.f0 ∈ at_ ∧ y ∉ met := by
 have hm : ∀ y, y ∈ ((l.take i).filter fun e => decide (e.f0 ∈ at_) && !decide (e.f1 ∈ met)).map (·.f1) ↔ ∃ e ∈ l.take i, e.f1 = y ∧ e.f0 ∈ at_ ∧ y ∉ met := fun y => by
  rw [List.mem_map]
  constructor
  ·rintro ⟨e, he, rfl⟩
   obtain ⟨h1, h2⟩ := List.mem_filter.1 he
   rw [Bool.and_eq_true, decide_eq_true_eq, Bool.not_eq_true', decide_eq_false_iff_not] at h2
   exact ⟨e, h1, rfl, h2⟩
  ·rintro ⟨e, he, rfl, h2⟩
   exact ⟨e, List.mem_filter.2 ⟨he, by rw [Bool.and_eq_true, decide_eq_true_eq, Bool.not_eq_true', decide_eq_false_iff_not]; exact h2⟩, rfl⟩
 have hb : ∀ y ∈ ((l.take i).filter fun e => decide (e.f0 ∈ at_) && !decide (e.f1 ∈ met)).map (·.f1), Brief y ∧ mayN y = true := fun y hy => by
  obtain ⟨e, he, rfl, _⟩ := (hm y).1 hy
  have he := List.mem_of_mem_take he
  exact ⟨(h.b e he).2, (ok_each h.ok he).1⟩
 have f := rsetN_facts _ (fun y hy => (hb y hy).1.tiny) (fun y hy => (hb y hy).2) [] IsSet.nil
 have hmem : ∀ y, y ∈ nextF l at_ met i ↔ ∃ e ∈ l.take i, e.f1 = y ∧ e.f0 ∈ at_ ∧ y ∉ met := fun y => by
  refine (f.2 y).trans ?_
  rw [hm]
  exact ⟨fun h => h.elim (fun h => by cases h) id, Or.inr⟩
 have hset : IsSet (nextF l at_ met i) := f.1
 refine ⟨fun x hx => ?_, hset, ?_, hmem⟩
 ·exact hb x ((hm x).2 ((hmem x).1 hx))
 ·have h1 := sub_lenD (m := l.map (·.f1)) hset.nodup fun x hx => by
   obtain ⟨e, he, h2, _⟩ := (hmem x).1 hx
   exact List.mem_map.2 ⟨e, List.mem_of_mem_take he, h2⟩
  rw [List.length_map] at h1
  exact Nat.le_trans h1 h.n
noncomputable def atF (l : List Ne) (d : Nat) : List Nd := if d = 0 then [z24] else lev l d
theorem mem_at {l : List Ne} (h : OkL l) (d : Nat) (x : Nd) : x ∈ atF l d ↔ DistF l d x := by
 unfold atF
 cases d with
 | zero =>
  rw [if_pos rfl, List.mem_singleton]
  exact ⟨fun h => ⟨h, fun n hn => by omega⟩, fun h => h.1⟩
 | succ d => rw [if_neg (by omega), mem_lev h]
theorem next_lev {l : List Ne} (h : OkL l) (d : Nat) : nextF l (atF l d) (levs l d).flatten l.length = lev l (d + 1) := by
 have f := next_facts h (atF l d) (levs l d).flatten l.length
 refine f.2.1.ext (lev_set h _) fun y => ?_
 rw [f.2.2.2, List.take_length, mem_lev h, next_dist h d _ _ (mem_at h d) (fun x => flat_levs h d x)]
theorem levK_ex {l : List Ne} (h : OkL l) : ∃ K, LevK l K := by
 have step : ∀ n, (∀ j, j < n → lev l (j + 1) ≠ []) ∨ ∃ K, LevK l K := by
  intro n
  induction n with
  | zero => exact Or.inl fun j hj => absurd hj (Nat.not_lt_zero _)
  | succ n ih =>
   rcases ih with ih | ih
   ·by_cases e : lev l (n + 1) = []
    ·refine Or.inr ⟨n, ih, e, ?_⟩
     cases n with
     | zero => decide
     | succ n => exact lev_le h (ih n (Nat.lt_succ_self n))
    ·refine Or.inl fun j hj => ?_
     by_cases hjn : j < n
     ·exact ih j hjn
     ·obtain rfl : j = n := by omega
      exact e
   ·exact Or.inr ih
 rcases step 34 with h1 | h1
 ·have := lev_le h (h1 33 (by decide))
  omega
 ·exact h1
theorem levK_uniq {l : List Ne} {K K' : Nat} (h : LevK l K) (h' : LevK l K') : K = K' := by
 rcases Nat.lt_trichotomy K K' with e | e | e
 ·exact absurd h.none (h'.some K e)
 ·exact e
 ·exact absurd h'.none (h.some K' e)
structure LvI (l : List Ne) (x : Nat × Nat) : Prop where
 some : ∀ j, j < x.2 → lev l (j + 1) ≠ []
 at_ : x.2 = x.1 ∨ (x.2 + 1 = x.1 ∧ lev l x.1 = [])
 le : x.1 ≤ 34
theorem levels_pc (l : List Ne) (h : OkL l) : ∃ K, LevK l K ∧ PC 14 [.sl 0 4 (l.map evQ)] (.sl 3 1 ((levs l K).map evR)) := by
 obtain ⟨K, hK⟩ := levK_ex h
 refine ⟨K, hK, ?_⟩
 have hl := h.n
 refine pc_of tt_ok tt_follows Tryz.func14 rfl (by kernel_rfl) (by kernel_rfl) (Nat.le_of_ble_eq_true rfl) rfl ?_
 conv => whnf
 refine ⟨Nat × Nat, LvI l, fun x => [(9, .sl 65 1 ((levs l x.2).map evR)), (12, .sl 58 2 ((levs l x.1).flatten.map evN)), (15, .sl 0 2 ((atF l x.1).map evN)), (170, .fr ((levs l x.1).flatten.map evN).length 2), (191, .fr ((levs l x.2).map evR).length 1)], [0, 6], fun x => 40 - x.1, (0, 0), ⟨fun j hj => absurd hj (Nat.not_lt_zero _), Or.inl rfl, by decide⟩, ?_, fun x hx => ?_⟩
 ·refine ⟨⟨⟨rfl, Or.inr rfl, Or.inr (Or.inr rfl)⟩, Nat.le_refl _, ⟨rfl, Or.inr rfl, Or.inr (Or.inr rfl)⟩, Nat.le_refl _, ⟨rfl, Or.inl rfl, Or.inl rfl⟩, trivial, Or.inl rfl, trivial, Or.inl rfl, trivial, trivial⟩, ?_⟩
  repeat' (first | exact trivial | refine ⟨?_, ?_⟩ | (((conv => lhs; whnf) <;> (try (conv => rhs; whnf))) <;> exact rfl))
 obtain ⟨d, K'⟩ := x
 have hd34 : d ≤ 34 := hx.le
 have hset := flat_len h d
 have hml : (levs l d).flatten.length ≤ 1020 := Nat.le_trans hset (Nat.mul_le_mul_right 30 hd34)
 have hMn : ((levs l d).flatten.map evN).length = (levs l d).flatten.length := List.length_map ..
 have hLn : ((levs l K').map evR).length = K' := by rw [List.length_map, levs_len]
 have hal : (atF l d).length ≤ 30 := by
  unfold atF
  split
  ·decide
  ·exact setP_len h _
 have hAn : ((atF l d).map evN).length = (atF l d).length := List.length_map ..
 have hKd : K' ≤ d := by rcases hx.at_ with e | ⟨e, _⟩ <;> (simp only at e; omega)
 conv => whnf
 constructor
 ·intro hh
  have hne : atF l d ≠ [] := fun e => by
   rw [e] at hh
   cases hh
  have hKe : K' = d := by
   rcases hx.at_ with e | ⟨e, e2⟩
   ·exact e
   ·exfalso
    simp only at e e2
    unfold atF at hne
    rw [if_neg (by omega)] at hne
    exact hne e2
  subst hKe
  conv => whnf
  refine ⟨Nat, fun i => i ≤ l.length, fun i => [(18, .sl 0 2 ((nextF l (atF l K') (levs l K').flatten i).map evN)), (21, .s (.int .i64 i))], [0, 6, 9, 12, 15, 170, 191], fun i => l.length - i, 0, Nat.zero_le _, ?_, fun i hi => ?_⟩
  ·refine ⟨⟨⟨rfl, Or.inr rfl, Or.inl rfl⟩, trivial, rfl, trivial, trivial⟩, ?_⟩
   repeat' (first | exact trivial | refine ⟨?_, ?_⟩ | (((conv => lhs; whnf) <;> (try (conv => rhs; whnf))) <;> exact rfl))
   all_goals
    (conv => whnf)
    exact Nat.le_refl _
  conv => whnf
  constructor
  ·intro hh
   have hil := ltm hh
   have f := next_facts h (atF l K') (levs l K').flatten i
   have wA := has5_pc (atF l K') l[i].f0 (by omega)
   have wM := has5_pc (levs l K').flatten l[i].f1 (by omega)
   have hem := List.getElem_mem hil
   have wW := rwith_pc (nextF l (atF l K') (levs l K').flatten i) l[i].f1 (Nat.le_trans f.2.2.1 (by decide)) f.1 ⟨(h.b _ hem).2, (ok_each h.ok hem).1⟩
   conv => whnf
   refine ⟨_, idx_map evQ l i hil, ?_⟩
   conv => whnf
   refine ⟨_, wA, ?_⟩
   conv => whnf
   constructor
   ·intro hq
    have hq := any_inN.1 hq
    conv => whnf
    refine ⟨_, idx_map evQ l i hil, ?_⟩
    conv => whnf
    refine ⟨_, wM, ?_⟩
    conv => whnf
    constructor
    ·intro hp
     have hp : ((levs l K').flatten.any fun x => eqN x l[i].f1) = false := Eq.mp (Bool.not_eq_true' _) hp
     have hp := any_outN.1 hp
     have hst := next_yes l (atF l K') (levs l K').flatten i hil hq hp
     conv => whnf
     refine ⟨_, idx_map evQ l i hil, ?_⟩
     conv => whnf
     refine ⟨_, wW, ?_⟩
     conv => whnf
     refine ⟨i + 1, hil, less1 hil, ⟨⟨⟨by rw [hst], Or.inl rfl, Or.inl rfl⟩, trivial, incI hil (by omega), trivial, trivial⟩, ?_⟩⟩
     repeat' (first | exact trivial | refine ⟨?_, ?_⟩ | (((conv => lhs; whnf) <;> (try (conv => rhs; whnf))) <;> exact rfl))
     all_goals
      (conv => whnf)
      exact Nat.le_refl _
    ·intro hp
     have hp : ((levs l K').flatten.any fun x => eqN x l[i].f1) = true := by simpa using hp
     have hp := any_inN.1 hp
     have hst := next_no l (atF l K') (levs l K').flatten i hil (by rw [decide_eq_true hp]; simp)
     conv => whnf
     refine ⟨i + 1, hil, less1 hil, ⟨⟨⟨by rw [hst], Or.inl rfl, Or.inl rfl⟩, trivial, incI hil (by omega), trivial, trivial⟩, ?_⟩⟩
     repeat' (first | exact trivial | refine ⟨?_, ?_⟩ | (((conv => lhs; whnf) <;> (try (conv => rhs; whnf))) <;> exact rfl))
     all_goals
      (conv => whnf)
      exact Nat.le_refl _
   ·intro hq
    have hq := any_outN.1 hq
    have hst := next_no l (atF l K') (levs l K').flatten i hil (by rw [decide_eq_false hq]; rfl)
    conv => whnf
    refine ⟨i + 1, hil, less1 hil, ⟨⟨⟨by rw [hst], Or.inl rfl, Or.inl rfl⟩, trivial, incI hil (by omega), trivial, trivial⟩, ?_⟩⟩
    repeat' (first | exact trivial | refine ⟨?_, ?_⟩ | (((conv => lhs; whnf) <;> (try (conv => rhs; whnf))) <;> exact rfl))
    all_goals
     (conv => whnf)
     exact Nat.le_refl _
  ·intro hh
   have hil := gem hh hi
   subst hil
   have hnx := next_lev h K'
   have hvl : (lev l (K' + 1)).length ≤ 30 := setP_len h _
   conv => whnf
   refine ⟨Nat, fun i => i ≤ (lev l (K' + 1)).length, fun i => [(12, .sl 58 2 (((levs l K').flatten ++ (lev l (K' + 1)).take i).map evN)), (24, .s (.int .i64 i)), (170, .fr (((levs l K').flatten ++ (lev l (K' + 1)).take i).map evN).length 2), (18, .sl 0 2 ((lev l (K' + 1)).map evN))], [0, 6, 9, 191], fun i => (lev l (K' + 1)).length - i, 0, Nat.zero_le _, ?_, fun i hi => ?_⟩
   ·have e0 : (levs l K').flatten.map evN = ((levs l K').flatten ++ (lev l (K' + 1)).take 0).map evN := by rw [List.take_zero, List.append_nil]
    refine ⟨⟨⟨e0, Or.inl rfl, Or.inr (Or.inl rfl)⟩, Nat.le_refl _, rfl, trivial, Or.inr (congrArg (fun l => PV.fr (List.length l) 2) e0), trivial, ⟨by rw [hnx], Or.inl rfl, Or.inl rfl⟩, trivial, trivial⟩, ?_⟩
    repeat' (first | exact trivial | refine ⟨?_, ?_⟩ | (((conv => lhs; whnf) <;> (try (conv => rhs; whnf))) <;> exact rfl))
    all_goals
     (conv => whnf)
     exact Nat.le_refl _
   conv => whnf
   constructor
   ·intro hh
    have hil := ltm hh
    have e1 : ((levs l K').flatten ++ (lev l (K' + 1)).take i).map evN ++ [evN (lev l (K' + 1))[i]] = ((levs l K').flatten ++ (lev l (K' + 1)).take (i + 1)).map evN := by
     rw [List.take_succ_eq_append_getElem hil, ← List.append_assoc, List.map_append (l₂ := [(lev l (K' + 1))[i]])]; rfl
    conv => whnf
    refine ⟨_, idx_map evN (lev l (K' + 1)) i hil, ?_⟩
    conv => whnf
    refine ⟨by show (((levs l K').flatten ++ (lev l (K' + 1)).take i).map evN).length + 1 ≤ 9223372036854775807 ∧ ((((levs l K').flatten ++ (lev l (K' + 1)).take i).map evN).length + 1) * 32 ≤ 140737488355328; rw [List.length_map, List.length_append, List.length_take]; omega, rfl, ?_⟩
    conv => whnf
    refine ⟨i + 1, hil, less1 hil, ⟨⟨⟨e1, Or.inl rfl, Or.inr (Or.inl rfl)⟩, Nat.le_refl _, incI hil (by omega), trivial, Or.inr (congrArg (fun l => PV.fr (List.length l) 2) e1), trivial, ⟨rfl, Or.inl rfl, Or.inl rfl⟩, trivial, trivial⟩, ?_⟩⟩
    repeat' (first | exact trivial | refine ⟨?_, ?_⟩ | (((conv => lhs; whnf) <;> (try (conv => rhs; whnf))) <;> exact rfl))
    all_goals
     (conv => whnf)
     exact Nat.le_refl _
   ·intro hh
    have hil := gem hh hi
    subst hil
    have e2 : ((levs l K').flatten ++ (lev l (K' + 1)).take (lev l (K' + 1)).length).map evN = (levs l (K' + 1)).flatten.map evN := by rw [List.take_length, levs_succ, List.flatten_append]; simp
    have e3 : (lev l (K' + 1)).map evN = (atF l (K' + 1)).map evN := by unfold atF; rw [if_neg (by omega)]
    conv => whnf
    constructor
    ·intro hh
     have hV : lev l (K' + 1) ≠ [] := fun e => by
      rw [e] at hh
      cases hh
     have hle := lev_le h hV
     have e4 : (levs l K').map evR ++ [evR (lev l (K' + 1))] = (levs l (K' + 1)).map evR := by rw [levs_succ, List.map_append]; rfl
     conv => whnf
     refine ⟨by show ((levs l K').map evR).length + 1 ≤ 9223372036854775807 ∧ (((levs l K').map evR).length + 1) * 24 ≤ 140737488355328; rw [hLn]; omega, rfl, ?_⟩
     conv => whnf
     refine ⟨(K' + 1, K' + 1), ⟨fun j hj => ?_, Or.inl rfl, by show K' + 1 ≤ 34; omega⟩, by show 40 - (K' + 1) < 40 - K'; omega, ⟨⟨⟨e4, Or.inl rfl, Or.inr (Or.inl rfl)⟩, Nat.le_refl _, ⟨e2, Or.inl rfl, Or.inr (Or.inl rfl)⟩, Nat.le_refl _, ⟨e3, Or.inl rfl, Or.inl rfl⟩, trivial, Or.inr (congrArg (fun l => PV.fr (List.length l) 2) e2), trivial, Or.inr (congrArg (fun l => PV.fr (List.length l) 1) e4), trivial, trivial⟩, ?_⟩⟩
     ·by_cases hjn : j < K'
      ·exact hx.some j hjn
      ·obtain rfl : j = K' := by have : j < K' + 1 := hj; omega
       exact hV
     ·repeat' (first | exact trivial | refine ⟨?_, ?_⟩ | (((conv => lhs; whnf) <;> (try (conv => rhs; whnf))) <;> exact rfl))
    ·intro hh
     have hV : lev l (K' + 1) = [] := by
      have : ¬ ((((lev l (K' + 1)).map evN).length : Nat) : Int) > 0 := of_decide_eq_false hh
      rw [List.length_map] at this
      exact List.eq_nil_of_length_eq_zero (by omega)
     have hle : K' ≤ 33 := by
      cases K' with
      | zero => decide
      | succ k => exact lev_le h (hx.some k (Nat.lt_succ_self k))
     conv => whnf
     refine ⟨(K' + 1, K'), ⟨hx.some, Or.inr ⟨rfl, hV⟩, by show K' + 1 ≤ 34; omega⟩, by show 40 - (K' + 1) < 40 - K'; omega, ⟨⟨⟨rfl, Or.inl rfl, Or.inr (Or.inl rfl)⟩, Nat.le_refl _, ⟨e2, Or.inl rfl, Or.inr (Or.inl rfl)⟩, Nat.le_refl _, ⟨e3, Or.inl rfl, Or.inl rfl⟩, trivial, Or.inr (congrArg (fun l => PV.fr (List.length l) 2) e2), trivial, Or.inr rfl, trivial, trivial⟩, ?_⟩⟩
     repeat' (first | exact trivial | refine ⟨?_, ?_⟩ | (((conv => lhs; whnf) <;> (try (conv => rhs; whnf))) <;> exact rfl))
 ·intro hh
  have hnil : atF l d = [] := by
   have : ¬ ((((atF l d).map evN).length : Nat) : Int) > 0 := of_decide_eq_false hh
   rw [hAn] at this
   exact List.eq_nil_of_length_eq_zero (by omega)
  have hd0 : d ≠ 0 := fun e => by
   subst e
   unfold atF at hnil
   rw [if_pos rfl] at hnil
   cases hnil
  have hlv : lev l d = [] := by
   unfold atF at hnil
   rwa [if_neg hd0] at hnil
  have hKe : K' + 1 = d := by
   rcases hx.at_ with e | ⟨e, _⟩
   ·exfalso
    have e : K' = d := e
    have := hx.some (K' - 1) (by show K' - 1 < K'; omega)
    rw [show K' - 1 + 1 = d by omega] at this
    exact this hlv
   ·exact e
  have : LevK l K' := ⟨hx.some, by rw [hKe]; exact hlv, by omega⟩
  obtain rfl := levK_uniq hK this
  conv => whnf
  exact ⟨rfl, Or.inl rfl, Or.inr rfl⟩
theorem chain19_pc (l : List Ne) (h : OkL l) (K : Nat) (hK : LevK l K) (out : List (Nd × Nat)) (ho : ∀ y n, lookF out y = some n ↔ 1 ≤ n ∧ DistF l n y) :
 ∀ (d : Nat) (n : Nd) (c : List Nd), DistF l (d + 1) n → chainF l out d n = some c → PC 17 [.sl 0 4 (l.map evQ), .sl 0 1 ((levs l K).map evR), evN n] (.sl 4 2 (c.map evN)) := by
 intro d
 induction d with
 | zero =>
  intro n c hd hc
  have wD := depth_pc l h K hK out ho n
  rw [dp_at ho hd] at wD
  have hc : some [n] = some c := hc
  obtain rfl := Option.some.inj hc
  refine pc_of tt_ok tt_follows Tryz.func17 rfl (by kernel_rfl) (by kernel_rfl) (Nat.le_of_ble_eq_true rfl) rfl ?_
  conv => whnf
  refine ⟨_, wD, ?_⟩
  conv => whnf
  refine ⟨fun _ => ?_, (fun h => by cases h)⟩
  conv => whnf
  exact ⟨rfl, Or.inl rfl, Or.inl rfl⟩
 | succ d ih =>
  intro n c hd hc
  have wD := depth_pc l h K hK out ho n
  rw [dp_at ho hd] at wD
  have hdK := hK.far h hd
  have hk33 := hK.le
  have hll : d < (levs l K).length := by rw [levs_len]; omega
  have hlv := levs_get l K d hll
  have hvl : (lev l (d + 1)).length ≤ 30 := setP_len h _
  have hw : IntKind.i64.wrap (((d + 1 + 1 : Nat) : Int) - 2) = ((d : Nat) : Int) := by rw [IntKind.wrap_i64]; omega
  unfold chainF at hc
  split at hc
  case isFalse => cases hc
  case isTrue hcc =>
  obtain ⟨c', hc', rfl⟩ := Option.map_eq_some_iff.1 hc
  refine pc_of tt_ok tt_follows Tryz.func17 rfl (by kernel_rfl) (by kernel_rfl) (Nat.le_of_ble_eq_true rfl) rfl ?_
  conv => whnf
  refine ⟨_, wD, ?_⟩
  conv => whnf
  refine ⟨(fun h => by have : (((d + 1 + 1 : Nat) : Int)) ≤ 1 := of_decide_eq_true h; omega), fun _ => ?_⟩
  conv => whnf
  refine ⟨_, idx_mapI evR (levs l K) d hw hll, ?_⟩
  rw [hlv]
  conv => whnf
  refine ⟨Nat, fun i => i ≤ (lev l (d + 1)).length ∧ ∀ s (hs : s < (lev l (d + 1)).length), s < i → ¬ ∃ e ∈ l, e.f0 = (lev l (d + 1))[s] ∧ e.f1 = n, fun i => [(27, .s (.int .i64 i))], [0, 3, 15, 16, 24], fun i => (lev l (d + 1)).length - i, 0, ⟨Nat.zero_le _, fun j _ h => absurd h (Nat.not_lt_zero _)⟩, ?_, fun i hi => ?_⟩
  ·refine ⟨⟨rfl, trivial, trivial⟩, ?_⟩
   repeat' (first | exact trivial | refine ⟨?_, ?_⟩ | (((conv => lhs; whnf) <;> (try (conv => rhs; whnf))) <;> exact rfl))
  obtain ⟨h1, h2⟩ := hi
  conv => whnf
  constructor
  ·intro hh
   have hil := ltm hh
   have wH := has19_pc l (lev l (d + 1))[i] n (Nat.le_trans h.n (by decide))
   conv => whnf
   refine ⟨_, idx_map evN (lev l (d + 1)) i hil, ?_⟩
   conv => whnf
   refine ⟨_, wH, ?_⟩
   conv => whnf
   refine ⟨by kernel_rfl, ?_⟩
   conv => whnf
   constructor
   ·intro hq
    have hq := hasE_iff.1 hq
    have hp := first_par h ho hil hq h2
    have hdi := (mem_lev h d _).1 (List.getElem_mem hil)
    rw [← hp] at hc'
    have wI := ih _ c' hdi hc'
    have hcl : c'.length = d + 1 := by
     obtain ⟨c2, g1, g2, _⟩ := chainF_spec h.ok ho d _ hdi
     rw [hc'] at g1
     injection g1 with g1
     rw [g1]; exact g2
    conv => whnf
    refine ⟨_, idx_map evN (lev l (d + 1)) i hil, ?_⟩
    conv => whnf
    refine ⟨_, wI, ?_⟩
    conv => whnf
    refine ⟨by show (c'.map evN).length + 1 ≤ 9223372036854775807 ∧ ((c'.map evN).length + 1) * 32 ≤ 140737488355328; rw [List.length_map]; omega, rfl, ?_⟩
    conv => whnf
    refine ⟨by kernel_rfl, ?_⟩
    conv => whnf
    exact ⟨by rw [List.map_append]; rfl, Or.inl rfl, Or.inr rfl⟩
   ·intro hq
    have hq : ¬ ∃ e ∈ l, e.f0 = (lev l (d + 1))[i] ∧ e.f1 = n := fun hx => by rw [hasE_iff.2 hx] at hq; cases hq
    conv => whnf
    refine ⟨i + 1, ⟨hil, fun s hs g => ?_⟩, less1 hil, ⟨⟨incI hil (by omega), trivial, trivial⟩, ?_⟩⟩
    ·by_cases hsi : s < i
     ·exact h2 s hs hsi
     ·obtain rfl : s = i := by omega
      exact hq
    ·repeat' (first | exact trivial | refine ⟨?_, ?_⟩ | (((conv => lhs; whnf) <;> (try (conv => rhs; whnf))) <;> exact rfl))
  ·intro hh
   have hil := gem hh h1
   obtain ⟨t, ht, hx⟩ := par_ex h hd
   exact absurd hx (h2 t ht (by omega))
theorem depths19_pc (l : List Ne) (h : OkL l) (out : List (Nd × Nat)) (ho : ∀ y n, lookF out y = some n ↔ 1 ≤ n ∧ DistF l n y) : PC 12 [.sl 0 4 (l.map evQ)] (.sl 5 3 ((deepsF out (reachS l)).map evD)) := by
 obtain ⟨K, hK, wL⟩ := levels_pc l h
 have wD := fun n => depth_pc l h K hK out ho n
 have hk33 := hK.le
 have hKl := levs_len l K
 have hfl : ∀ i, i ≤ K → (levs l i).flatten.length ≤ 990 := fun i hi => Nat.le_trans (flat_len h i) (Nat.le_trans (Nat.mul_le_mul_right 30 (Nat.le_trans hi hk33)) (by decide))
 have hmay : ∀ y ∈ (levs l K).flatten, Brief y ∧ mayN y = true := fun y hy => by
  obtain ⟨j, _, hd⟩ := (flat_levs h K y).1 hy
  exact ⟨setP_brief h _ y ((mem_lev h j y).2 hd), dist_may h.ok hd⟩
 have wS := set5_pc (levs l K).flatten (Nat.le_trans (hfl K (Nat.le_refl _)) (by decide)) (fun y hy => (hmay y hy).1) (fun y hy => (hmay y hy).2)
 rw [flat_set h hK] at wS
 have hR : (reachS l).length ≤ 30 := setP_len h _
 refine pc_of tt_ok tt_follows Tryz.func12 rfl (by kernel_rfl) (by kernel_rfl) (Nat.le_of_ble_eq_true rfl) rfl ?_
 conv => whnf
 refine ⟨_, wL, ?_⟩
 conv => whnf
 refine ⟨Nat, fun i => i ≤ (levs l K).length, fun i => [(12, .sl 23 2 ((levs l i).flatten.map evN)), (15, .s (.int .i64 i)), (65, .fr ((levs l i).flatten.map evN).length 2)], [9, 29], fun i => (levs l K).length - i, 0, Nat.zero_le _, ?_, fun i hi => ?_⟩
 ·refine ⟨⟨⟨rfl, Or.inr rfl, Or.inr (Or.inr rfl)⟩, Nat.le_refl _, rfl, trivial, Or.inl rfl, trivial, trivial⟩, ?_⟩
  repeat' (first | exact trivial | refine ⟨?_, ?_⟩ | (((conv => lhs; whnf) <;> (try (conv => rhs; whnf))) <;> exact rfl))
  all_goals
   (conv => whnf)
   exact Nat.le_refl _
 conv => whnf
 constructor
 ·intro hh
  have hil := ltm hh
  have hg := levs_get l K i hil
  have hb1 := hfl (i + 1) (by omega)
  have e1 : (levs l i).flatten.map evN ++ (lev l (i + 1)).map evN = (levs l (i + 1)).flatten.map evN := by rw [levs_succ, List.flatten_append, List.map_append]; simp
  have hb2 := congrArg List.length e1
  rw [List.length_append, List.length_map, List.length_map, List.length_map] at hb2
  conv => whnf
  refine ⟨_, idx_map evR (levs l K) i hil, ?_⟩
  rw [hg]
  conv => whnf
  refine ⟨by show ((levs l i).flatten.map evN).length + ((lev l (i + 1)).map evN).length ≤ 9223372036854775807 ∧ (((levs l i).flatten.map evN).length + ((lev l (i + 1)).map evN).length) * 32 ≤ 140737488355328; rw [List.length_map, List.length_map]; omega, rfl, ?_⟩
  conv => whnf
  refine ⟨i + 1, hil, less1 hil, ⟨⟨⟨e1, Or.inl rfl, Or.inr (Or.inl rfl)⟩, Nat.le_refl _, incI hil (by omega), trivial, Or.inr (congrArg (fun l => PV.fr (List.length l) 2) e1), trivial, trivial⟩, ?_⟩⟩
  repeat' (first | exact trivial | refine ⟨?_, ?_⟩ | (((conv => lhs; whnf) <;> (try (conv => rhs; whnf))) <;> exact rfl))
  all_goals
   (conv => whnf)
   exact Nat.le_refl _
 ·intro hh
  have hil := gem hh hi
  rw [hKl] at hil
  subst hil
  conv => whnf
  refine ⟨_, wS, ?_⟩
  conv => whnf
  refine ⟨Nat, fun i => i ≤ (reachS l).length, fun i => [(18, .sl 45 3 ((deepsF out ((reachS l).take i)).map evD)), (21, .s (.int .i64 i)), (131, .fr ((deepsF out ((reachS l).take i)).map evD).length 3)], [9, 12, 29], fun i => (reachS l).length - i, 0, Nat.zero_le _, ?_, fun i hi => ?_⟩
  ·refine ⟨⟨⟨rfl, Or.inr rfl, Or.inr (Or.inr rfl)⟩, Nat.le_refl _, rfl, trivial, Or.inl rfl, trivial, trivial⟩, ?_⟩
   repeat' (first | exact trivial | refine ⟨?_, ?_⟩ | (((conv => lhs; whnf) <;> (try (conv => rhs; whnf))) <;> exact rfl))
   all_goals
    (conv => whnf)
    exact Nat.le_refl _
  conv => whnf
  constructor
  ·intro hh
   have hil := ltm hh
   have e1 : (deepsF out ((reachS l).take i)).map evD ++ [evD ⟨(reachS l)[i], dpF out (reachS l)[i]⟩] = (deepsF out ((reachS l).take (i + 1))).map evD := by unfold deepsF; rw [List.take_succ_eq_append_getElem hil, List.map_append, List.map_append]; rfl
   conv => whnf
   refine ⟨_, idx_map evN (reachS l) i hil, ?_⟩
   conv => whnf
   refine ⟨_, idx_map evN (reachS l) i hil, ?_⟩
   conv => whnf
   refine ⟨_, wD (reachS l)[i], ?_⟩
   conv => whnf
   refine ⟨by show ((deepsF out ((reachS l).take i)).map evD).length + 1 ≤ 9223372036854775807 ∧ (((deepsF out ((reachS l).take i)).map evD).length + 1) * 40 ≤ 140737488355328; unfold deepsF; rw [List.length_map, List.length_map, List.length_take]; omega, rfl, ?_⟩
   conv => whnf
   refine ⟨by kernel_rfl, ?_⟩
   conv => whnf
   refine ⟨i + 1, hil, less1 hil, ⟨⟨⟨e1, Or.inl rfl, Or.inr (Or.inl rfl)⟩, Nat.le_refl _, incI hil (by omega), trivial, Or.inr (congrArg (fun l => PV.fr (List.length l) 3) e1), trivial, trivial⟩, ?_⟩⟩
   repeat' (first | exact trivial | refine ⟨?_, ?_⟩ | (((conv => lhs; whnf) <;> (try (conv => rhs; whnf))) <;> exact rfl))
   all_goals
    (conv => whnf)
    exact Nat.le_refl _
  ·intro hh
   have hil := gem hh hi
   subst hil
   conv => whnf
   exact ⟨by rw [List.take_length], Or.inl rfl, Or.inr rfl⟩
def awN (c : UInt8) : Nd := ⟨⟨#[c]⟩, ⟨#[118, 49, 46, 48, 46, 48]⟩⟩
def awL1 : List Ne := [⟨z24, awN 99⟩, ⟨awN 99, awN 98⟩, ⟨z24, awN 97⟩, ⟨awN 97, awN 98⟩]
def awL2 : List Ne := [⟨z24, awN 97⟩]
theorem aw_c1 : why_Chain.f awL1 (awN 98).f0 (awN 98).f1 = some ([awN 97, awN 98], 0) := by decide +kernel
theorem aw_c2 : why_Chain.f awL2 (awN 98).f0 (awN 98).f1 = some ([], 11) := by decide +kernel
theorem awake19_pc : PC 10 [] (.s (.bool true)) := by
 have w1 := chain_pc awL1 (awN 98) _ _ (by decide) aw_c1
 have w2 := chain_pc awL2 (awN 98) _ _ (by decide) aw_c2
 refine pc_of tt_ok tt_follows Tryz.func10 rfl (by kernel_rfl) (by kernel_rfl) (Nat.le_of_ble_eq_true rfl) rfl ?_
 conv => whnf
 refine ⟨_, w1, ?_⟩
 conv => whnf
 refine ⟨_, w2, ?_⟩
 conv => whnf
 refine ⟨fun _ => ?_, (fun h => by cases h)⟩
 conv => whnf
 refine ⟨evN (awN 97), rfl, ?_⟩
 conv => whnf
 refine ⟨eqtN, ?_⟩
 conv => whnf
 refine ⟨fun _ => ?_, (fun h => by have h : eqN (awN 97) (awN 97) = false := h; rw [eqN_iff.2 rfl] at h; cases h)⟩
 conv => whnf
 refine ⟨evN (awN 98), rfl, ?_⟩
 conv => whnf
 refine ⟨eqtN, ?_⟩
 conv => whnf
 refine ⟨fun _ => ?_, (fun h => by have h : eqN (awN 98) (awN 98) = false := h; rw [eqN_iff.2 rfl] at h; cases h)⟩
 conv => whnf
 refine ⟨fun _ => ?_, (fun h => by cases h)⟩
 conv => whnf
 refine ⟨by kernel_rfl, ?_⟩
 conv => whnf
 rfl
theorem eqNs_self (l : List Nd) : eqB eqN l l = true := (eqB_iff (fun _ _ => eqN_iff)).2 rfl
theorem whyTells_pc (l0 : List Ne) (n0 : Nd) : PC 3 [.sl 0 4 (l0.map evQ), evN n0] (.s (.bool true)) := by
 have fl := fewE_len l0
 have fb := fewE_brief l0
 have nb := oneN_brief n0
 have w1 := few18_pc l0
 have w2 := one5_pc n0
 generalize fewE l0 = l at fl fb w1
 generalize oneN n0 = n at nb w2
 have wM := may18_pc l (by omega) fb
 have wN := ref5May_pc n nb
 have cc := chain_cases (l := l) (by omega) fb n nb
 cases hok : okE l
 ·rw [hok] at wM
  have wD := depsBad_pc l (by omega) fb hok
  rcases cc with ⟨hc, _⟩ | ⟨_, h, _⟩ | ⟨_, _, _, h, _⟩
  ·have wC := chain_pc l n _ _ (by omega) hc
   refine pc_of tt_ok tt_follows Tryz.func3 rfl (by kernel_rfl) (by kernel_rfl) (Nat.le_of_ble_eq_true rfl) rfl ?_
   conv => whnf
   refine ⟨_, w1, ?_⟩
   conv => whnf
   refine ⟨_, w2, ?_⟩
   conv => whnf
   refine ⟨by kernel_rfl, ?_⟩
   conv => whnf
   refine ⟨_, wD, ?_⟩
   conv => whnf
   refine ⟨_, wC, ?_⟩
   conv => whnf
   refine ⟨_, wM, ?_⟩
   conv => whnf
   refine ⟨fun _ => ?_, (fun h => by cases h)⟩
   conv => whnf
   refine ⟨fun _ => ?_, (fun h => by cases h)⟩
   conv => whnf
   refine ⟨fun _ => ?_, (fun h => by cases h)⟩
   conv => whnf
   refine ⟨fun _ => ?_, (fun h => by cases h)⟩
   conv => whnf
   refine ⟨fun _ => ?_, (fun h => by cases h)⟩
   conv => whnf
   refine ⟨_, awake19_pc, ?_⟩
   (conv => whnf) <;> try rfl
  ·rw [hok] at h; cases h
  ·rw [hok] at h; cases h
 ·rw [hok] at wM
  have h : OkL l := ⟨hok, fb, fl⟩
  obtain ⟨out, hout, ho, _⟩ := depths_spec hok
  have hR : (reachS l).length ≤ 30 := setP_len h _
  have wD := depsGo_pc l (by omega) fb hok out hout (reachS l) (setP_facts h _).1 (reachS_look h ho) (by omega)
  have wD2 := depths19_pc l h out ho
  have wE := deeps_pc (deepsF out (reachS l)) (by unfold deepsF; rw [List.length_map]; omega)
  obtain ⟨K, hK, wL⟩ := levels_pc l h
  have wP := depth_pc l h K hK out ho n
  rcases cc with ⟨hc, hn⟩ | ⟨hc, _, hm, hd⟩ | ⟨out', c, hc, _, hm, ho', hch, hd, hcl, hcb⟩
  ·have wC := chain_pc l n _ _ (by omega) hc
   have hm : mayN n = false := by
    cases hq : mayN n
    ·rfl
    ·exact absurd ⟨hok, hq⟩ hn
   rw [hm] at wN
   refine pc_of tt_ok tt_follows Tryz.func3 rfl (by kernel_rfl) (by kernel_rfl) (Nat.le_of_ble_eq_true rfl) rfl ?_
   conv => whnf
   refine ⟨_, w1, ?_⟩
   conv => whnf
   refine ⟨_, w2, ?_⟩
   conv => whnf
   refine ⟨by kernel_rfl, ?_⟩
   conv => whnf
   refine ⟨_, wD, ?_⟩
   conv => whnf
   refine ⟨_, wC, ?_⟩
   conv => whnf
   refine ⟨_, wM, ?_⟩
   conv => whnf
   refine ⟨(fun h => by cases h), fun _ => ?_⟩
   conv => whnf
   refine ⟨_, wD2, ?_⟩
   conv => whnf
   refine ⟨_, wE, ?_⟩
   conv => whnf
   refine ⟨(fun h => by cases h), fun _ => ?_⟩
   conv => whnf
   refine ⟨(fun h => by cases h), fun _ => ?_⟩
   conv => whnf
   refine ⟨_, wN, ?_⟩
   conv => whnf
   refine ⟨fun _ => ?_, (fun h => by cases h)⟩
   conv => whnf
   refine ⟨fun _ => ?_, (fun h => by cases h)⟩
   conv => whnf
   refine ⟨fun _ => ?_, (fun h => by cases h)⟩
   conv => whnf
   refine ⟨_, awake19_pc, ?_⟩
   (conv => whnf) <;> try rfl
  ·have wC := chain_pc l n _ _ (by omega) hc
   rw [hm] at wN
   rw [dp_none ho hd] at wP
   refine pc_of tt_ok tt_follows Tryz.func3 rfl (by kernel_rfl) (by kernel_rfl) (Nat.le_of_ble_eq_true rfl) rfl ?_
   conv => whnf
   refine ⟨_, w1, ?_⟩
   conv => whnf
   refine ⟨_, w2, ?_⟩
   conv => whnf
   refine ⟨by kernel_rfl, ?_⟩
   conv => whnf
   refine ⟨_, wD, ?_⟩
   conv => whnf
   refine ⟨_, wC, ?_⟩
   conv => whnf
   refine ⟨_, wM, ?_⟩
   conv => whnf
   refine ⟨(fun h => by cases h), fun _ => ?_⟩
   conv => whnf
   refine ⟨_, wD2, ?_⟩
   conv => whnf
   refine ⟨_, wE, ?_⟩
   conv => whnf
   refine ⟨(fun h => by cases h), fun _ => ?_⟩
   conv => whnf
   refine ⟨(fun h => by cases h), fun _ => ?_⟩
   conv => whnf
   refine ⟨_, wN, ?_⟩
   conv => whnf
   refine ⟨(fun h => by cases h), fun _ => ?_⟩
   conv => whnf
   refine ⟨_, wL, ?_⟩
   conv => whnf
   refine ⟨_, wP, ?_⟩
   conv => whnf
   refine ⟨fun _ => ?_, (fun h => by cases h)⟩
   conv => whnf
   refine ⟨fun _ => ?_, (fun h => by cases h)⟩
   conv => whnf
   refine ⟨fun _ => ?_, (fun h => by cases h)⟩
   conv => whnf
   refine ⟨_, awake19_pc, ?_⟩
   (conv => whnf) <;> try rfl
  ·have wC := chain_pc l n _ _ (by omega) hc
   rw [hm] at wN
   obtain ⟨d, hcd⟩ : ∃ d, c.length = d + 1 := ⟨c.length - 1, by have := hch.pos; omega⟩
   rw [hcd] at hd
   rw [dp_at ho hd] at wP
   have hchain : chainF l out d n = some c := by
    obtain ⟨c2, g1, g2, g3, g4, g5⟩ := chainF_spec h.ok ho d n hd
    have hI : IsCh l out n c2 := ⟨by omega, by rw [g2, Nat.add_sub_cancel]; exact g3, g4, g5⟩
    rw [← ch_uniq (fun y => lookF_ext ho ho' y) hI hch]
    exact g1
   have wX := chain19_pc l h K hK out ho d n c hd hchain
   have wS := same5_pc c c (by omega)
   rw [eqNs_self] at wS
   refine pc_of tt_ok tt_follows Tryz.func3 rfl (by kernel_rfl) (by kernel_rfl) (Nat.le_of_ble_eq_true rfl) rfl ?_
   conv => whnf
   refine ⟨_, w1, ?_⟩
   conv => whnf
   refine ⟨_, w2, ?_⟩
   conv => whnf
   refine ⟨by kernel_rfl, ?_⟩
   conv => whnf
   refine ⟨_, wD, ?_⟩
   conv => whnf
   refine ⟨_, wC, ?_⟩
   conv => whnf
   refine ⟨_, wM, ?_⟩
   conv => whnf
   refine ⟨(fun h => by cases h), fun _ => ?_⟩
   conv => whnf
   refine ⟨_, wD2, ?_⟩
   conv => whnf
   refine ⟨_, wE, ?_⟩
   conv => whnf
   refine ⟨(fun h => by cases h), fun _ => ?_⟩
   conv => whnf
   refine ⟨(fun h => by cases h), fun _ => ?_⟩
   conv => whnf
   refine ⟨_, wN, ?_⟩
   conv => whnf
   refine ⟨(fun h => by cases h), fun _ => ?_⟩
   conv => whnf
   refine ⟨_, wL, ?_⟩
   conv => whnf
   refine ⟨_, wP, ?_⟩
   conv => whnf
   refine ⟨(fun h => by simp at h; omega), fun _ => ?_⟩
   conv => whnf
   refine ⟨_, wX, ?_⟩
   conv => whnf
   refine ⟨_, wS, ?_⟩
   conv => whnf
   refine ⟨fun _ => ?_, (fun h => by cases h)⟩
   conv => whnf
   refine ⟨fun _ => ?_, (fun h => by cases h)⟩
   conv => whnf
   refine ⟨_, awake19_pc, ?_⟩
   (conv => whnf) <;> try rfl
end Go.Proofs.YtodkjmbmlobihaaGreatDoor.Q
end
