/- Part 15 of this claim: several texts one behind the other: EvWc, EvWd, EvWe, EvWg. What each shows stands in its theorems; conditions: sizes of texts and lists, as the functions' definitions say. -/
import Derived.Test.YtodkjmbmlobihaaGreatDoorMWhyDepths14
import Derived.Test.YtodkjmbmlobihaaGreatDoorMWhyDepths5
section
namespace Go.Proofs.YtodkjmbmlobihaaGreatDoor.Q
open Go.Proofs.YtodkjmbmlobihaaGreatDoor.QB.D
open Go Go.RowKit Go.Lib Go.Proofs.YtodkjmbmlobihaaGreatDoorW.PrintWords Go.Ev Gw
set_option linter.unusedVariables false
set_option maxRecDepth 100000
def awN (c : UInt8) : Nd := ⟨⟨#[c]⟩, ⟨#[118, 49, 46, 48, 46, 48]⟩⟩
def awL1 : List Ne := [⟨z24, awN 99⟩, ⟨awN 99, awN 98⟩, ⟨z24, awN 97⟩, ⟨awN 97, awN 98⟩]
def awL2 : List Ne := [⟨z24, awN 97⟩]
theorem aw_c1 : why_Chain.f awL1 (awN 98).f0 (awN 98).f1 = some ([awN 97, awN 98], 0) := by decide +kernel
theorem aw_c2 : why_Chain.f awL2 (awN 98).f0 (awN 98).f1 = some ([], 11) := by decide +kernel
theorem awake19_pc : PC 10 [] (.s (.bool true)) := by
 have w1 := chain_pc awL1 (awN 98) _ _ (by decide) aw_c1
 have w2 := chain_pc awL2 (awN 98) _ _ (by decide) aw_c2
 refine pc_of tt_ok tt_follows Tryz.func10 rfl (by kernel_rfl) (by kernel_rfl) (Nat.le_of_ble_eq_true rfl) rfl ?_
 conv => whnf
 refine ⟨_, w1, ?_⟩
 conv => whnf
 refine ⟨_, w2, ?_⟩
 conv => whnf
 refine ⟨fun _ => ?_, (fun h => by cases h)⟩
 conv => whnf
 refine ⟨evN (awN 97), rfl, ?_⟩
 conv => whnf
 refine ⟨eqtN, ?_⟩
 conv => whnf
 refine ⟨fun _ => ?_, (fun h => by have h : eqN (awN 97) (awN 97) = false := h; rw [eqN_iff.2 rfl] at h; cases h)⟩
 conv => whnf
 refine ⟨evN (awN 98), rfl, ?_⟩
 conv => whnf
 refine ⟨eqtN, ?_⟩
 conv => whnf
 refine ⟨fun _ => ?_, (fun h => by have h : eqN (awN 98) (awN 98) = false := h; rw [eqN_iff.2 rfl] at h; cases h)⟩
 conv => whnf
 refine ⟨fun _ => ?_, (fun h => by cases h)⟩
 conv => whnf
 refine ⟨by kernel_rfl, ?_⟩
 conv => whnf
 rfl
noncomputable def farI (out : List (Nd × Nat)) (T : List Nd) (x : Nd) (k : Nat) : Int := if x ∈ T.take k then dpF out x else 0
theorem farI_step (out : List (Nd × Nat)) (T : List Nd) (x : Nd) (k : Nat) (h : k < T.length) (hT : T.Nodup) : farI out T x (k + 1) = if eqN T[k] x = true then dpF out x else farI out T x k := by
 unfold farI
 rw [List.take_succ_eq_append_getElem h]
 by_cases e : T[k] = x
 ·rw [if_pos (by rw [List.mem_append, List.mem_singleton]; exact Or.inr e.symm), if_pos (eqN_iff.2 e)]
 ·rw [if_neg (fun h => e (eqN_iff.1 h))]
  by_cases hm : x ∈ T.take k
  ·rw [if_pos (List.mem_append_left _ hm), if_pos hm]
  ·rw [if_neg (fun h => by rcases List.mem_append.1 h with h | h; exact hm h; rw [List.mem_singleton] at h; exact e h.symm), if_neg hm]
theorem farI_all {l : List Ne} (h : OkL l) {out : List (Nd × Nat)} (ho : ∀ y n, lookF out y = some n ↔ 1 ≤ n ∧ DistF l n y) (x : Nd) : farI out (reachS l) x (reachS l).length = dpF out x := by
 unfold farI
 rw [List.take_length]
 by_cases hm : x ∈ reachS l
 ·rw [if_pos hm]
 ·rw [if_neg hm]
  exact (dp_none ho fun d hd => hm ((mem_reachS h x).2 ⟨d, hd⟩)).symm
def evX (out : List (Nd × Nat)) (x : Nd) : PV := evD ⟨x, dpF out x⟩
theorem deeps_evX (out : List (Nd × Nat)) (T : List Nd) : (deepsF out T).map evD = T.map (evX out) := by unfold deepsF; rw [List.map_map]; rfl
theorem whyDepths_pc (l0 : List Ne) : PC 4 [.sl 0 4 (l0.map evQ)] (.s (.bool true)) := by
 have fl := fewE_len l0
 have fb := fewE_brief l0
 have w1 := few18_pc l0
 generalize fewE l0 = l at fl fb w1
 cases hok : okE l
 ·have wD := depsBad_pc l (by omega) fb hok
  refine pc_of tt_ok tt_follows Tryz.func4 rfl (by kernel_rfl) (by kernel_rfl) (Nat.le_of_ble_eq_true rfl) rfl ?_
  conv => whnf
  refine ⟨_, w1, ?_⟩
  conv => whnf
  refine ⟨_, wD, ?_⟩
  conv => whnf
  refine ⟨fun _ => ?_, (fun h => by cases h)⟩
  conv => whnf
  refine ⟨fun _ => ?_, (fun h => by cases h)⟩
  conv => whnf
  refine ⟨_, awake19_pc, ?_⟩
  (conv => whnf) <;> try rfl
 ·have h : OkL l := ⟨hok, fb, fl⟩
  obtain ⟨out, hout, ho, _⟩ := depths_spec hok
  have hS := (setP_facts h (fun y => ∃ j, DistF l (j + 1) y)).1
  have hS : IsSet (reachS l) := hS
  have hR : (reachS l).length ≤ 30 := setP_len h _
  have hRb : ∀ y ∈ reachS l, Brief y := setP_brief h _
  have wD := depsGo_pc l (by omega) fb hok out hout (reachS l) hS (reachS_look h ho) (by omega)
  rw [deeps_evX] at wD
  have hnl : l.length ≤ 1000 := by omega
  have wC : ∀ i (hi : i < (reachS l).length), ∃ c : List Nd, PC 8 [.sl 0 4 (l.map evQ), evN (reachS l)[i]] (.tu [.sl 4 2 (c.map evN), .s (.int .i64 0)]) ∧ (c.length : Int) = dpF out (reachS l)[i] := fun i hi => by
   have hm := List.getElem_mem hi
   obtain ⟨j, hj⟩ := (mem_reachS h _).1 hm
   rcases chain_cases (l := l) (by omega) fb (reachS l)[i] (hRb _ hm) with ⟨_, hn⟩ | ⟨_, _, _, hd⟩ | ⟨out', c, hc, _, _, _, hch, hd, _, _⟩
   ·exact absurd ⟨hok, hS.may _ hm⟩ hn
   ·exact absurd hj (hd j)
   ·refine ⟨c, chain_pc l _ _ _ (by omega) hc, ?_⟩
    have := dist_uniq hd hj
    rw [dp_at ho hj, this]
  refine pc_of tt_ok tt_follows Tryz.func4 rfl (by kernel_rfl) (by kernel_rfl) (Nat.le_of_ble_eq_true rfl) rfl ?_
  conv => whnf
  refine ⟨_, w1, ?_⟩
  conv => whnf
  refine ⟨_, wD, ?_⟩
  conv => whnf
  refine ⟨(fun h => by cases h), fun _ => ?_⟩
  conv => whnf
  refine ⟨Nat, fun i => i ≤ (reachS l).length, fun i => [(15, .s (.int .i64 i))], [0, 9, 41, 50], fun i => (reachS l).length - i, 0, Nat.zero_le _, ?_, fun i hi => ?_⟩
  ·refine ⟨⟨rfl, trivial, trivial⟩, ?_⟩
   repeat' (first | exact trivial | refine ⟨?_, ?_⟩ | (((conv => lhs; whnf) <;> (try (conv => rhs; whnf))) <;> exact rfl))
   all_goals
    (conv => whnf)
    exact Nat.le_refl _
  conv => whnf
  constructor
  ·intro hh
   have hil := ltm hh
   obtain ⟨c, hc, hcl⟩ := wC i hil
   conv => whnf
   refine ⟨_, idx_map (evX out) (reachS l) i hil, ?_⟩
   conv => whnf
   refine ⟨_, hc, ?_⟩
   conv => whnf
   refine ⟨(fun h => by cases h), fun _ => ?_⟩
   conv => whnf
   refine ⟨_, idx_map (evX out) (reachS l) i hil, ?_⟩
   conv => whnf
   refine ⟨(fun h => by rw [List.length_map, hcl] at h; simp at h), fun _ => ?_⟩
   conv => whnf
   constructor
   ·intro h0
    have h0 : 0 < i := by have : (i : Int) > 0 := of_decide_eq_true h0
                          omega
    have hw : IntKind.i64.wrap ((i : Int) - 1) = ((i - 1 : Nat) : Int) := by rw [IntKind.wrap_i64]; omega
    have hm1 := List.getElem_mem (show i - 1 < (reachS l).length by omega)
    have hm2 := List.getElem_mem hil
    have wL := less5_pc ((reachS l)[i - 1]'(by omega)) (reachS l)[i] (hRb _ hm1) (hRb _ hm2) (hS.may _ hm1) (hS.may _ hm2)
    rw [decide_eq_true (List.pairwise_iff_getElem.1 hS.lt (i - 1) i (by omega) hil (by omega))] at wL
    conv => whnf
    refine ⟨_, idx_mapI (evX out) (reachS l) (i - 1) hw (by omega), ?_⟩
    conv => whnf
    refine ⟨_, idx_map (evX out) (reachS l) i hil, ?_⟩
    conv => whnf
    refine ⟨_, wL, ?_⟩
    conv => whnf
    refine ⟨by kernel_rfl, ?_⟩
    conv => whnf
    refine ⟨(fun h => by cases h), fun _ => ?_⟩
    conv => whnf
    refine ⟨i + 1, hil, less1 hil, ⟨⟨incI hil (by omega), trivial, trivial⟩, ?_⟩⟩
    repeat' (first | exact trivial | refine ⟨?_, ?_⟩ | (((conv => lhs; whnf) <;> (try (conv => rhs; whnf))) <;> exact rfl))
    all_goals
     (conv => whnf)
     exact Nat.le_refl _
   ·intro h0
    conv => whnf
    refine ⟨by kernel_rfl, ?_⟩
    conv => whnf
    conv => whnf
    refine ⟨i + 1, hil, less1 hil, ⟨⟨incI hil (by omega), trivial, trivial⟩, ?_⟩⟩
    repeat' (first | exact trivial | refine ⟨?_, ?_⟩ | (((conv => lhs; whnf) <;> (try (conv => rhs; whnf))) <;> exact rfl))
    all_goals
     (conv => whnf)
     exact Nat.le_refl _
  ·intro hh
   conv => whnf
   refine ⟨Nat, fun i => i ≤ l.length, fun i => [(24, .s (.int .i64 i))], [0, 9, 41, 50], fun i => l.length - i, 0, Nat.zero_le _, ?_, fun i hi => ?_⟩
   ·refine ⟨⟨rfl, trivial, trivial⟩, ?_⟩
    repeat' (first | exact trivial | refine ⟨?_, ?_⟩ | (((conv => lhs; whnf) <;> (try (conv => rhs; whnf))) <;> exact rfl))
    all_goals
     (conv => whnf)
     exact Nat.le_refl _
   conv => whnf
   constructor
   ·intro hh
    have hil := ltm hh
    have hem := List.getElem_mem hil
    have factA : l[i].f0 = z24 → dpF out l[i].f1 = 1 := fun e => by
     have hd : DistF l 1 l[i].f1 := ⟨⟨l[i], hem, rfl, e⟩, fun n hn => by
      obtain rfl : n = 0 := by omega
      exact reach0 hok hem⟩
     exact dp_at ho hd
    have factB : dpF out l[i].f0 > 0 → dpF out l[i].f1 ≠ 0 ∧ ¬ dpF out l[i].f1 > IntKind.i64.wrap (dpF out l[i].f0 + 1) := fun hF => by
     have hd : ∃ d, DistF l (d + 1) l[i].f0 := Classical.byContradiction fun hn => by
      rw [dp_none ho (fun d hd => hn ⟨d, hd⟩)] at hF
      omega
     obtain ⟨d, hd⟩ := hd
     have hr : ReachF l (d + 2) l[i].f1 := ⟨l[i], hem, rfl, hd.1⟩
     obtain ⟨n, hn, hdn⟩ := reach_dist (d + 2) hr
     cases n with
     | zero => exact absurd hdn.1 (reach0 hok hem)
     | succ n =>
      have hdK : d + 1 ≤ 33 := lev_le h (List.ne_nil_of_mem ((mem_lev h d _).2 hd))
      rw [dp_at ho hd, dp_at ho hdn, IntKind.wrap_i64]
      omega
    conv => whnf
    refine ⟨Nat, fun k => k ≤ (reachS l).length, fun k => [(27, .s (.int .i64 (farI out (reachS l) l[i].f0 k))), (30, .s (.int .i64 (farI out (reachS l) l[i].f1 k))), (33, .s (.int .i64 k))], [0, 9, 24, 41, 50], fun k => (reachS l).length - k, 0, Nat.zero_le _, ?_, fun k hk => ?_⟩
    ·refine ⟨⟨rfl, trivial, rfl, trivial, rfl, trivial, trivial⟩, ?_⟩
     repeat' (first | exact trivial | refine ⟨?_, ?_⟩ | (((conv => lhs; whnf) <;> (try (conv => rhs; whnf))) <;> exact rfl))
     all_goals
      (conv => whnf)
      exact Nat.le_refl _
    conv => whnf
    constructor
    ·intro hh
     have hkl := ltm hh
     have s1 := farI_step out (reachS l) l[i].f0 k hkl hS.nodup
     have s2 := farI_step out (reachS l) l[i].f1 k hkl hS.nodup
     conv => whnf
     refine ⟨_, idx_map (evX out) (reachS l) k hkl, ?_⟩
     conv => whnf
     refine ⟨_, idx_map evQ l i hil, ?_⟩
     conv => whnf
     refine ⟨eqtN, ?_⟩
     conv => whnf
     refine ⟨by kernel_rfl, ?_⟩
     conv => whnf
     constructor
     ·intro qa
      have qa : eqN (reachS l)[k] l[i].f0 = true := qa
      conv => whnf
      refine ⟨_, idx_map (evX out) (reachS l) k hkl, ?_⟩
      conv => whnf
      refine ⟨_, idx_map (evX out) (reachS l) k hkl, ?_⟩
      conv => whnf
      refine ⟨_, idx_map evQ l i hil, ?_⟩
      conv => whnf
      refine ⟨eqtN, ?_⟩
      conv => whnf
      refine ⟨by kernel_rfl, ?_⟩
      conv => whnf
      constructor
      ·intro qb
       have qb : eqN (reachS l)[k] l[i].f1 = true := qb
       conv => whnf
       refine ⟨_, idx_map (evX out) (reachS l) k hkl, ?_⟩
       conv => whnf
       refine ⟨k + 1, hkl, less1 hkl, ⟨⟨congrArg (fun q : Int => PV.s (.int .i64 q)) (by rw [s1, if_pos qa, eqN_iff.1 qa]), trivial, congrArg (fun q : Int => PV.s (.int .i64 q)) (by rw [s2, if_pos qb, eqN_iff.1 qb]), trivial, incI hkl (by omega), trivial, trivial⟩, ?_⟩⟩
       repeat' (first | exact trivial | refine ⟨?_, ?_⟩ | (((conv => lhs; whnf) <;> (try (conv => rhs; whnf))) <;> exact rfl))
       all_goals
        (conv => whnf)
        exact Nat.le_refl _
      ·intro qb
       have qb : eqN (reachS l)[k] l[i].f1 = false := qb
       conv => whnf
       refine ⟨k + 1, hkl, less1 hkl, ⟨⟨congrArg (fun q : Int => PV.s (.int .i64 q)) (by rw [s1, if_pos qa, eqN_iff.1 qa]), trivial, congrArg (fun q : Int => PV.s (.int .i64 q)) (by rw [s2, if_neg (by rw [qb]; decide)]), trivial, incI hkl (by omega), trivial, trivial⟩, ?_⟩⟩
       repeat' (first | exact trivial | refine ⟨?_, ?_⟩ | (((conv => lhs; whnf) <;> (try (conv => rhs; whnf))) <;> exact rfl))
       all_goals
        (conv => whnf)
        exact Nat.le_refl _
     ·intro qa
      have qa : eqN (reachS l)[k] l[i].f0 = false := qa
      conv => whnf
      refine ⟨_, idx_map (evX out) (reachS l) k hkl, ?_⟩
      conv => whnf
      refine ⟨_, idx_map evQ l i hil, ?_⟩
      conv => whnf
      refine ⟨eqtN, ?_⟩
      conv => whnf
      refine ⟨by kernel_rfl, ?_⟩
      conv => whnf
      constructor
      ·intro qb
       have qb : eqN (reachS l)[k] l[i].f1 = true := qb
       conv => whnf
       refine ⟨_, idx_map (evX out) (reachS l) k hkl, ?_⟩
       conv => whnf
       refine ⟨k + 1, hkl, less1 hkl, ⟨⟨congrArg (fun q : Int => PV.s (.int .i64 q)) (by rw [s1, if_neg (by rw [qa]; decide)]), trivial, congrArg (fun q : Int => PV.s (.int .i64 q)) (by rw [s2, if_pos qb, eqN_iff.1 qb]), trivial, incI hkl (by omega), trivial, trivial⟩, ?_⟩⟩
       repeat' (first | exact trivial | refine ⟨?_, ?_⟩ | (((conv => lhs; whnf) <;> (try (conv => rhs; whnf))) <;> exact rfl))
       all_goals
        (conv => whnf)
        exact Nat.le_refl _
      ·intro qb
       have qb : eqN (reachS l)[k] l[i].f1 = false := qb
       conv => whnf
       refine ⟨k + 1, hkl, less1 hkl, ⟨⟨congrArg (fun q : Int => PV.s (.int .i64 q)) (by rw [s1, if_neg (by rw [qa]; decide)]), trivial, congrArg (fun q : Int => PV.s (.int .i64 q)) (by rw [s2, if_neg (by rw [qb]; decide)]), trivial, incI hkl (by omega), trivial, trivial⟩, ?_⟩⟩
       repeat' (first | exact trivial | refine ⟨?_, ?_⟩ | (((conv => lhs; whnf) <;> (try (conv => rhs; whnf))) <;> exact rfl))
       all_goals
        (conv => whnf)
        exact Nat.le_refl _
    ·intro hh
     have hkl := gem hh hk
     subst hkl
     have q1 := farI_all h ho l[i].f0
     have q2 := farI_all h ho l[i].f1
     rw [← q2] at factA
     rw [← q1, ← q2] at factB
     conv => whnf
     refine ⟨_, idx_map evQ l i hil, ?_⟩
     conv => whnf
     refine ⟨eqtN, ?_⟩
     conv => whnf
     constructor
     ·intro hz
      have hz : eqN l[i].f0 z24 = true := hz
      have g := factA (eqN_iff.1 hz)
      conv => whnf
      refine ⟨(fun h => by rw [g] at h; cases h), fun _ => ?_⟩
      conv => whnf
      constructor
      ·intro hF
       have hF : farI out (reachS l) l[i].f0 (reachS l).length > 0 := of_decide_eq_true hF
       obtain ⟨g1, g2⟩ := factB hF
       conv => whnf
       refine ⟨(fun h => absurd (eq_of_beq h) g1), fun _ => ?_⟩
       conv => whnf
       refine ⟨(fun h => absurd (of_decide_eq_true h) g2), fun _ => ?_⟩
       conv => whnf
       refine ⟨i + 1, hil, less1 hil, ⟨⟨incI hil (by omega), trivial, trivial⟩, ?_⟩⟩
       repeat' (first | exact trivial | refine ⟨?_, ?_⟩ | (((conv => lhs; whnf) <;> (try (conv => rhs; whnf))) <;> exact rfl))
       all_goals
        (conv => whnf)
        exact Nat.le_refl _
      ·intro hF
       conv => whnf
       refine ⟨i + 1, hil, less1 hil, ⟨⟨incI hil (by omega), trivial, trivial⟩, ?_⟩⟩
       repeat' (first | exact trivial | refine ⟨?_, ?_⟩ | (((conv => lhs; whnf) <;> (try (conv => rhs; whnf))) <;> exact rfl))
       all_goals
        (conv => whnf)
        exact Nat.le_refl _
     ·intro hz
      conv => whnf
      constructor
      ·intro hF
       have hF : farI out (reachS l) l[i].f0 (reachS l).length > 0 := of_decide_eq_true hF
       obtain ⟨g1, g2⟩ := factB hF
       conv => whnf
       refine ⟨(fun h => absurd (eq_of_beq h) g1), fun _ => ?_⟩
       conv => whnf
       refine ⟨(fun h => absurd (of_decide_eq_true h) g2), fun _ => ?_⟩
       conv => whnf
       refine ⟨i + 1, hil, less1 hil, ⟨⟨incI hil (by omega), trivial, trivial⟩, ?_⟩⟩
       repeat' (first | exact trivial | refine ⟨?_, ?_⟩ | (((conv => lhs; whnf) <;> (try (conv => rhs; whnf))) <;> exact rfl))
       all_goals
        (conv => whnf)
        exact Nat.le_refl _
      ·intro hF
       conv => whnf
       refine ⟨i + 1, hil, less1 hil, ⟨⟨incI hil (by omega), trivial, trivial⟩, ?_⟩⟩
       repeat' (first | exact trivial | refine ⟨?_, ?_⟩ | (((conv => lhs; whnf) <;> (try (conv => rhs; whnf))) <;> exact rfl))
       all_goals
        (conv => whnf)
        exact Nat.le_refl _
   ·intro hh
    conv => whnf
    refine ⟨_, awake19_pc, ?_⟩
    (conv => whnf) <;> try rfl
end Go.Proofs.YtodkjmbmlobihaaGreatDoor.Q
end
