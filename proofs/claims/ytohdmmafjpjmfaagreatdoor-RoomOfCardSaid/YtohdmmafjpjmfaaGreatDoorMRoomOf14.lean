/- Part 14 of this claim: several texts one behind the other: R13Both, R13Diff, EvB14, EvChk, EvR5, EvR13, EvU1, EvU2, EvR14, EvRFits. What each shows stands in its theorems; conditions: sizes of texts and lists, as the functions' definitions say. -/
import Derived.Test.YtohdmmafjpjmfaaGreatDoorMRoomOf2
import Derived.Test.YtohdmmafjpjmfaaGreatDoorMRoomOf11
import Derived.Test.YtohdmmafjpjmfaaGreatDoorMRoomOf10
import Derived.Test.YtohdmmafjpjmfaaGreatDoorMRoomOf12
import Derived.Test.YtohdmmafjpjmfaaGreatDoorMRoomOf13
import Derived.Test.YtohdmmafjpjmfaaGreatDoorMRoomOf5
import Derived.Test.YtohdmmafjpjmfaaGreatDoorMRoomOf9
import Derived.Test.YtohdmmafjpjmfaaGreatDoorMRoomOf6
import Derived.Test.YtohdmmafjpjmfaaGreatDoorMRoomOf8
section
namespace Go.Proofs.YtohdmmafjpjmfaaGreatDoor.Q
open Go.Proofs.YtohdmmafjpjmfaaGreatDoor.QB.D
open Go Go.RowKit Go.Lib Go.Proofs.YtohdmmafjpjmfaaGreatDoorW.PrintWords Go.Proofs.YtohdmmafjpjmfaaGreatDoorW.PrintLast Go.Proofs.YtohdmmafjpjmfaaGreatDoorW.PrintMore Gw
set_option linter.unusedVariables false
set_option linter.unusedSimpArgs false
theorem byE_far {l : List S48} (h : InE l) (x : S34) : -1099511627776 * (l.length : Int) ≤ byE l x ∧ byE l x ≤ 1099511627776 * (l.length : Int) := by
  induction l with
  | nil => simp [byE]
  | cons y r ih =>
    have h1 := h y (.head _)
    have h2 := ih (fun z hz => h z (.tail _ hz))
    rw [byE_cons, List.length_cons]
    split <;> omega
theorem diff13_set (l m : List S34) (hl : l.length ≤ 32768) (hm : m.length ≤ 32768) (tl : ∀ x ∈ l, TinyN x ∧ mayN x = true) (tm : ∀ x ∈ m, TinyN x ∧ mayN x = true) : sortN ((diffC l m).map (·.1)) = rsetN (l ++ m) := by
  have hok := diffC_ok l m hl hm tl tm
  have hlm : ∀ x ∈ l ++ m, TinyN x ∧ mayN x = true := fun x hx => by
    rcases List.mem_append.1 hx with h | h
    · exact tl x h
    · exact tm x h
  have hr := rsetN_facts (l ++ m) (fun x hx => (hlm x hx).1) (fun x hx => (hlm x hx).2) [] IsSet.nil
  refine IsSet.ext (sorted_is hok.nodup (fun x hx => by obtain ⟨p, hp, rfl⟩ := List.mem_map.1 hx; exact hok.may p hp)) hr.1 (fun x => ?_)
  rw [(sortN_perm _).mem_iff, keys_diff, ← List.mem_append]
  unfold rsetN
  rw [hr.2]
  simp
end Go.Proofs.YtohdmmafjpjmfaaGreatDoor.Q
end
section
namespace Go.Proofs.YtohdmmafjpjmfaaGreatDoor.Q
open Go.Proofs.YtohdmmafjpjmfaaGreatDoor.QB.D
open Go Go.RowKit Go.Lib Go.Proofs.YtohdmmafjpjmfaaGreatDoorW.PrintWords Go.Ev
set_option linter.unusedVariables false
section
variable {F : Nat → Nat → Prop} {w : World} {f : FuncId} {fn : Func}
theorem pc_ag1 (hf : Tryz.prog.funcs[f]? = some fn) (hn : (fn.name == "runtime.NumGoroutine") = false) (hb : fn.body.isSome = true) (x : S34) (v : Value) (h : ∀ w, Calls Tryz.prog f #[.agg #[.string x.f0, .string x.f1]] w fun e w' => e = .returned v ∧ Below w.heap.size w w') : PC f [evN x] (.s v) :=
  ⟨⟨fn, hf, hn, hb⟩, fun w F vs hv => by
    match vs, hv with
    | [u], hv =>
      rw [evN_eq hv.1]
      exact (h w).mono fun e w' ⟨he, hb⟩ => ⟨v, he, hb, res_s v⟩
    | [], hv => exact hv.elim
    | _ :: _ :: _, hv => exact hv.2.elim⟩
theorem pc_ag2 (hf : Tryz.prog.funcs[f]? = some fn) (hn : (fn.name == "runtime.NumGoroutine") = false) (hb : fn.body.isSome = true) (x y : S34) (v : Value) (h : ∀ w, Calls Tryz.prog f #[.agg #[.string x.f0, .string x.f1], .agg #[.string y.f0, .string y.f1]] w fun e w' => e = .returned v ∧ Below w.heap.size w w') : PC f [evN x, evN y] (.s v) :=
  ⟨⟨fn, hf, hn, hb⟩, fun w F vs hv => by
    match vs, hv with
    | [u, u'], hv =>
      rw [evN_eq hv.1, evN_eq hv.2.1]
      exact (h w).mono fun e w' ⟨he, hb⟩ => ⟨v, he, hb, res_s v⟩
    | [], hv => exact hv.elim
    | [_], hv => exact hv.2.elim
    | _ :: _ :: _ :: _, hv => exact hv.2.2.elim⟩
theorem pc_row {α : Type} {d : Kd α} {raw : α → List Value} {enc : α → PV} (hfl : Flat d raw enc) (hf : Tryz.prog.funcs[f]? = some fn) (hn : (fn.name == "runtime.NumGoroutine") = false) (hb : fn.body.isSome = true) {z : Nat} (hz : z = d.sz) (l : List α) (hl : l.length ≤ 9223372036854775807) (r : PV)
    (h : ∀ w A c, d.C w A l.length l → l.length ≤ c → Calls Tryz.prog f #[.slice A l.length c] w fun e w' => ∃ v, e = .returned v ∧ Below w.heap.size w w' ∧ ∀ F, Res F w.heap.size w' r v) : PC f [.sl 0 z (l.map enc)] r :=
  ⟨⟨fn, hf, hn, hb⟩, fun w F vs hv => by
    match vs, hv with
    | [u], hv =>
      obtain ⟨A, c, rfl, hc, hC⟩ := hfl.toC hv.1 hz hl
      exact (h w A c hC hc).mono fun e w' ⟨v, he, hb, hr⟩ => ⟨v, he, hb, hr F⟩
    | [], hv => exact hv.elim
    | _ :: _ :: _, hv => exact hv.2.elim⟩
theorem pc_row2 {α β : Type} {d : Kd α} {raw : α → List Value} {enc : α → PV} {d' : Kd β} {raw' : β → List Value} {enc' : β → PV} (hfl : Flat d raw enc) (hfl' : Flat d' raw' enc') (hf : Tryz.prog.funcs[f]? = some fn) (hn : (fn.name == "runtime.NumGoroutine") = false) (hb : fn.body.isSome = true) {z z' : Nat} (hz : z = d.sz) (hz' : z' = d'.sz) (l : List α) (m : List β) (hl : l.length ≤ 9223372036854775807) (hm : m.length ≤ 9223372036854775807) (r : PV)
    (h : ∀ w A c A' c', d.C w A l.length l → l.length ≤ c → d'.C w A' m.length m → m.length ≤ c' → Calls Tryz.prog f #[.slice A l.length c, .slice A' m.length c'] w fun e w' => ∃ v, e = .returned v ∧ Below w.heap.size w w' ∧ ∀ F, Res F w.heap.size w' r v) : PC f [.sl 0 z (l.map enc), .sl 0 z' (m.map enc')] r :=
  ⟨⟨fn, hf, hn, hb⟩, fun w F vs hv => by
    match vs, hv with
    | [u, u'], hv =>
      obtain ⟨A, c, rfl, hc, hC⟩ := hfl.toC hv.1 hz hl
      obtain ⟨A', c', rfl, hc', hC'⟩ := hfl'.toC hv.2.1 hz' hm
      exact (h w A c A' c' hC hc hC' hc').mono fun e w' ⟨v, he, hb, hr⟩ => ⟨v, he, hb, hr F⟩
    | [], hv => exact hv.elim
    | [_], hv => exact hv.2.elim
    | _ :: _ :: _ :: _, hv => exact hv.2.2.elim⟩
end
theorem nodeMay_pc (x : S34) (hx : TinyN x) : PC 45 [evN x] (.s (.bool (mayN x))) :=
  pc_ag1 Tryz.func45 (by kernel_rfl) rfl x _ fun w => node_May.calls (x.f0.size + 2) _ _ _ w (node_May_val _ x hx (Nat.le_refl _))
theorem ref5May_pc (x : S34) (hx : Brief x) : PC 19 [evN x] (.s (.bool (mayN x))) :=
  pc_ag1 Tryz.func19 (by kernel_rfl) rfl x _ fun w => graftwoodref05_May.calls 900 _ _ _ w (ref5May_val _ x hx (Nat.le_refl _))
theorem less5_pc (x y : S34) (hx : Brief x) (hy : Brief y) (mx : mayN x = true) (my : mayN y = true) : PC 53 [evN x, evN y] (.s (.bool (decide (ordN x y < 0)))) :=
  pc_ag2 Tryz.func53 (by kernel_rfl) rfl x y _ fun w => graftwoodref05_Less.calls 900 _ _ _ _ _ w (less_val _ x y hx hy (mayN_good hx.tiny mx) (mayN_good hy.tiny my) (Nat.le_refl _))
theorem count13_pc (G : List S34) (hl : G.length ≤ 30000) (ht : ∀ x ∈ G, TinyN x) (x : List S48) (i : Int) (hx : (if G.all mayN = true then (diffV [] G, (0 : Int)) else ([], 1)) = (x, i)) : PC 47 [.sl 0 2 (G.map evN)] (.tu [.sl 5 3 (x.map evE), .s (.int .i64 i)]) :=
  pc_row flatN Tryz.func47 (by kernel_rfl) rfl rfl G (by omega) _ fun w A c hC hc =>
    (diff_Count.calls A c G _ _ w hC hc (by
      unfold diff_Count.f diff_Diff.f
      rw [if_pos ⟨by simp, by omega, (fun x h => by cases h), ht⟩, ← hx]
      simp)).mono fun e w' ⟨v, he, hr, hb⟩ => ⟨_, he, hb, fun F => (flatE.res hr).pair (fun ps e => by cases e)⟩
theorem order13_pc (x y : S34) (hx : TinyN x ∧ mayN x = true) (hy : TinyN y ∧ mayN y = true) : PC 49 [evN x, evN y] (.s (.int .i64 (ordN x y))) :=
  pc_ag2 Tryz.func49 (by kernel_rfl) rfl x y _ fun w => (diff_order.calls 4294967310 _ _ _ _ _ w (order13_val _ (Nat.le_refl _) x y hx hy))
theorem both13_pc (l m : List S48) (hl : Oke l) (hm : Oke m) (x : List S48) (i : Int) (hx : (if checkE (bothV l m) = true then (bothV l m, (0 : Int)) else ([], 4)) = (x, i)) : PC 52 [.sl 0 3 (l.map evE), .sl 0 3 (m.map evE)] (.tu [.sl 5 3 (x.map evE), .s (.int .i64 i)]) :=
  pc_row2 flatE flatE Tryz.func52 (by kernel_rfl) rfl rfl rfl l m (by have := hl.len; omega) (by have := hm.len; omega) _ fun w A c A' c' hC hc hC' hc' =>
    (diff_Both.calls A c l A' c' m x i w hC hc hC' hc' (by
      unfold diff_Both.f
      rw [if_pos ⟨hl.len, hm.len, fun x h => (hl.tiny x h).1, fun x h => (hm.tiny x h).1⟩, if_pos ⟨hl.check, hm.check⟩, hx])).mono fun e w' ⟨v, he, hr, hb⟩ => ⟨_, he, hb, fun F => (flatE.res hr).pair (fun ps e => by cases e)⟩
theorem turn13_pc (l : List S48) (hl : Oke l) : PC 51 [.sl 0 3 (l.map evE)] (.tu [.sl 5 3 ((l.map turnE).map evE), .s (.int .i64 0)]) :=
  pc_row flatE Tryz.func51 (by kernel_rfl) rfl rfl l (by have := hl.len; omega) _ fun w A c hC hc =>
    (diff_Turn.calls A c l _ _ w hC hc (by
      unfold diff_Turn.f
      rw [if_pos ⟨by have := hl.len; omega, fun x h => (hl.tiny x h).1⟩, if_pos hl.check])).mono fun e w' ⟨v, he, hr, hb⟩ => ⟨_, he, hb, fun F => (flatE.res hr).pair (fun ps e => by cases e)⟩
end Go.Proofs.YtohdmmafjpjmfaaGreatDoor.Q
end
section
namespace Go.Proofs.YtohdmmafjpjmfaaGreatDoor.Q
open Go.Proofs.YtohdmmafjpjmfaaGreatDoor.QB.D
open Go Go.RowKit Go.Lib Go.Proofs.YtohdmmafjpjmfaaGreatDoorW.PrintWords Go.Ev
set_option linter.unusedVariables false
set_option maxRecDepth 100000
theorem checkE_bad {l : List S48} {i : Nat} (hil : i < l.length) (h : ¬ okAt l i hil) : checkE l = false := by
  rw [Bool.eq_false_iff]
  intro e
  exact h ((checkE_iff l).1 e i hil)
theorem edE_bad {l : List S48} {i : Nat} (hil : i < l.length) (h : ¬ (mayN l[i].f0 = true ∧ l[i].f1 ≠ 0 ∧ l[i].f1 ≤ 1099511627776 ∧ -1099511627776 ≤ l[i].f1)) : checkE l = false :=
  checkE_bad hil (fun e => h ((edE_iff _).1 e.1))
theorem check13_pc (l : List S48) (hl : l.length ≤ 4294967296) (ht : ∀ x ∈ l, TinyN x.f0) : PC 32 [.sl 0 3 (l.map evE)] (.s (.int .i64 (okV (checkE l)))) := by
  refine pc_of tt_ok tt_follows Tryz.func32 rfl (by kernel_rfl) (by kernel_rfl) (Nat.le_of_ble_eq_true rfl) rfl ?_
  conv => whnf
  refine ⟨Nat, fun i => i ≤ l.length ∧ ∀ j (hj : j < l.length), j < i → okAt l j hj, fun i => [(21, .s (.int .i64 i))], [0, 15, 18], fun i => l.length - i, 0, ⟨Nat.zero_le _, fun j _ h => absurd h (Nat.not_lt_zero _)⟩, ?_, fun i hi => ?_⟩
  · repeat' (first | exact trivial | exact rfl | refine ⟨?_, ?_⟩)
  · obtain ⟨h1, h2⟩ := hi
    conv => whnf
    constructor
    · intro h
      have hil := ltm h
      have bi := ht _ (List.getElem_mem hil)
      conv => whnf
      refine ⟨_, idx_map evE l i hil, ?_⟩
      conv => whnf
      refine ⟨_, nodeMay_pc l[i].f0 bi, ?_⟩
      conv => whnf
      constructor
      · intro g0
        have g0 : mayN l[i].f0 = false := by simpa using g0
        conv => whnf
        refine ⟨by kernel_rfl, ?_⟩
        conv => whnf
        rw [edE_bad hil (fun e => by rw [g0] at e; cases e.1)] <;> rfl
      · intro g0
        have g0 : mayN l[i].f0 = true := by simpa using g0
        conv => whnf
        constructor
        · intro g1
          have g1 : l[i].f1 = 0 := by simpa using g1
          conv => whnf
          refine ⟨by kernel_rfl, ?_⟩
          conv => whnf
          rw [edE_bad hil (fun e => e.2.1 g1)] <;> rfl
        · intro g1
          have g1 : l[i].f1 ≠ 0 := by simpa using g1
          conv => whnf
          constructor
          · intro g2
            have g2 := of_decide_eq_true g2
            conv => whnf
            refine ⟨by kernel_rfl, ?_⟩
            conv => whnf
            rw [edE_bad hil (fun e => absurd e.2.2.1 (by omega))] <;> rfl
          · intro g2
            have g2 := of_decide_eq_false g2
            conv => whnf
            constructor
            · intro g3
              have g3 := of_decide_eq_true g3
              conv => whnf
              refine ⟨by kernel_rfl, ?_⟩
              conv => whnf
              rw [edE_bad hil (fun e => absurd e.2.2.2 (by omega))] <;> rfl
            · intro g3
              have g3 := of_decide_eq_false g3
              have hed : edE l[i] = true := (edE_iff _).2 ⟨g0, g1, by omega, by omega⟩
              conv => whnf
              constructor
              · intro g4
                have g4 := of_decide_eq_true g4
                obtain ⟨m, rfl⟩ : ∃ m, i = m + 1 := ⟨i - 1, by omega⟩
                have hml : m < l.length := by omega
                have okm := h2 m hml (by omega)
                conv => whnf
                refine ⟨_, idx_mapI evE l m (by rw [wrapI (by omega)]; omega) hml, ?_⟩
                conv => whnf
                refine ⟨_, order13_pc l[m].f0 l[m + 1].f0 ⟨ht _ (List.getElem_mem hml), ((edE_iff _).1 okm.1).1⟩ ⟨bi, g0⟩, ?_⟩
                conv => whnf
                refine ⟨by kernel_rfl, ?_⟩
                conv => whnf
                constructor
                · intro g5
                  have g5 : ¬ ordN l[m].f0 l[m + 1].f0 < 0 := by have := of_decide_eq_true g5; omega
                  conv => whnf
                  rw [checkE_bad hil (fun e => g5 (e.2 m rfl hml))] <;> rfl
                · intro g5
                  have g5 : ordN l[m].f0 l[m + 1].f0 < 0 := by have := of_decide_eq_false g5; omega
                  conv => whnf
                  refine ⟨m + 1 + 1, ⟨hil, fun j hj g => ?_⟩, less1 hil, ⟨⟨incI hil hl, trivial, trivial⟩, ⟨rfl, trivial, rfl, trivial, rfl, trivial, trivial⟩⟩⟩
                  by_cases hji : j < m + 1
                  · exact h2 j hj hji
                  · obtain rfl : j = m + 1 := by omega
                    exact ⟨hed, fun m' e hm => by obtain rfl : m' = m := by omega
                                                  exact g5⟩
              · intro g4
                have g4 := of_decide_eq_false g4
                obtain rfl : i = 0 := by omega
                conv => whnf
                refine ⟨by kernel_rfl, ?_⟩
                conv => whnf
                refine ⟨0 + 1, ⟨hil, fun j hj g => ?_⟩, less1 hil, ⟨⟨incI hil hl, trivial, trivial⟩, ⟨rfl, trivial, rfl, trivial, rfl, trivial, trivial⟩⟩⟩
                obtain rfl : j = 0 := by omega
                exact ⟨hed, fun m' e hm => by omega⟩
    · intro h
      have hil := gem h h1
      conv => whnf
      rw [(checkE_iff l).2 (fun j hj => h2 j hj (by omega))] <;> rfl
theorem len1' {n k : Nat} (h : n ≤ 1000000) (hk : k ≤ 100) : n + 1 ≤ maxLen ∧ (n + 1) * k ≤ 140737488355328 := by
  constructor
  · unfold maxLen; omega
  · have : (n + 1) * k ≤ 1000001 * 100 := Nat.mul_le_mul (by omega) hk
    omega
theorem filter_take {α : Type} (p : α → Bool) (l : List α) (i : Nat) (h : i < l.length) : (l.take (i + 1)).filter p = (l.take i).filter p ++ (if p l[i] = true then [l[i]] else []) := by
  rw [List.take_succ_eq_append_getElem h, List.filter_append]
  congr 1
  by_cases e : p l[i] = true
  · rw [if_pos e, List.filter_cons_of_pos e]; rfl
  · rw [if_neg e, List.filter_cons_of_neg e]; rfl
theorem filter_le {α : Type} (p : α → Bool) (l : List α) (i : Nat) : ((l.take i).filter p).length ≤ l.length := Nat.le_trans (List.length_filter_le _ _) (by rw [List.length_take]; omega)
theorem rwith_pc (l : List S34) (t : S34) (hl : l.length ≤ 200000) (hb : ∀ x ∈ l, Brief x ∧ mayN x = true) (bt : Brief t ∧ mayN t = true) : PC 73 [.sl 0 2 (l.map evN), evN t] (.sl 0 2 ((rwithN l t).map evN)) := by
  obtain ⟨p, hp⟩ : ∃ p : S34 → Bool, p = fun x => decide (ordN x t < 0) := ⟨_, rfl⟩
  obtain ⟨q, hq⟩ : ∃ q : S34 → Bool, q = fun x => decide (ordN t x < 0) := ⟨_, rfl⟩
  have wP : ∀ x ∈ l, PC 53 [evN x, evN t] (.s (.bool (p x))) := fun x hx => by subst hp; exact less5_pc x t (hb x hx).1 bt.1 (hb x hx).2 bt.2
  have wQ : ∀ x ∈ l, PC 53 [evN t, evN x] (.s (.bool (q x))) := fun x hx => by subst hq; exact less5_pc t x bt.1 (hb x hx).1 bt.2 (hb x hx).2
  have hr : rwithN l t = l.filter p ++ [t] ++ l.filter q := by rw [hp, hq]; rfl
  rw [hr]
  clear hp hq hr hb bt
  refine pc_of tt_ok tt_follows Tryz.func73 rfl (by kernel_rfl) (by kernel_rfl) (Nat.le_of_ble_eq_true rfl) rfl ?_
  conv => whnf
  refine ⟨Nat, fun i => i ≤ l.length, fun i => [(15, .sl 28 2 (((l.take i).filter p).map evN)), (18, .s (.int .i64 i)), (80, .fr (((l.take i).filter p).map evN).length 2)], [0, 9, 10, 12], fun i => l.length - i, 0, Nat.zero_le _, ?_, fun i hi => ?_⟩
  · refine ⟨⟨⟨rfl, Or.inr rfl, Or.inr (Or.inr rfl)⟩, Nat.le_refl _, rfl, trivial, Or.inl rfl, trivial, trivial⟩, ?_⟩
    repeat' (first | exact trivial | exact rfl | refine ⟨?_, ?_⟩)
  conv => whnf
  constructor
  · intro h
    have hil := ltm h
    have hst := filter_take p l i hil
    have hle := filter_le p l i
    conv => whnf
    refine ⟨_, idx_map evN l i hil, ?_⟩
    conv => whnf
    refine ⟨_, wP l[i] (List.getElem_mem hil), ?_⟩
    conv => whnf
    refine ⟨by kernel_rfl, ?_⟩
    conv => whnf
    constructor
    · intro g
      have g : p l[i] = true := g
      rw [if_pos g] at hst
      conv => whnf
      refine ⟨_, idx_map evN l i hil, ?_⟩
      conv => whnf
      refine ⟨by rw [List.length_map]; exact len1' (by omega) (by decide), ?_⟩
      conv => whnf
      refine ⟨rfl, ?_⟩
      conv => whnf
      refine ⟨i + 1, hil, less1 hil, ⟨⟨⟨?_, Or.inl rfl, Or.inr (Or.inl rfl)⟩, Nat.le_refl _, incI hil (by omega), trivial, Or.inr ?_, trivial, trivial⟩, ?_⟩⟩
      · rw [hst, List.map_append]; rfl
      · exact congrArg (fun l => PV.fr (List.length l) 2) (by rw [hst, List.map_append]; rfl : ((l.take i).filter p).map evN ++ [evN l[i]] = ((l.take (i + 1)).filter p).map evN)
      · repeat' (first | exact trivial | exact rfl | refine ⟨?_, ?_⟩)
    · intro g
      have g : p l[i] = false := g
      rw [if_neg (by rw [g]; decide), List.append_nil] at hst
      conv => whnf
      refine ⟨i + 1, hil, less1 hil, ⟨⟨⟨?_, Or.inl rfl, Or.inr (Or.inl rfl)⟩, Nat.le_refl _, incI hil (by omega), trivial, Or.inr ?_, trivial, trivial⟩, ?_⟩⟩
      · rw [hst]
      · exact congrArg (fun l => PV.fr (List.length (List.map evN l)) 2) hst.symm
      · repeat' (first | exact trivial | exact rfl | refine ⟨?_, ?_⟩)
  intro h
  have hil := gem h hi
  have hta : l.take i = l := by rw [hil, List.take_length]
  have hle := filter_le p l i
  conv => whnf
  refine ⟨by rw [List.length_map]; exact len1' (by omega) (by decide), ?_⟩
  conv => whnf
  refine ⟨rfl, ?_⟩
  conv => whnf
  have e0 : ((l.take i).filter p).map evN ++ [evN t] = (l.filter p ++ [t] ++ (l.take 0).filter q).map evN := by rw [hta]; simp
  have hlp : (l.filter p).length ≤ l.length := List.length_filter_le _ _
  refine ⟨Nat, fun j => j ≤ l.length, fun j => [(15, .sl 28 2 ((l.filter p ++ [t] ++ (l.take j).filter q).map evN)), (21, .s (.int .i64 j)), (80, .fr ((l.filter p ++ [t] ++ (l.take j).filter q).map evN).length 2)], [0, 9, 10, 12], fun j => l.length - j, 0, Nat.zero_le _, ?_, fun j hj => ?_⟩
  · refine ⟨⟨⟨e0, Or.inl rfl, Or.inr (Or.inl rfl)⟩, Nat.le_refl _, rfl, trivial, Or.inr (congrArg (fun l => PV.fr (List.length l) 2) e0), trivial, trivial⟩, ?_⟩
    repeat' (first | exact trivial | exact rfl | refine ⟨?_, ?_⟩)
  conv => whnf
  constructor
  · intro h
    have hjl := ltm h
    have hst := filter_take q l j hjl
    have hle := filter_le q l j
    conv => whnf
    refine ⟨_, idx_map evN l j hjl, ?_⟩
    conv => whnf
    refine ⟨_, wQ l[j] (List.getElem_mem hjl), ?_⟩
    conv => whnf
    refine ⟨by kernel_rfl, ?_⟩
    conv => whnf
    constructor
    · intro g
      have g : q l[j] = true := g
      rw [if_pos g] at hst
      conv => whnf
      refine ⟨_, idx_map evN l j hjl, ?_⟩
      conv => whnf
      refine ⟨by rw [List.length_map, List.length_append, List.length_append]; exact len1' (by show _ + 1 + _ ≤ _; omega) (by decide), ?_⟩
      conv => whnf
      refine ⟨rfl, ?_⟩
      conv => whnf
      have e1 : (l.filter p ++ [t] ++ (l.take j).filter q).map evN ++ [evN l[j]] = (l.filter p ++ [t] ++ (l.take (j + 1)).filter q).map evN := by rw [hst]; simp
      refine ⟨j + 1, hjl, less1 hjl, ⟨⟨⟨e1, Or.inl rfl, Or.inr (Or.inl rfl)⟩, Nat.le_refl _, incI hjl (by omega), trivial, Or.inr (congrArg (fun l => PV.fr (List.length l) 2) e1), trivial, trivial⟩, ?_⟩⟩
      repeat' (first | exact trivial | exact rfl | refine ⟨?_, ?_⟩)
    · intro g
      have g : q l[j] = false := g
      rw [if_neg (by rw [g]; decide), List.append_nil] at hst
      conv => whnf
      have e1 : (l.filter p ++ [t] ++ (l.take j).filter q).map evN = (l.filter p ++ [t] ++ (l.take (j + 1)).filter q).map evN := by rw [hst]
      refine ⟨j + 1, hjl, less1 hjl, ⟨⟨⟨e1, Or.inl rfl, Or.inr (Or.inl rfl)⟩, Nat.le_refl _, incI hjl (by omega), trivial, Or.inr (congrArg (fun l => PV.fr (List.length l) 2) e1), trivial, trivial⟩, ?_⟩⟩
      repeat' (first | exact trivial | exact rfl | refine ⟨?_, ?_⟩)
  intro h
  have hjl := gem h hj
  conv => whnf
  exact ⟨by rw [show l.take j = l by rw [hjl, List.take_length]], Or.inl rfl, trivial⟩
theorem set5_pc (l : List S34) (hl : l.length ≤ 100000) (hb : ∀ x ∈ l, Brief x) (hm : ∀ x ∈ l, mayN x = true) : PC 57 [.sl 0 2 (l.map evN)] (.sl 0 2 ((rsetN l).map evN)) := by
  have facts : ∀ i, i ≤ l.length → (∀ x ∈ (l.take i).foldl rwithN [], Brief x ∧ mayN x = true) ∧ ((l.take i).foldl rwithN []).length ≤ i := by
    intro i
    induction i with
    | zero => intro _; exact ⟨(fun x h => by cases h), Nat.le_refl _⟩
    | succ i ih =>
      intro hi
      obtain ⟨h1, h2⟩ := ih (by omega)
      have bt := hb _ (List.getElem_mem (by omega : i < l.length))
      have mt := hm _ (List.getElem_mem (by omega : i < l.length))
      have gt := mayN_good bt.tiny mt
      have hg : ∀ x ∈ (l.take i).foldl rwithN [], GoodN x := fun x hx => mayN_good (h1 x hx).1.tiny (h1 x hx).2
      rw [List.take_succ_eq_append_getElem (by omega : i < l.length), List.foldl_append]
      refine ⟨fun x hx => ?_, ?_⟩
      · rcases (mem_rwithN hg gt x).1 hx with e | e
        · exact h1 x e
        · subst e; exact ⟨bt, mt⟩
      · have := rwithN_len hg gt
        show (rwithN _ _).length ≤ _
        omega
  refine pc_of tt_ok tt_follows Tryz.func57 rfl (by kernel_rfl) (by kernel_rfl) (Nat.le_of_ble_eq_true rfl) rfl ?_
  conv => whnf
  refine ⟨Nat, fun i => i ≤ l.length, fun i => [(9, .sl 0 2 (((l.take i).foldl rwithN []).map evN)), (12, .s (.int .i64 i))], [0, 6], fun i => l.length - i, 0, Nat.zero_le _, ?_, fun i hi => ?_⟩
  · refine ⟨⟨⟨rfl, Or.inr rfl, Or.inl rfl⟩, trivial, rfl, trivial, trivial⟩, ?_⟩
    repeat' (first | exact trivial | exact rfl | refine ⟨?_, ?_⟩)
  conv => whnf
  constructor
  · intro h
    have hil := ltm h
    obtain ⟨f1, f2⟩ := facts i hi
    have hst : (l.take (i + 1)).foldl rwithN [] = rwithN ((l.take i).foldl rwithN []) l[i] := by rw [List.take_succ_eq_append_getElem hil, List.foldl_append]; rfl
    conv => whnf
    refine ⟨_, idx_map evN l i hil, ?_⟩
    conv => whnf
    refine ⟨_, rwith_pc ((l.take i).foldl rwithN []) l[i] (by omega) f1 ⟨hb _ (List.getElem_mem hil), hm _ (List.getElem_mem hil)⟩, ?_⟩
    conv => whnf
    refine ⟨i + 1, hil, less1 hil, ⟨⟨⟨by rw [hst], Or.inl rfl, Or.inl rfl⟩, trivial, incI hil (by omega), trivial, trivial⟩, ?_⟩⟩
    repeat' (first | exact trivial | exact rfl | refine ⟨?_, ?_⟩)
  · intro h
    have hil := gem h hi
    conv => whnf
    exact ⟨by rw [show l.take i = l by rw [hil, List.take_length]]; rfl, Or.inl rfl, trivial⟩
theorem may13_pc (l : List S48) (hl : l.length ≤ 4294967296) (hb : ∀ x ∈ l, Brief x.f0) : PC 36 [.sl 0 3 (l.map evE)] (.s (.bool (checkE l))) := by
  refine pc_of tt_ok tt_follows Tryz.func36 rfl (by kernel_rfl) (by kernel_rfl) (Nat.le_of_ble_eq_true rfl) rfl ?_
  conv => whnf
  refine ⟨Nat, fun i => i ≤ l.length ∧ ∀ j (hj : j < l.length), j < i → okAt l j hj, fun i => [(9, .s (.int .i64 i))], [0], fun i => l.length - i, 0, ⟨Nat.zero_le _, fun j _ h => absurd h (Nat.not_lt_zero _)⟩, ?_, fun i hi => ?_⟩
  · repeat' (first | exact trivial | exact rfl | refine ⟨?_, ?_⟩)
  · obtain ⟨h1, h2⟩ := hi
    conv => whnf
    constructor
    · intro h
      have hil := ltm h
      have bi := hb _ (List.getElem_mem hil)
      conv => whnf
      refine ⟨_, idx_map evE l i hil, ?_⟩
      conv => whnf
      refine ⟨_, ref5May_pc l[i].f0 bi, ?_⟩
      conv => whnf
      constructor
      · intro g0
        have g0 : mayN l[i].f0 = false := by simpa using g0
        conv => whnf
        refine ⟨by kernel_rfl, ?_⟩
        conv => whnf
        rw [edE_bad hil (fun e => by rw [g0] at e; cases e.1)] <;> rfl
      · intro g0
        have g0 : mayN l[i].f0 = true := by simpa using g0
        conv => whnf
        refine ⟨_, idx_map evE l i hil, ?_⟩
        conv => whnf
        constructor
        · intro g1
          have g1 : l[i].f1 = 0 := by simpa using g1
          conv => whnf
          refine ⟨by kernel_rfl, ?_⟩
          conv => whnf
          rw [edE_bad hil (fun e => e.2.1 g1)] <;> rfl
        · intro g1
          have g1 : l[i].f1 ≠ 0 := by simpa using g1
          conv => whnf
          refine ⟨_, idx_map evE l i hil, ?_⟩
          conv => whnf
          constructor
          · intro g2
            have g2 := of_decide_eq_true g2
            conv => whnf
            refine ⟨by kernel_rfl, ?_⟩
            conv => whnf
            rw [edE_bad hil (fun e => absurd e.2.2.1 (by omega))] <;> rfl
          · intro g2
            have g2 := of_decide_eq_false g2
            conv => whnf
            refine ⟨_, idx_map evE l i hil, ?_⟩
            conv => whnf
            constructor
            · intro g3
              have g3 := of_decide_eq_true g3
              conv => whnf
              refine ⟨by kernel_rfl, ?_⟩
              conv => whnf
              rw [edE_bad hil (fun e => absurd e.2.2.2 (by omega))] <;> rfl
            · intro g3
              have g3 := of_decide_eq_false g3
              have hed : edE l[i] = true := (edE_iff _).2 ⟨g0, g1, by omega, by omega⟩
              conv => whnf
              constructor
              · intro g4
                have g4 := of_decide_eq_true g4
                obtain ⟨m, rfl⟩ : ∃ m, i = m + 1 := ⟨i - 1, by omega⟩
                have hml : m < l.length := by omega
                have okm := h2 m hml (by omega)
                conv => whnf
                refine ⟨_, idx_mapI evE l m (by rw [wrapI (by omega)]; omega) hml, ?_⟩
                conv => whnf
                refine ⟨_, idx_map evE l (m + 1) hil, ?_⟩
                conv => whnf
                refine ⟨_, less5_pc l[m].f0 l[m + 1].f0 (hb _ (List.getElem_mem hml)) bi ((edE_iff _).1 okm.1).1 g0, ?_⟩
                conv => whnf
                refine ⟨by kernel_rfl, ?_⟩
                conv => whnf
                constructor
                · intro g5
                  have g5 : ¬ ordN l[m].f0 l[m + 1].f0 < 0 := by simpa using g5
                  conv => whnf
                  rw [checkE_bad hil (fun e => g5 (e.2 m rfl hml))] <;> rfl
                · intro g5
                  have g5 : ordN l[m].f0 l[m + 1].f0 < 0 := by simpa using g5
                  conv => whnf
                  refine ⟨m + 1 + 1, ⟨hil, fun j hj g => ?_⟩, less1 hil, ⟨⟨incI hil hl, trivial, trivial⟩, ⟨rfl, trivial, trivial⟩⟩⟩
                  by_cases hji : j < m + 1
                  · exact h2 j hj hji
                  · obtain rfl : j = m + 1 := by omega
                    exact ⟨hed, fun m' e hm => by obtain rfl : m' = m := by omega
                                                  exact g5⟩
              · intro g4
                have g4 := of_decide_eq_false g4
                obtain rfl : i = 0 := by omega
                conv => whnf
                refine ⟨by kernel_rfl, ?_⟩
                conv => whnf
                refine ⟨0 + 1, ⟨hil, fun j hj g => ?_⟩, less1 hil, ⟨⟨incI hil hl, trivial, trivial⟩, ⟨rfl, trivial, trivial⟩⟩⟩
                obtain rfl : j = 0 := by omega
                exact ⟨hed, fun m' e hm => by omega⟩
    · intro h
      have hil := gem h h1
      conv => whnf
      rw [(checkE_iff l).2 (fun j hj => h2 j hj (by omega))] <;> rfl
theorem cntN_take {l : List S34} {i : Nat} (hil : i < l.length) (x : S34) : cntN (l.take (i + 1)) x = cntN (l.take i) x + (if l[i] = x then 1 else 0) := by
  rw [List.take_succ_eq_append_getElem hil, cntN_append, cntN_cons]
  simp [cntN]
theorem many13_pc (l : List S34) (x : S34) (hl : l.length ≤ 4294967296) : PC 74 [.sl 0 2 (l.map evN), evN x] (.s (.int .i64 (cntN l x))) := by
  refine pc_of tt_ok tt_follows Tryz.func74 rfl (by kernel_rfl) (by kernel_rfl) (Nat.le_of_ble_eq_true rfl) rfl ?_
  conv => whnf
  refine ⟨Nat, fun i => i ≤ l.length, fun i => [(15, .s (.int .i64 (cntN (l.take i) x))), (18, .s (.int .i64 i))], [0, 9, 10, 12], fun i => l.length - i, 0, Nat.zero_le _, ?_, fun i hi => ?_⟩
  · repeat' (first | exact trivial | exact rfl | refine ⟨?_, ?_⟩)
  · conv => whnf
    constructor
    · intro h
      have hil := ltm h
      have hr := cntN_range (l.take i) x
      rw [List.length_take] at hr
      conv => whnf
      refine ⟨_, idx_map evN l i hil, ?_⟩
      conv => whnf
      refine ⟨eqtN, ?_⟩
      conv => whnf
      refine ⟨by kernel_rfl, ?_⟩
      conv => whnf
      constructor
      · intro g
        have g : l[i] = x := eqN_iff.1 g
        conv => whnf
        refine ⟨i + 1, hil, less1 hil, ⟨⟨?_, trivial, incI hil hl, trivial, trivial⟩, ?_⟩⟩
        · rw [cntN_take hil, if_pos g]
          exact congrArg (fun n => PV.s (.int .i64 n)) (wrapI (by omega))
        · repeat' (first | exact trivial | exact rfl | refine ⟨?_, ?_⟩)
      · intro g
        have g : ¬ l[i] = x := fun e => by have := eqN_iff.2 e; rw [show eqN l[i] x = false from g] at this; cases this
        conv => whnf
        refine ⟨i + 1, hil, less1 hil, ⟨⟨?_, trivial, incI hil hl, trivial, trivial⟩, ?_⟩⟩
        · rw [cntN_take hil, if_neg g, Int.add_zero]; rfl
        · repeat' (first | exact trivial | exact rfl | refine ⟨?_, ?_⟩)
    · intro h
      have hil := gem h hi
      conv => whnf
      rw [show l.take i = l by rw [hil, List.take_length]] <;> rfl
theorem byE_take {l : List S48} {i : Nat} (hil : i < l.length) (x : S34) : byE (l.take (i + 1)) x = byE (l.take i) x + (if l[i].f0 = x then l[i].f1 else 0) := by
  rw [List.take_succ_eq_append_getElem hil, byE_append, byE_cons]
  simp [byE]
theorem by13_pc (l : List S48) (x : S34) (hl : l.length ≤ 1000) (hin : InE l) : PC 58 [.sl 0 3 (l.map evE), evN x] (.s (.int .i64 (byE l x))) := by
  refine pc_of tt_ok tt_follows Tryz.func58 rfl (by kernel_rfl) (by kernel_rfl) (Nat.le_of_ble_eq_true rfl) rfl ?_
  conv => whnf
  refine ⟨Nat, fun i => i ≤ l.length, fun i => [(15, .s (.int .i64 (byE (l.take i) x))), (18, .s (.int .i64 i))], [0, 9, 10, 12], fun i => l.length - i, 0, Nat.zero_le _, ?_, fun i hi => ?_⟩
  · repeat' (first | exact trivial | exact rfl | refine ⟨?_, ?_⟩)
  · conv => whnf
    constructor
    · intro h
      have hil := ltm h
      have hr := byE_far (l := l.take (i + 1)) (fun y hy => hin y (List.mem_of_mem_take hy)) x
      rw [List.length_take] at hr
      conv => whnf
      refine ⟨_, idx_map evE l i hil, ?_⟩
      conv => whnf
      refine ⟨eqtN, ?_⟩
      conv => whnf
      refine ⟨by kernel_rfl, ?_⟩
      conv => whnf
      constructor
      · intro g
        have g : l[i].f0 = x := eqN_iff.1 g
        conv => whnf
        refine ⟨_, idx_map evE l i hil, ?_⟩
        conv => whnf
        refine ⟨i + 1, hil, less1 hil, ⟨⟨?_, trivial, incI hil (by omega), trivial, trivial⟩, ?_⟩⟩
        · rw [byE_take hil, if_pos g] at *
          exact congrArg (fun n => PV.s (.int .i64 n)) (wrapI (by omega))
        · repeat' (first | exact trivial | exact rfl | refine ⟨?_, ?_⟩)
      · intro g
        have g : ¬ l[i].f0 = x := fun e => by have := eqN_iff.2 e; rw [show eqN l[i].f0 x = false from g] at this; cases this
        conv => whnf
        refine ⟨i + 1, hil, less1 hil, ⟨⟨?_, trivial, incI hil (by omega), trivial, trivial⟩, ?_⟩⟩
        · rw [byE_take hil, if_neg g, Int.add_zero]; rfl
        · repeat' (first | exact trivial | exact rfl | refine ⟨?_, ?_⟩)
    · intro h
      have hil := gem h hi
      conv => whnf
      rw [show l.take i = l by rw [hil, List.take_length]] <;> rfl
theorem len1 {n k : Nat} (h : n ≤ 1000000) (hk : k ≤ 100) : n + 1 ≤ maxLen ∧ (n + 1) * k ≤ 140737488355328 := by
  constructor
  · unfold maxLen; omega
  · have : (n + 1) * k ≤ 1000001 * 100 := Nat.mul_le_mul (by omega) hk
    omega
theorem lenS {n m k : Nat} (h : n + m ≤ 1000000) (hk : k ≤ 100) : n + m ≤ maxLen ∧ (n + m) * k ≤ 140737488355328 := by
  constructor
  · unfold maxLen; omega
  · have : (n + m) * k ≤ 1000000 * 100 := Nat.mul_le_mul (by omega) hk
    omega
theorem diff13_pc (l m : List S34) (hl : l.length ≤ 1000) (hm : m.length ≤ 1000) (bl : ∀ x ∈ l, Brief x ∧ mayN x = true) (bm : ∀ x ∈ m, Brief x ∧ mayN x = true) : PC 59 [.sl 0 2 (l.map evN), .sl 0 2 (m.map evN)] (.sl 5 3 ((diffV l m).map evE)) := by
  have hs := diff13_set l m (by omega) (by omega) (fun x h => ⟨(bl x h).1.tiny, (bl x h).2⟩) (fun x h => ⟨(bm x h).1.tiny, (bm x h).2⟩)
  have hok := diffC_ok l m (by omega) (by omega) (fun x h => ⟨(bl x h).1.tiny, (bl x h).2⟩) (fun x h => ⟨(bm x h).1.tiny, (bm x h).2⟩)
  have hlm : ∀ x ∈ l ++ m, Brief x ∧ mayN x = true := fun x hx => by
    rcases List.mem_append.1 hx with h | h
    · exact bl x h
    · exact bm x h
  have hsl : (rsetN (l ++ m)).length ≤ 65536 := by rw [← hs, (sortN_perm _).length_eq, List.length_map]; exact hok.len
  have wS := set5_pc (l ++ m) (by rw [List.length_append]; omega) (fun x h => (hlm x h).1) (fun x h => (hlm x h).2)
  rw [List.map_append] at wS
  unfold diffV
  rw [hs]
  generalize rsetN (l ++ m) = S at wS hsl
  have e1 : (l.map evN).length = l.length := List.length_map ..
  have e2 : (m.map evN).length = m.length := List.length_map ..
  refine pc_of tt_ok tt_follows Tryz.func59 rfl (by kernel_rfl) (by kernel_rfl) (Nat.le_of_ble_eq_true rfl) rfl ?_
  conv => whnf
  refine ⟨by show 0 + _ ≤ _ ∧ (0 + _) * 32 ≤ _; rw [e1]; exact lenS (by omega) (by decide), ?_⟩
  conv => whnf
  refine ⟨by show (l.map evN).length + _ ≤ _ ∧ ((l.map evN).length + _) * 32 ≤ _; rw [e1, e2]; exact lenS (by omega) (by decide), ?_⟩
  conv => whnf
  refine ⟨rfl, ?_⟩
  conv => whnf
  refine ⟨_, wS, ?_⟩
  conv => whnf
  refine ⟨Nat, fun i => i ≤ S.length, fun i => [(18, .sl 46 3 ((editsF (diffC l m) (S.take i)).map evE)), (21, .s (.int .i64 i)), (15, .sl 0 2 (S.map evN)), (134, .fr ((editsF (diffC l m) (S.take i)).map evE).length 3)], [0, 3, 12], fun i => S.length - i, 0, Nat.zero_le _, ?_, fun i hi => ?_⟩
  · exact ⟨⟨⟨rfl, Or.inr rfl, Or.inr (Or.inr rfl)⟩, Nat.le_refl _, rfl, trivial, ⟨rfl, Or.inl rfl, Or.inl rfl⟩, trivial, Or.inl rfl, trivial, trivial⟩, ⟨rfl, trivial, rfl, trivial, rfl, trivial, trivial⟩⟩
  · conv => whnf
    constructor
    · intro h
      have hil := ltm h
      have r1 := cntN_range m S[i]
      have r2 := cntN_range l S[i]
      have hsn := editsF_snoc (diffC l m) (S.take i) S[i]
      rw [← List.take_succ_eq_append_getElem hil, look_diff] at hsn
      have hel := editsF_len (diffC l m) (S.take i)
      rw [List.length_take] at hel
      have hw : IntKind.wrap .i64 (cntN m S[i] - cntN l S[i]) = cntN m S[i] - cntN l S[i] := wrapI (by omega)
      conv => whnf
      refine ⟨_, idx_map evN S i hil, ?_⟩
      conv => whnf
      refine ⟨_, many13_pc m S[i] (by omega), ?_⟩
      conv => whnf
      refine ⟨_, idx_map evN S i hil, ?_⟩
      conv => whnf
      refine ⟨_, many13_pc l S[i] (by omega), ?_⟩
      conv => whnf
      refine ⟨by kernel_rfl, ?_⟩
      conv => whnf
      rw [hw]
      constructor
      · intro g
        have g : cntN m S[i] - cntN l S[i] ≠ 0 := by simpa using g
        rw [if_neg g] at hsn
        conv => whnf
        refine ⟨_, idx_map evN S i hil, ?_⟩
        conv => whnf
        refine ⟨by rw [List.length_map]; exact len1 (by omega) (by decide), ?_⟩
        conv => whnf
        refine ⟨rfl, ?_⟩
        conv => whnf
        refine ⟨i + 1, hil, less1 hil, ⟨⟨⟨?_, Or.inl rfl, Or.inr (Or.inl rfl)⟩, Nat.le_refl _, incI hil (by omega), trivial, ⟨rfl, Or.inl rfl, Or.inl rfl⟩, trivial, Or.inr ?_, trivial, trivial⟩, ⟨rfl, trivial, rfl, trivial, rfl, trivial, trivial⟩⟩⟩
        · rw [hsn, List.map_append]; rfl
        · rw [hsn, List.map_append]; rfl
      · intro g
        have g : cntN m S[i] - cntN l S[i] = 0 := by simpa using g
        rw [if_pos g] at hsn
        conv => whnf
        refine ⟨i + 1, hil, less1 hil, ⟨⟨⟨?_, Or.inl rfl, Or.inr (Or.inl rfl)⟩, Nat.le_refl _, incI hil (by omega), trivial, ⟨rfl, Or.inl rfl, Or.inl rfl⟩, trivial, Or.inr ?_, trivial, trivial⟩, ⟨rfl, trivial, rfl, trivial, rfl, trivial, trivial⟩⟩⟩
        · rw [hsn] <;> rfl
        · rw [hsn] <;> rfl
    · intro h
      have hil := gem h hi
      conv => whnf
      exact ⟨by rw [show S.take i = S by rw [hil, List.take_length]], Or.inl rfl, Or.inr rfl⟩
theorem both13r_pc (a b : List S48) (oa : Oke a) (ob : Oke b) (ha : a.length ≤ 1000) (hb : b.length ≤ 1000) (ba : ∀ x ∈ a, Brief x.f0) (bb : ∀ x ∈ b, Brief x.f0) : PC 40 [.sl 0 3 (a.map evE), .sl 0 3 (b.map evE)] (.sl 5 3 ((bothV a b).map evE)) := by
  have hlm : ∀ x ∈ a.map (·.f0) ++ b.map (·.f0), Brief x ∧ mayN x = true := fun x hx => by
    rcases List.mem_append.1 hx with h | h
    · obtain ⟨y, hy, rfl⟩ := List.mem_map.1 h; exact ⟨ba y hy, (oa.tiny y hy).2⟩
    · obtain ⟨y, hy, rfl⟩ := List.mem_map.1 h; exact ⟨bb y hy, (ob.tiny y hy).2⟩
  have hr := rsetN_facts (a.map (·.f0) ++ b.map (·.f0)) (fun x hx => (hlm x hx).1.tiny) (fun x hx => (hlm x hx).2) [] IsSet.nil
  have hok := bothC_ok a b oa.len ob.len oa.tiny ob.tiny
  have hs : sortN ((countE [] (a ++ b)).map (·.1)) = rsetN (a.map (·.f0) ++ b.map (·.f0)) := by
    refine IsSet.ext (sorted_is hok.nodup (fun x hx => by obtain ⟨p, hp, rfl⟩ := List.mem_map.1 hx; exact hok.may p hp)) hr.1 (fun x => ?_)
    rw [(sortN_perm _).mem_iff, keys_countE, List.map_append]
    unfold rsetN
    rw [hr.2]
    simp
  have hsl : (rsetN (a.map (·.f0) ++ b.map (·.f0))).length ≤ 65536 := by rw [← hs, (sortN_perm _).length_eq, List.length_map]; exact hok.len
  have wS := set5_pc (a.map (·.f0) ++ b.map (·.f0)) (by rw [List.length_append, List.length_map, List.length_map]; omega) (fun x h => (hlm x h).1) (fun x h => (hlm x h).2)
  have hC : ∀ x, (lookC (countE [] (a ++ b)) x).getD 0 = byE a x + byE b x := fun x => by rw [look_countE, byE_append]; simp [lookC]
  unfold bothV
  rw [hs]
  generalize rsetN (a.map (·.f0) ++ b.map (·.f0)) = S at wS hsl
  generalize countE [] (a ++ b) = C at hC
  clear hs hr hok hlm
  refine pc_of tt_ok tt_follows Tryz.func40 rfl (by kernel_rfl) (by kernel_rfl) (Nat.le_of_ble_eq_true rfl) rfl ?_
  conv => whnf
  refine ⟨Nat, fun i => i ≤ a.length, fun i => [(15, .sl 26 2 (((a.take i).map (·.f0)).map evN)), (18, .s (.int .i64 i)), (74, .fr (((a.take i).map (·.f0)).map evN).length 2)], [0, 3, 12], fun i => a.length - i, 0, Nat.zero_le _, ?_, fun i hi => ?_⟩
  · exact ⟨⟨⟨rfl, Or.inr rfl, Or.inr (Or.inr rfl)⟩, Nat.le_refl _, rfl, trivial, Or.inl rfl, trivial, trivial⟩, ⟨rfl, trivial, rfl, trivial, rfl, trivial, trivial⟩⟩
  conv => whnf
  constructor
  · intro h
    have hil := ltm h
    have hst := take_succ_map (fun x : S48 => x.f0) a i hil
    conv => whnf
    refine ⟨_, idx_map evE a i hil, ?_⟩
    conv => whnf
    refine ⟨by rw [List.length_map, List.length_map, List.length_take]; exact len1 (by omega) (by decide), ?_⟩
    conv => whnf
    refine ⟨rfl, ?_⟩
    conv => whnf
    refine ⟨i + 1, hil, less1 hil, ⟨⟨⟨?_, Or.inl rfl, Or.inr (Or.inl rfl)⟩, Nat.le_refl _, incI hil (by omega), trivial, Or.inr ?_, trivial, trivial⟩, ⟨rfl, trivial, rfl, trivial, rfl, trivial, trivial⟩⟩⟩
    · rw [hst, List.map_append]; rfl
    · rw [hst, List.map_append]; rfl
  intro h
  have hil := gem h hi
  have hta : a.take i = a := by rw [hil, List.take_length]
  conv => whnf
  refine ⟨Nat, fun j => j ≤ b.length, fun j => [(15, .sl 26 2 ((a.map (·.f0) ++ (b.take j).map (·.f0)).map evN)), (21, .s (.int .i64 j)), (74, .fr ((a.map (·.f0) ++ (b.take j).map (·.f0)).map evN).length 2)], [0, 3, 12], fun j => b.length - j, 0, Nat.zero_le _, ?_, fun j hj => ?_⟩
  · exact ⟨⟨⟨by rw [hta]; simp, Or.inl rfl, Or.inr (Or.inl rfl)⟩, Nat.le_refl _, rfl, trivial, Or.inr (congrArg (fun n => PV.fr n 2) (by rw [hta]; simp : (((a.take i).map (fun x : S48 => x.f0)).map evN).length = ((a.map (·.f0) ++ (b.take 0).map (·.f0)).map evN).length)), trivial, trivial⟩, ⟨rfl, trivial, rfl, trivial, rfl, trivial, trivial⟩⟩
  conv => whnf
  constructor
  · intro h
    have hjl := ltm h
    have hst := take_succ_map (fun x : S48 => x.f0) b j hjl
    conv => whnf
    refine ⟨_, idx_map evE b j hjl, ?_⟩
    conv => whnf
    refine ⟨by rw [List.length_map, List.length_append, List.length_map, List.length_map, List.length_take]; exact len1 (by omega) (by decide), ?_⟩
    conv => whnf
    refine ⟨rfl, ?_⟩
    conv => whnf
    refine ⟨j + 1, hjl, less1 hjl, ⟨⟨⟨?_, Or.inl rfl, Or.inr (Or.inl rfl)⟩, Nat.le_refl _, incI hjl (by omega), trivial, Or.inr ?_, trivial, trivial⟩, ⟨rfl, trivial, rfl, trivial, rfl, trivial, trivial⟩⟩⟩
    · rw [hst]; simp only [List.map_append, List.append_assoc]; rfl
    · rw [hst]; simp only [List.map_append, List.append_assoc]; rfl
  intro h
  have hjl := gem h hj
  rw [show b.map (·.f0) = (b.take j).map (·.f0) by rw [hjl, List.take_length]] at wS
  conv => whnf
  refine ⟨_, wS, ?_⟩
  conv => whnf
  refine ⟨Nat, fun i => i ≤ S.length, fun i => [(24, .sl 72 3 ((editsF C (S.take i)).map evE)), (27, .s (.int .i64 i)), (15, .sl 0 2 (S.map evN)), (212, .fr ((editsF C (S.take i)).map evE).length 3)], [0, 3, 12], fun i => S.length - i, 0, Nat.zero_le _, ?_, fun i hi => ?_⟩
  · exact ⟨⟨⟨rfl, Or.inr rfl, Or.inr (Or.inr rfl)⟩, Nat.le_refl _, rfl, trivial, ⟨rfl, Or.inl rfl, Or.inl rfl⟩, trivial, Or.inl rfl, trivial, trivial⟩, ⟨rfl, trivial, rfl, trivial, rfl, trivial, trivial⟩⟩
  conv => whnf
  constructor
  · intro h
    have hil := ltm h
    have r1 := byE_far oa.inn S[i]
    have r2 := byE_far ob.inn S[i]
    have hsn := editsF_snoc C (S.take i) S[i]
    rw [← List.take_succ_eq_append_getElem hil, hC] at hsn
    have hel := editsF_len C (S.take i)
    rw [List.length_take] at hel
    have hw : IntKind.wrap .i64 (byE a S[i] + byE b S[i]) = byE a S[i] + byE b S[i] := wrapI (by omega)
    conv => whnf
    refine ⟨_, idx_map evN S i hil, ?_⟩
    conv => whnf
    refine ⟨_, by13_pc a S[i] ha oa.inn, ?_⟩
    conv => whnf
    refine ⟨_, idx_map evN S i hil, ?_⟩
    conv => whnf
    refine ⟨_, by13_pc b S[i] hb ob.inn, ?_⟩
    conv => whnf
    refine ⟨by kernel_rfl, ?_⟩
    conv => whnf
    rw [hw]
    constructor
    · intro g
      have g : byE a S[i] + byE b S[i] ≠ 0 := by simpa using g
      rw [if_neg g] at hsn
      conv => whnf
      refine ⟨_, idx_map evN S i hil, ?_⟩
      conv => whnf
      refine ⟨by rw [List.length_map]; exact len1 (by omega) (by decide), ?_⟩
      conv => whnf
      refine ⟨rfl, ?_⟩
      conv => whnf
      refine ⟨i + 1, hil, less1 hil, ⟨⟨⟨?_, Or.inl rfl, Or.inr (Or.inl rfl)⟩, Nat.le_refl _, incI hil (by omega), trivial, ⟨rfl, Or.inl rfl, Or.inl rfl⟩, trivial, Or.inr ?_, trivial, trivial⟩, ⟨rfl, trivial, rfl, trivial, rfl, trivial, trivial⟩⟩⟩
      · rw [hsn, List.map_append]; rfl
      · exact congrArg (fun l => PV.fr (List.length l) 3) (by rw [hsn, List.map_append]; rfl : (editsF C (S.take i)).map evE ++ [evE ⟨S[i], byE a S[i] + byE b S[i]⟩] = (editsF C (S.take (i + 1))).map evE)
    · intro g
      have g : byE a S[i] + byE b S[i] = 0 := by simpa using g
      rw [if_pos g] at hsn
      conv => whnf
      refine ⟨i + 1, hil, less1 hil, ⟨⟨⟨?_, Or.inl rfl, Or.inr (Or.inl rfl)⟩, Nat.le_refl _, incI hil (by omega), trivial, ⟨rfl, Or.inl rfl, Or.inl rfl⟩, trivial, Or.inr ?_, trivial, trivial⟩, ⟨rfl, trivial, rfl, trivial, rfl, trivial, trivial⟩⟩⟩
      · rw [hsn] <;> rfl
      · rw [hsn] <;> rfl
  · intro h
    have hil := gem h hi
    conv => whnf
    exact ⟨by rw [show S.take i = S by rw [hil, List.take_length]], Or.inl rfl, Or.inr rfl⟩
def fitsU (lm ln le : Int) (u : UV) : Int := if u.m > lm then 8 else if (u.s.length : Int) > ln then 9 else if u.e > le then 10 else 0
theorem okU_eq (u : UV) : okU u = (decide (0 ≤ u.m ∧ u.m ≤ 1099511627776) && (decide (0 ≤ u.e ∧ u.e ≤ 1099511627776) && (checkE u.s && !u.s.any (fun x => decide (x.f1 < 0))))) := by
  unfold okU
  rw [Bool.eq_iff_iff]
  simp only [Bool.and_eq_true, decide_eq_true_eq, List.all_eq_true, Bool.not_eq_true', List.any_eq_false, decide_eq_false_iff_not]
  constructor
  · rintro ⟨⟨h1, h2, h3, h4⟩, h5, h6⟩; exact ⟨⟨h1, h2⟩, ⟨h3, h4⟩, h5, fun x hx => by simpa using h6 x hx⟩
  · rintro ⟨⟨h1, h2⟩, ⟨h3, h4⟩, h5, h6⟩; exact ⟨⟨h1, h2, h3, h4⟩, h5, fun x hx => by simpa using h6 x hx⟩
def evU (u : UV) : PV := .ag [.s (.int .i64 u.m), .s (.int .i64 u.e), .sl 0 3 (u.s.map evE)]
theorem few1_pc (s : ByteArray) : PC 34 [.s (.string s)] (.s (.string (few s))) := by
  refine pc_of tt_ok tt_follows Tryz.func34 rfl (by kernel_rfl) (by kernel_rfl) (Nat.le_of_ble_eq_true rfl) rfl ?_
  conv => whnf
  constructor
  · intro h
    have h' : (s.size : Int) > 400 := by simpa using h
    conv => whnf
    refine ⟨⟨by decide, by decide, by show (400 : Int) ≤ s.size; omega⟩, ?_⟩
    conv => whnf
    unfold few
    rw [if_pos h'] <;> rfl
  · intro h
    have h' : ¬ (s.size : Int) > 400 := by simpa using h
    conv => whnf
    unfold few
    rw [if_neg h']
theorem one5_pc (x : S34) : PC 14 [evN x] (evN (oneN x)) := by
  refine pc_of tt_ok tt_follows Tryz.func14 rfl (by kernel_rfl) (by kernel_rfl) (Nat.le_of_ble_eq_true rfl) rfl ?_
  conv => whnf
  refine ⟨_, few1_pc x.f0, ?_⟩
  conv => whnf
  refine ⟨_, few1_pc x.f1, ?_⟩
  conv => whnf
  refine ⟨by kernel_rfl, ?_⟩
  conv => whnf
  rfl
theorem len_le_of {n k : Nat} (h : n ≤ 100) (hk : k ≤ 100) : n + 1 ≤ maxLen ∧ (n + 1) * k ≤ 140737488355328 := by
  constructor
  · unfold maxLen; omega
  · have : (n + 1) * k ≤ 101 * 100 := Nat.mul_le_mul (by omega) hk
    omega
theorem few5_pc (l : List S34) : PC 22 [.sl 0 2 (l.map evN)] (.sl 4 2 ((fewN l).map evN)) := by
  refine pc_of tt_ok tt_follows Tryz.func22 rfl (by kernel_rfl) (by kernel_rfl) (Nat.le_of_ble_eq_true rfl) rfl ?_
  conv => whnf
  refine ⟨Nat, fun i => i ≤ l.length ∧ i ≤ 24, fun i => [(9, .sl 24 2 (((l.take i).map oneN).map evN)), (12, .s (.int .i64 i)), (68, .fr (((l.take i).map oneN).map evN).length 2)], [0, 6], fun i => l.length - i, 0, ⟨Nat.zero_le _, Nat.zero_le _⟩, ?_, fun i hi => ?_⟩
  · exact ⟨⟨⟨rfl, Or.inr rfl, Or.inr (Or.inr rfl)⟩, Nat.le_refl _, rfl, trivial, Or.inl rfl, trivial, trivial⟩, ⟨rfl, trivial, rfl, trivial, trivial⟩⟩
  · obtain ⟨h1, h2⟩ := hi
    conv => whnf
    constructor
    · intro h
      have hil := ltm h
      conv => whnf
      constructor
      · intro h
        have hi24 : i < 24 := by have := of_decide_eq_true h; omega
        conv => whnf
        refine ⟨_, idx_map evN l i hil, ?_⟩
        conv => whnf
        refine ⟨_, one5_pc l[i], ?_⟩
        conv => whnf
        refine ⟨by rw [List.length_map, List.length_map, List.length_take]; exact len_le_of (by omega) (by decide), ?_⟩
        conv => whnf
        refine ⟨rfl, ?_⟩
        conv => whnf
        refine ⟨i + 1, ⟨hil, hi24⟩, less1 hil, ⟨⟨⟨?_, Or.inl rfl, Or.inr (Or.inl rfl)⟩, Nat.le_refl _, incI hi24 (by decide), trivial, Or.inr ?_, trivial, trivial⟩, ⟨rfl, trivial, rfl, trivial, trivial⟩⟩⟩
        · rw [take_succ_map, List.map_append] <;> rfl
        · rw [take_succ_map _ _ _ hil, List.map_append] <;> rfl
      · intro h
        have hi24 : ¬ i < 24 := by have := of_decide_eq_false h; omega
        conv => whnf
        refine ⟨?_, Or.inl rfl, Or.inr rfl⟩
        unfold fewN
        obtain rfl : i = 24 := by omega
        rfl
    · intro h
      have hil := gem h h1
      conv => whnf
      refine ⟨?_, Or.inl rfl, Or.inr rfl⟩
      unfold fewN
      rw [List.take_of_length_le (by omega), List.take_of_length_le (by omega)]
theorem within_pc (n : Int) : PC 31 [.s (.int .i64 n)] (.s (.bool (decide (0 ≤ n ∧ n ≤ 1099511627776)))) := by
  refine pc_of tt_ok tt_follows Tryz.func31 rfl (by kernel_rfl) (by kernel_rfl) (Nat.le_of_ble_eq_true rfl) rfl ?_
  conv => whnf
  constructor
  · intro h
    conv => whnf
    have : (decide (0 ≤ n ∧ n ≤ 1099511627776)) = decide (n ≤ 1099511627776) := by
      have h' : n ≥ 0 := by simpa using h
      rw [decide_eq_decide]; omega
    rw [this]
  · intro h
    conv => whnf
    have : (decide (0 ≤ n ∧ n ≤ 1099511627776)) = false := by
      have h' : ¬ n ≥ 0 := by simpa using h
      rw [decide_eq_false_iff_not]; omega
    rw [this] <;> rfl
theorem neg_pc (x : S48) : PC 30 [evE x] (.s (.bool (decide (x.f1 < 0)))) := by
  refine pc_of tt_ok tt_follows Tryz.func30 rfl (by kernel_rfl) (by kernel_rfl) (Nat.le_of_ble_eq_true rfl) rfl ?_
  conv => whnf
def idxI {α : Type} (p : α → Bool) (l : List α) : Int := if l.any p then ((l.findIdx p : Nat) : Int) else -1
theorem idxI_hit {α : Type} {p : α → Bool} {l : List α} {i : Nat} (h : i < l.length) (hp : p l[i] = true) (hn : ∀ j (hj : j < l.length), j < i → p l[j] = false) : idxI p l = i := by
  unfold idxI
  rw [if_pos (List.any_eq_true.2 ⟨_, List.getElem_mem h, hp⟩)]
  congr 1
  exact (List.findIdx_eq h).2 ⟨hp, fun j hj => hn j (by omega) hj⟩
theorem idxI_none {α : Type} {p : α → Bool} {l : List α} (hn : ∀ j (hj : j < l.length), p l[j] = false) : idxI p l = -1 := by
  unfold idxI
  rw [if_neg]
  rw [List.any_eq_true]
  rintro ⟨x, hx, hp⟩
  obtain ⟨j, hj, rfl⟩ := List.getElem_of_mem hx
  rw [hn j hj] at hp; cases hp
theorem idxI_ge {α : Type} (p : α → Bool) (l : List α) : decide (idxI p l ≥ 0) = l.any p := by
  unfold idxI
  split
  · rename_i h; rw [h]; exact decide_eq_true (Int.natCast_nonneg _)
  · rename_i h; rw [Bool.eq_false_iff.2 h]; decide
theorem indexE_pc (l : List S48) (hl : l.length ≤ 4294967296) (f : FuncId) (p : S48 → Bool) (hp : ∀ x ∈ l, PC f [evE x] (.s (.bool (p x)))) : PC 50 [.sl 0 3 (l.map evE), .s (.func (.func f) #[] #[])] (.s (.int .i64 (idxI p l))) := by
  refine pc_of tt_ok tt_follows Tryz.func50 rfl (by kernel_rfl) (by kernel_rfl) (Nat.le_of_ble_eq_true rfl) rfl ?_
  conv => whnf
  refine ⟨Nat, fun i => i ≤ l.length ∧ ∀ j (hj : j < l.length), j < i → p l[j] = false, fun i => [(24, .s (.int .i64 i))], [0, 3, 21], fun i => l.length - i, 0, ⟨Nat.zero_le _, fun j _ h => absurd h (Nat.not_lt_zero _)⟩, ?_, fun i hi => ?_⟩
  · exact ⟨⟨rfl, trivial, trivial⟩, ⟨rfl, trivial, rfl, trivial, rfl, trivial, trivial⟩⟩
  · obtain ⟨h1, h2⟩ := hi
    conv => whnf
    constructor
    · intro h
      have hil := ltm h
      conv => whnf
      refine ⟨_, idx_map evE l i hil, ?_⟩
      conv => whnf
      refine ⟨_, hp _ (List.getElem_mem hil), ?_⟩
      conv => whnf
      constructor
      · intro hq
        conv => whnf
        rw [idxI_hit hil hq h2] <;> rfl
      · intro hq
        conv => whnf
        refine ⟨i + 1, ⟨hil, fun j hj g => ?_⟩, less1 hil, ⟨⟨incI hil hl, trivial, trivial⟩, ⟨rfl, trivial, rfl, trivial, rfl, trivial, trivial⟩⟩⟩
        by_cases hji : j < i
        · exact h2 j hj hji
        · obtain rfl : j = i := by omega
          exact hq
    · intro h
      have hil := gem h h1
      conv => whnf
      rw [idxI_none (fun j hj => h2 j hj (by omega))] <;> rfl
theorem containsE_pc (l : List S48) (hl : l.length ≤ 4294967296) (f : FuncId) (p : S48 → Bool) (hp : ∀ x ∈ l, PC f [evE x] (.s (.bool (p x)))) : PC 33 [.sl 0 3 (l.map evE), .s (.func (.func f) #[] #[])] (.s (.bool (l.any p))) := by
  refine pc_of tt_ok tt_follows Tryz.func33 rfl (by kernel_rfl) (by kernel_rfl) (Nat.le_of_ble_eq_true rfl) rfl ?_
  conv => whnf
  refine ⟨_, indexE_pc l hl f p hp, ?_⟩
  conv => whnf
  rw [← idxI_ge] <;> rfl
theorem indexN_pc (l : List S34) (hl : l.length ≤ 4294967296) (f : FuncId) (p : S34 → Bool) (hp : ∀ x ∈ l, PC f [evN x] (.s (.bool (p x)))) : PC 60 [.sl 0 2 (l.map evN), .s (.func (.func f) #[] #[])] (.s (.int .i64 (idxI p l))) := by
  refine pc_of tt_ok tt_follows Tryz.func60 rfl (by kernel_rfl) (by kernel_rfl) (Nat.le_of_ble_eq_true rfl) rfl ?_
  conv => whnf
  refine ⟨Nat, fun i => i ≤ l.length ∧ ∀ j (hj : j < l.length), j < i → p l[j] = false, fun i => [(24, .s (.int .i64 i))], [0, 3, 21], fun i => l.length - i, 0, ⟨Nat.zero_le _, fun j _ h => absurd h (Nat.not_lt_zero _)⟩, ?_, fun i hi => ?_⟩
  · exact ⟨⟨rfl, trivial, trivial⟩, ⟨rfl, trivial, rfl, trivial, rfl, trivial, trivial⟩⟩
  · obtain ⟨h1, h2⟩ := hi
    conv => whnf
    constructor
    · intro h
      have hil := ltm h
      conv => whnf
      refine ⟨_, idx_map evN l i hil, ?_⟩
      conv => whnf
      refine ⟨_, hp _ (List.getElem_mem hil), ?_⟩
      conv => whnf
      constructor
      · intro hq
        conv => whnf
        rw [idxI_hit hil hq h2] <;> rfl
      · intro hq
        conv => whnf
        refine ⟨i + 1, ⟨hil, fun j hj g => ?_⟩, less1 hil, ⟨⟨incI hil hl, trivial, trivial⟩, ⟨rfl, trivial, rfl, trivial, rfl, trivial, trivial⟩⟩⟩
        by_cases hji : j < i
        · exact h2 j hj hji
        · obtain rfl : j = i := by omega
          exact hq
    · intro h
      have hil := gem h h1
      conv => whnf
      rw [idxI_none (fun j hj => h2 j hj (by omega))] <;> rfl
theorem containsN_pc (l : List S34) (hl : l.length ≤ 4294967296) (f : FuncId) (p : S34 → Bool) (hp : ∀ x ∈ l, PC f [evN x] (.s (.bool (p x)))) : PC 43 [.sl 0 2 (l.map evN), .s (.func (.func f) #[] #[])] (.s (.bool (l.any p))) := by
  refine pc_of tt_ok tt_follows Tryz.func43 rfl (by kernel_rfl) (by kernel_rfl) (Nat.le_of_ble_eq_true rfl) rfl ?_
  conv => whnf
  refine ⟨_, indexN_pc l hl f p hp, ?_⟩
  conv => whnf
  rw [← idxI_ge] <;> rfl
theorem rcheck_pc (u : UV) (hl : u.s.length ≤ 4294967296) (ht : ∀ x ∈ u.s, TinyN x.f0) : PC 11 [evU u] (.s (.int .i64 (okV (okU u)))) := by
  have wA := within_pc u.m
  have wB := within_pc u.e
  have wC := check13_pc u.s hl ht
  have wD := containsE_pc u.s hl 30 (fun x => decide (x.f1 < 0)) (fun x _ => neg_pc x)
  rw [okU_eq]
  revert wA wB wC wD
  generalize decide (0 ≤ u.m ∧ u.m ≤ 1099511627776) = A
  generalize decide (0 ≤ u.e ∧ u.e ≤ 1099511627776) = B
  generalize checkE u.s = C
  generalize u.s.any (fun x => decide (x.f1 < 0)) = D
  intro wA wB wC wD
  refine pc_of tt_ok tt_follows Tryz.func11 rfl (by kernel_rfl) (by kernel_rfl) (Nat.le_of_ble_eq_true rfl) rfl ?_
  conv => whnf
  refine ⟨_, wA, ?_⟩
  conv => whnf
  constructor
  · intro h
    conv => whnf
    cases A
    · rfl
    · cases h
  · intro h
    obtain rfl : A = true := by simpa using h
    conv => whnf
    refine ⟨_, wB, ?_⟩
    conv => whnf
    constructor
    · intro h
      conv => whnf
      cases B
      · rfl
      · cases h
    · intro h
      obtain rfl : B = true := by simpa using h
      conv => whnf
      refine ⟨_, wC, ?_⟩
      conv => whnf
      constructor
      · intro h
        conv => whnf
        cases C
        · rfl
        · cases h
      · intro h
        obtain rfl : C = true := by cases C; cases h; rfl
        conv => whnf
        refine ⟨_, wD, ?_⟩
        conv => whnf
        constructor
        · intro h
          conv => whnf
          cases D
          · cases h
          · rfl
        · intro h
          conv => whnf
          cases D
          · rfl
          · cases h
theorem fits_pc (u : UV) (lt lm ln le : Int) (hl : u.s.length ≤ 4294967296) (ht : ∀ x ∈ u.s, TinyN x.f0) : PC 12 [.ag [.s (.int .i64 lt), .s (.int .i64 lm), .s (.int .i64 ln), .s (.int .i64 le)], evU u] (.s (.int .i64 (if okU u = true then fitsU lm ln le u else 1))) := by
  have wC := rcheck_pc u hl ht
  revert wC
  generalize okU u = C
  intro wC
  refine pc_of tt_ok tt_follows Tryz.func12 rfl (by kernel_rfl) (by kernel_rfl) (Nat.le_of_ble_eq_true rfl) rfl ?_
  conv => whnf
  refine ⟨_, wC, ?_⟩
  conv => whnf
  constructor
  · intro h
    conv => whnf
    cases C
    · rfl
    · cases h
  · intro h
    obtain rfl : C = true := by cases C; cases h; rfl
    conv => whnf
    rw [if_pos rfl]
    unfold fitsU
    constructor
    · intro h
      have h := of_decide_eq_true h
      conv => whnf
      rw [if_pos h]
    · intro h
      have h := of_decide_eq_false h
      conv => whnf
      rw [if_neg h]
      constructor
      · intro h
        have h := of_decide_eq_true h
        rw [List.length_map] at h
        conv => whnf
        rw [if_pos h]
      · intro h
        have h := of_decide_eq_false h
        rw [List.length_map] at h
        conv => whnf
        rw [if_neg h]
        constructor
        · intro h
          have h := of_decide_eq_true h
          conv => whnf
          rw [if_pos h]
        · intro h
          have h := of_decide_eq_false h
          conv => whnf
          rw [if_neg h]
theorem cloneN_pc (l : List S34) (hl : l.length ≤ 1000000) : PC 42 [.sl 0 2 (l.map evN)] (.sl 4 2 (l.map evN)) := by
  refine pc_of tt_ok tt_follows Tryz.func42 rfl (by kernel_rfl) (by kernel_rfl) (Nat.le_of_ble_eq_true rfl) rfl ?_
  conv => whnf
  constructor
  · intro h
    conv => whnf
    rw [h]
    exact ⟨rfl, Or.inr rfl, Or.inl rfl⟩
  · conv => whnf
    have e : (l.map evN).length = l.length := List.length_map ..
    refine ⟨⟨by show 0 + _ ≤ _; rw [e]; unfold maxLen; omega, by show (0 + _) * 32 ≤ _; rw [e]; omega⟩, ?_⟩
    conv => whnf
    exact ⟨rfl, Or.inl rfl, Or.inr rfl⟩
theorem okV_ne {b : Bool} (h : (okV b != (0 : Int)) = true) : b = false := by cases b; rfl; cases h
theorem okV_eq {b : Bool} (h : (okV b != (0 : Int)) = false) : b = true := by cases b; cases h; rfl
theorem change_pc (u : UV) (dm de nn : Int) (S : List S34) (hu : ∀ x ∈ u.s, TinyN x.f0) (hl : u.s.length + S.length ≤ 30000) (hS : ∀ x ∈ S, TinyN x)
    (hd : -1099511627776 ≤ dm ∧ dm ≤ 1099511627776 ∧ -1099511627776 ≤ de ∧ de ≤ 1099511627776) (hn : nn ≠ 0) (v : UV) (r : Int) (hv : changeU u dm de nn S = (v, r)) :
    PC 35 [evU u, .s (.int .i64 dm), .s (.int .i64 de), .s (.int .i64 nn), .sl 0 2 (S.map evN)] (.tu [evU v, .s (.int .i64 r)]) := by
  have wK := rcheck_pc u (by omega) hu
  have hneg : ¬ (okU u = true ∧ S.all mayN = true) → v = u ∧ r = 1 := fun h => by
    unfold changeU at hv
    rw [if_neg h] at hv
    injection hv with e1 e2
    exact ⟨e1.symm, e2.symm⟩
  refine pc_of tt_ok tt_follows Tryz.func35 rfl (by kernel_rfl) (by kernel_rfl) (Nat.le_of_ble_eq_true rfl) rfl ?_
  conv => whnf
  by_cases hm : S.all mayN = true
  case neg =>
    obtain ⟨rfl, rfl⟩ := hneg (fun h => hm h.2)
    refine ⟨_, count13_pc S (by omega) hS [] 1 (if_neg hm), ?_⟩
    conv => whnf
    refine ⟨_, wK, ?_⟩
    conv => whnf
    constructor
    · intro h
      conv => whnf
      exact ⟨rfl, rfl, trivial⟩
    · intro h
      conv => whnf
      refine ⟨fun _ => ?_, fun h => by cases h⟩
      conv => whnf
      exact ⟨rfl, rfl, trivial⟩
  case pos =>
    refine ⟨_, count13_pc S (by omega) hS (diffV [] S) 0 (if_pos hm), ?_⟩
    conv => whnf
    refine ⟨_, wK, ?_⟩
    conv => whnf
    constructor
    · intro h
      have hb := okV_ne h
      obtain ⟨rfl, rfl⟩ := hneg (fun h => by rw [hb] at h; cases h.1)
      conv => whnf
      exact ⟨rfl, rfl, trivial⟩
    · intro h
      have hb := okV_eq h
      conv => whnf
      refine ⟨(fun h => by cases h), fun _ => ?_⟩
      conv => whnf
      unfold changeU at hv
      rw [if_pos ⟨hb, hm⟩] at hv
      obtain ⟨⟨hm0, hm1, he0, he1⟩, hck, hps⟩ := (okU_iff u).1 hb
      have gS : GoodL S := ⟨by omega, fun x hx => ⟨hS x hx, List.all_eq_true.1 hm x hx⟩⟩
      have cu := check_can hu hck
      have oku : Oke u.s := ⟨cu.1, cu.2, (fun x hx => ⟨hu x hx, cu.1.set.may x.f0 (List.mem_map_of_mem hx)⟩), by omega⟩
      have oks := (goodL_nil.oke gS (by simp; omega)).1
      have wm : IntKind.wrap .i64 (u.m + dm) = u.m + dm := wrapI (by omega)
      have we : IntKind.wrap .i64 (u.e + de) = u.e + de := wrapI (by omega)
      constructor
      · intro h
        have h2 : nn = 2 := by simpa using h
        simp only [if_pos h2] at hv
        conv => whnf
        refine ⟨_, turn13_pc _ oks, ?_⟩
        conv => whnf
        refine ⟨(fun h => by cases h), fun _ => ?_⟩
        conv => whnf
        by_cases hB : checkE (bothV u.s ((diffV [] S).map turnE)) = true
        case neg =>
          refine ⟨_, both13_pc u.s ((diffV [] S).map turnE) oku oks.turn _ _ (if_neg hB), ?_⟩
          conv => whnf
          refine ⟨fun _ => ?_, fun h => by cases h⟩
          conv => whnf
          have : okU (addU u dm de ((diffV [] S).map turnE)) = false := Bool.eq_false_iff.2 (fun h => hB ((okU_iff _).1 h).2.1)
          rw [if_neg (by rw [this]; decide)] at hv
          injection hv with e1 e2
          subst e1; subst e2
          exact ⟨rfl, rfl, trivial⟩
        case pos =>
          refine ⟨_, both13_pc u.s ((diffV [] S).map turnE) oku oks.turn _ _ (if_pos hB), ?_⟩
          conv => whnf
          refine ⟨(fun h => by cases h), fun _ => ?_⟩
          conv => whnf
          have hbl := bothV_len2 u.s ((diffV [] S).map turnE)
          have wF : PC 11 [.ag [.s (.int .i64 (IntKind.wrap .i64 (u.m + dm))), .s (.int .i64 (IntKind.wrap .i64 (u.e + de))), .sl 0 3 ((bothV u.s ((diffV [] S).map turnE)).map evE)]] (.s (.int .i64 (okV (okU (addU u dm de ((diffV [] S).map turnE)))))) := by
            rw [wm, we]
            exact rcheck_pc (addU u dm de ((diffV [] S).map turnE)) (by show (bothV u.s ((diffV [] S).map turnE)).length ≤ _; have := oku.len; have := (oks.turn).len; omega) (fun x hx => (bothV_tinyE u.s ((diffV [] S).map turnE) oku.tiny (oks.turn).tiny x hx).1)
          refine ⟨_, wF, ?_⟩
          conv => whnf
          constructor
          · intro h
            have h := okV_ne h
            conv => whnf
            rw [if_neg (by rw [h]; decide)] at hv
            injection hv with e1 e2
            subst e1; subst e2
            exact ⟨rfl, rfl, trivial⟩
          · intro h
            have h := okV_eq h
            conv => whnf
            rw [if_pos h] at hv
            injection hv with e1 e2
            subst e1; subst e2
            refine ⟨?_, rfl, trivial⟩
            show PV.ag [.s (.int .i64 (IntKind.wrap .i64 (u.m + dm))), .s (.int .i64 (IntKind.wrap .i64 (u.e + de))), .sl 0 3 ((bothV u.s ((diffV [] S).map turnE)).map evE)] = evU (addU u dm de ((diffV [] S).map turnE))
            rw [wm, we]; rfl
      · intro h
        have h2 : nn ≠ 2 := by simpa using h
        simp only [if_neg h2] at hv
        conv => whnf
        by_cases hB : checkE (bothV u.s (diffV [] S)) = true
        case neg =>
          refine ⟨_, both13_pc u.s (diffV [] S) oku oks _ _ (if_neg hB), ?_⟩
          conv => whnf
          refine ⟨fun _ => ?_, fun h => by cases h⟩
          conv => whnf
          have : okU (addU u dm de (diffV [] S)) = false := Bool.eq_false_iff.2 (fun h => hB ((okU_iff _).1 h).2.1)
          rw [if_neg (by rw [this]; decide)] at hv
          injection hv with e1 e2
          subst e1; subst e2
          exact ⟨rfl, rfl, trivial⟩
        case pos =>
          refine ⟨_, both13_pc u.s (diffV [] S) oku oks _ _ (if_pos hB), ?_⟩
          conv => whnf
          refine ⟨(fun h => by cases h), fun _ => ?_⟩
          conv => whnf
          have hbl := bothV_len2 u.s (diffV [] S)
          have wF : PC 11 [.ag [.s (.int .i64 (IntKind.wrap .i64 (u.m + dm))), .s (.int .i64 (IntKind.wrap .i64 (u.e + de))), .sl 0 3 ((bothV u.s (diffV [] S)).map evE)]] (.s (.int .i64 (okV (okU (addU u dm de (diffV [] S)))))) := by
            rw [wm, we]
            exact rcheck_pc (addU u dm de (diffV [] S)) (by show (bothV u.s (diffV [] S)).length ≤ _; have := oku.len; have := (oks).len; omega) (fun x hx => (bothV_tinyE u.s (diffV [] S) oku.tiny (oks).tiny x hx).1)
          refine ⟨_, wF, ?_⟩
          conv => whnf
          constructor
          · intro h
            have h := okV_ne h
            conv => whnf
            rw [if_neg (by rw [h]; decide)] at hv
            injection hv with e1 e2
            subst e1; subst e2
            exact ⟨rfl, rfl, trivial⟩
          · intro h
            have h := okV_eq h
            conv => whnf
            rw [if_pos h] at hv
            injection hv with e1 e2
            subst e1; subst e2
            refine ⟨?_, rfl, trivial⟩
            show PV.ag [.s (.int .i64 (IntKind.wrap .i64 (u.m + dm))), .s (.int .i64 (IntKind.wrap .i64 (u.e + de))), .sl 0 3 ((bothV u.s (diffV [] S)).map evE)] = evU (addU u dm de (diffV [] S))
            rw [wm, we]; rfl
theorem appN_len {l : List S34} (h : l.length ≤ 1000000) (k : S34) : (l.map evN).length + [evN k].length ≤ maxLen ∧ ((l.map evN).length + [evN k].length) * 32 ≤ 140737488355328 := by
  rw [List.length_map]
  show l.length + 1 ≤ _ ∧ (l.length + 1) * 32 ≤ _
  constructor
  · unfold maxLen; omega
  · omega
theorem take_pc (u : UV) (key : S34) (l : List S34) (hu : ∀ x ∈ u.s, TinyN x.f0) (hl : u.s.length + l.length ≤ 29000) (hS : ∀ x ∈ l, TinyN x) (hk : TinyN key) (v : UV) (r : Int) (hv : changeU u 1 l.length 4 (l ++ [key]) = (v, r)) :
    PC 21 [evU u, evN key, .sl 0 2 (l.map evN)] (.tu [evU v, .s (.int .i64 r)]) := by
  have wC := change_pc u 1 l.length 4 (l ++ [key]) hu (by rw [List.length_append]; show _ + (_ + 1) ≤ _; omega) (fun x hx => (List.mem_append.1 hx).elim (hS x) (fun h => by rw [List.mem_singleton.1 h]; exact hk)) (by omega) (by decide) v r hv
  rw [List.map_append, show ((l.length : Int)) = (((l.map evN).length : Nat) : Int) by rw [List.length_map]] at wC
  refine pc_of tt_ok tt_follows Tryz.func21 rfl (by kernel_rfl) (by kernel_rfl) (Nat.le_of_ble_eq_true rfl) rfl ?_
  conv => whnf
  refine ⟨_, cloneN_pc l (by omega), ?_⟩
  conv => whnf
  refine ⟨appN_len (by omega) key, ?_⟩
  conv => whnf
  refine ⟨rfl, ?_⟩
  conv => whnf
  refine ⟨_, wC, ?_⟩
  conv => whnf
  refine ⟨by kernel_rfl, ?_⟩
  conv => whnf
  exact ⟨rfl, rfl, trivial⟩
theorem give_pc (u : UV) (key : S34) (l : List S34) (hu : ∀ x ∈ u.s, TinyN x.f0) (hl : u.s.length + l.length ≤ 29000) (hS : ∀ x ∈ l, TinyN x) (hk : TinyN key) (v : UV) (r : Int) (hv : changeU u (-1) (-l.length) 2 (l ++ [key]) = (v, r)) :
    PC 27 [evU u, evN key, .sl 0 2 (l.map evN)] (.tu [evU v, .s (.int .i64 r)]) := by
  have wC := change_pc u (-1) (-l.length) 2 (l ++ [key]) hu (by rw [List.length_append]; show _ + (_ + 1) ≤ _; omega) (fun x hx => (List.mem_append.1 hx).elim (hS x) (fun h => by rw [List.mem_singleton.1 h]; exact hk)) (by omega) (by decide) v r hv
  rw [List.map_append, show (-(l.length : Int)) = IntKind.wrap .i64 (0 - (((l.map evN).length : Nat) : Int)) by rw [List.length_map, wrapI (by omega)]; omega] at wC
  refine pc_of tt_ok tt_follows Tryz.func27 rfl (by kernel_rfl) (by kernel_rfl) (Nat.le_of_ble_eq_true rfl) rfl ?_
  conv => whnf
  refine ⟨_, cloneN_pc l (by omega), ?_⟩
  conv => whnf
  refine ⟨appN_len (by omega) key, ?_⟩
  conv => whnf
  refine ⟨rfl, ?_⟩
  conv => whnf
  refine ⟨_, wC, ?_⟩
  conv => whnf
  refine ⟨by kernel_rfl, ?_⟩
  conv => whnf
  exact ⟨rfl, rfl, trivial⟩
def eqU (a b : UV) : Bool := a.m == b.m && (a.e == b.e && eqL a.s b.s)
theorem eqU_iff {a b : UV} : eqU a b = true ↔ a = b := by
  unfold eqU
  rw [Bool.and_eq_true, Bool.and_eq_true, beq_iff_eq, beq_iff_eq, eqL_iff]
  cases a; cases b
  simp
def nW (c : UInt8) : S34 := ⟨⟨#[c]⟩, ⟨#[118, 49, 46, 48, 46, 48]⟩⟩
theorem nW_tiny (c : UInt8) : TinyN (nW c) := Brief.tiny ⟨show (1 : Nat) ≤ 400 by decide, show (6 : Nat) ≤ 400 by decide⟩
theorem pairsE' {a b : List S48} (h : a.map (fun e => (e.f0, e.f1)) = b.map (fun e => (e.f0, e.f1))) : a = b :=
  (List.map_inj_right (fun x y h => by cases x; cases y; simp only [Prod.mk.injEq] at h; rw [h.1, h.2])).1 h
def uW : UV := ⟨1, 2, [⟨nW 97, 1⟩, ⟨nW 98, 2⟩]⟩
theorem aw_take : changeU noneU 1 2 4 [nW 98, nW 98, nW 97] = (uW, 0) := by
  unfold changeU
  rw [if_pos (by decide +kernel)]
  have : addU noneU 1 2 (diffV [] [nW 98, nW 98, nW 97]) = uW := by
    unfold addU uW noneU
    rw [show bothV [] (diffV [] [nW 98, nW 98, nW 97]) = [⟨nW 97, 1⟩, ⟨nW 98, 2⟩] from pairsE' (by decide +kernel)]
    rfl
  show (let v := addU noneU 1 2 (diffV [] [nW 98, nW 98, nW 97]); _) = _
  rw [this]
  show (if okU uW = true then (uW, (0 : Int)) else (noneU, 4)) = _
  rw [if_pos (by decide +kernel)]
theorem aw_give : changeU noneU (-1) 0 2 [nW 97] = (noneU, 2) := by
  unfold changeU
  rw [if_pos (by decide +kernel)]
  show (if okU (addU noneU (-1) 0 _) = true then _ else (noneU, (2 : Int))) = _
  rw [if_neg]
  intro h
  have := ((okU_iff _).1 h).1.1
  exact absurd this (by decide)
theorem nil_tiny : ∀ x ∈ ([] : List S48), TinyN x.f0 := fun x h => by cases h
theorem awake14_pc : PC 13 [] (.s (.bool true)) := by
  refine pc_of tt_ok tt_follows Tryz.func13 rfl (by kernel_rfl) (by kernel_rfl) (Nat.le_of_ble_eq_true rfl) rfl ?_
  conv => whnf
  refine ⟨_, pc_le (take_pc noneU (nW 97) [nW 98, nW 98] nil_tiny (by decide) (fun x hx => by simp only [List.mem_cons, List.not_mem_nil, or_false] at hx; rcases hx with rfl | rfl <;> exact nW_tiny _) (nW_tiny _) uW 0 aw_take) ⟨⟨rfl, rfl, ⟨rfl, Or.inr rfl, Or.inl rfl⟩, trivial⟩, ⟨rfl, rfl, trivial⟩, ⟨rfl, Or.inl rfl, Or.inl rfl⟩, trivial⟩, ?_⟩
  conv => whnf
  refine ⟨_, pc_le (give_pc noneU (nW 97) [] nil_tiny (by decide) (fun x hx => by cases hx) (nW_tiny _) noneU 2 aw_give) ⟨⟨rfl, rfl, ⟨rfl, Or.inr rfl, Or.inl rfl⟩, trivial⟩, ⟨rfl, rfl, trivial⟩, ⟨rfl, Or.inr rfl, Or.inl rfl⟩, trivial⟩, ?_⟩
  conv => whnf
  refine ⟨fun _ => ?_, fun h => by cases h⟩
  conv => whnf
  refine ⟨fun _ => ?_, fun h => by cases h⟩
  conv => whnf
  refine ⟨fun _ => ?_, fun h => by cases h⟩
  conv => whnf
  refine ⟨fun _ => ?_, fun h => by cases h⟩
  conv => whnf
  have wF := fits_pc uW 0 0 0 0 (by decide) (fun x hx => by
    have : x ∈ [(⟨nW 97, 1⟩ : S48), ⟨nW 98, 2⟩] := hx
    simp only [List.mem_cons, List.not_mem_nil, or_false] at this; rcases this with rfl | rfl <;> exact nW_tiny _)
  rw [if_pos (by decide +kernel), show fitsU 0 0 0 uW = 8 from rfl] at wF
  refine ⟨_, wF, ?_⟩
  conv => whnf
  refine ⟨fun _ => ?_, fun h => by cases h⟩
  conv => whnf
  rfl
theorem okU_chain {u : UV} (hD : ∀ x ∈ u.s, ¬ x.f1 < 0) : okU u = (decide (u.m ≥ 0) && (decide (u.m ≤ 1099511627776) && (decide (u.e ≥ 0) && (decide (u.e ≤ 1099511627776) && checkE u.s)))) := by
  rw [Bool.eq_iff_iff, okU_iff]
  simp only [Bool.and_eq_true, decide_eq_true_eq]
  constructor
  · rintro ⟨⟨h1, h2, h3, h4⟩, h5, _⟩; exact ⟨h1, h2, h3, h4, h5⟩
  · rintro ⟨h1, h2, h3, h4, h5⟩; exact ⟨⟨h1, h2, h3, h4⟩, h5, fun x hx => by have := hD x hx; omega⟩
theorem may14_pc (u : UV) (hl : u.s.length ≤ 4294967296) (hb : ∀ x ∈ u.s, Brief x.f0) : PC 16 [evU u] (.s (.bool (okU u))) := by
  refine pc_of tt_ok tt_follows Tryz.func16 rfl (by kernel_rfl) (by kernel_rfl) (Nat.le_of_ble_eq_true rfl) rfl ?_
  conv => whnf
  refine ⟨Nat, fun i => i ≤ u.s.length ∧ ∀ j (hj : j < u.s.length), j < i → ¬ u.s[j].f1 < 0, fun i => [(9, .s (.int .i64 i))], [3, 4], fun i => u.s.length - i, 0, ⟨Nat.zero_le _, fun j _ h => absurd h (Nat.not_lt_zero _)⟩, ?_, fun i hi => ?_⟩
  · repeat' (first | exact trivial | exact rfl | refine ⟨?_, ?_⟩)
  obtain ⟨h1, h2⟩ := hi
  conv => whnf
  constructor
  · intro h
    have hil := ltm h
    conv => whnf
    refine ⟨_, idx_map evE u.s i hil, ?_⟩
    conv => whnf
    constructor
    · intro g
      have g := of_decide_eq_true g
      conv => whnf
      rw [show okU u = false from Bool.eq_false_iff.2 (fun e => absurd (((okU_iff u).1 e).2.2 _ (List.getElem_mem hil)) (by omega))] <;> rfl
    · intro g
      have g := of_decide_eq_false g
      conv => whnf
      refine ⟨i + 1, ⟨hil, fun j hj hji => ?_⟩, less1 hil, ⟨⟨incI hil hl, trivial, trivial⟩, ?_⟩⟩
      · by_cases hlt : j < i
        · exact h2 j hj hlt
        · obtain rfl : j = i := by omega
          exact g
      · repeat' (first | exact trivial | exact rfl | refine ⟨?_, ?_⟩)
  · intro h
    have hil := gem h h1
    have hc := okU_chain (u := u) (fun x hx => by
      obtain ⟨j, hj, rfl⟩ := List.getElem_of_mem hx
      exact h2 j hj (by omega))
    conv => whnf
    constructor
    · intro a1
      have a1 : decide (u.m ≥ 0) = true := a1
      conv => whnf
      constructor
      · intro a2
        have a2 : decide (u.m ≤ 1099511627776) = true := a2
        conv => whnf
        constructor
        · intro a3
          have a3 : decide (u.e ≥ 0) = true := a3
          conv => whnf
          constructor
          · intro a4
            have a4 : decide (u.e ≤ 1099511627776) = true := a4
            conv => whnf
            refine ⟨_, may13_pc u.s hl hb, ?_⟩
            conv => whnf
            rw [hc, a1, a2, a3, a4] <;> rfl
          · intro a4
            have a4 : decide (u.e ≤ 1099511627776) = false := a4
            conv => whnf
            rw [hc, a1, a2, a3, a4] <;> rfl
        · intro a3
          have a3 : decide (u.e ≥ 0) = false := a3
          conv => whnf
          rw [hc, a1, a2, a3] <;> rfl
      · intro a2
        have a2 : decide (u.m ≤ 1099511627776) = false := a2
        conv => whnf
        rw [hc, a1, a2] <;> rfl
    · intro a1
      have a1 : decide (u.m ≥ 0) = false := a1
      conv => whnf
      rw [hc, a1] <;> rfl
theorem nodes14_pc (l : List S34) (hl : l.length ≤ 4294967296) (hb : ∀ x ∈ l, Brief x) : PC 25 [.sl 0 2 (l.map evN)] (.s (.bool (l.all mayN))) := by
  refine pc_of tt_ok tt_follows Tryz.func25 rfl (by kernel_rfl) (by kernel_rfl) (Nat.le_of_ble_eq_true rfl) rfl ?_
  conv => whnf
  refine ⟨Nat, fun i => i ≤ l.length ∧ ∀ j (hj : j < l.length), j < i → mayN l[j] = true, fun i => [(9, .s (.int .i64 i))], [0], fun i => l.length - i, 0, ⟨Nat.zero_le _, fun j _ h => absurd h (Nat.not_lt_zero _)⟩, ?_, fun i hi => ?_⟩
  · repeat' (first | exact trivial | exact rfl | refine ⟨?_, ?_⟩)
  obtain ⟨h1, h2⟩ := hi
  conv => whnf
  constructor
  · intro h
    have hil := ltm h
    conv => whnf
    refine ⟨_, idx_map evN l i hil, ?_⟩
    conv => whnf
    refine ⟨_, ref5May_pc l[i] (hb _ (List.getElem_mem hil)), ?_⟩
    conv => whnf
    constructor
    · intro g
      have g : mayN l[i] = false := by simpa using g
      conv => whnf
      rw [show l.all mayN = false from Bool.eq_false_iff.2 (fun e => by have := List.all_eq_true.1 e _ (List.getElem_mem hil); rw [g] at this; cases this)] <;> rfl
    · intro g
      have g : mayN l[i] = true := by simpa using g
      conv => whnf
      refine ⟨i + 1, ⟨hil, fun j hj hji => ?_⟩, less1 hil, ⟨⟨incI hil hl, trivial, trivial⟩, ?_⟩⟩
      · by_cases hlt : j < i
        · exact h2 j hj hlt
        · obtain rfl : j = i := by omega
          exact g
      · repeat' (first | exact trivial | exact rfl | refine ⟨?_, ?_⟩)
  · intro h
    have hil := gem h h1
    conv => whnf
    rw [show l.all mayN = true from List.all_eq_true.2 (fun x hx => by
      obtain ⟨j, hj, rfl⟩ := List.getElem_of_mem hx
      exact h2 j hj (by omega))] <;> rfl
theorem same14r_pc (a b : UV) (hl : a.s.length ≤ 4294967296) : PC 17 [evU a, evU b] (.s (.bool (eqU a b))) := by
  unfold eqU
  refine pc_of tt_ok tt_follows Tryz.func17 rfl (by kernel_rfl) (by kernel_rfl) (Nat.le_of_ble_eq_true rfl) rfl ?_
  conv => whnf
  constructor
  · intro h
    conv => whnf
    constructor
    · intro h2
      conv => whnf
      refine ⟨_, same13_pc a.s b.s hl, ?_⟩
      conv => whnf
      rw [show (a.m == b.m) = true from h, show (a.e == b.e) = true from h2] <;> rfl
    · intro h2
      conv => whnf
      rw [show (a.m == b.m) = true from h, show (a.e == b.e) = false from h2] <;> rfl
  · intro h
    conv => whnf
    rw [show (a.m == b.m) = false from h] <;> rfl
def saidV (l : List S34) (b : Int) : List S48 := if b > 0 then diffV [] l else diffV l []
theorem said14_pc (l : List S34) (b : Int) (hl : l.length ≤ 1000) (bl : ∀ x ∈ l, Brief x ∧ mayN x = true) : PC 41 [.sl 0 2 (l.map evN), .s (.int .i64 b)] (.sl 5 3 ((saidV l b).map evE)) := by
  unfold saidV
  refine pc_of tt_ok tt_follows Tryz.func41 rfl (by kernel_rfl) (by kernel_rfl) (Nat.le_of_ble_eq_true rfl) rfl ?_
  conv => whnf
  constructor
  · intro h
    have h := of_decide_eq_true h
    rw [if_pos h]
    conv => whnf
    refine ⟨_, pc_le (diff13_pc [] l (by decide) hl (fun x h => by cases h) bl) ⟨⟨rfl, Or.inr rfl, Or.inl rfl⟩, ⟨rfl, Or.inl rfl, Or.inl rfl⟩, trivial⟩, ?_⟩
    conv => whnf
    exact ⟨rfl, Or.inl rfl, Or.inr rfl⟩
  · intro h
    have h := of_decide_eq_false h
    rw [if_neg h]
    conv => whnf
    refine ⟨_, pc_le (diff13_pc l [] hl (by decide) bl (fun x h => by cases h)) ⟨⟨rfl, Or.inl rfl, Or.inl rfl⟩, ⟨rfl, Or.inr rfl, Or.inl rfl⟩, trivial⟩, ?_⟩
    conv => whnf
    exact ⟨rfl, Or.inl rfl, Or.inr rfl⟩
theorem bothV_brief' (a b : List S48) (ba : ∀ x ∈ a, Brief x.f0) (bb : ∀ x ∈ b, Brief x.f0) : ∀ x ∈ bothV a b, Brief x.f0 := fun x hx => by
  unfold bothV editsF at hx
  obtain ⟨n, hn, rfl⟩ := List.mem_map.1 hx
  have h := (keys_countE (a ++ b) [] n).1 ((sortN_perm _).mem_iff.1 (List.mem_filter.1 hn).1)
  rw [List.map_append, List.mem_append] at h
  rcases h with h | h | h
  · cases h
  · obtain ⟨y, hy, rfl⟩ := List.mem_map.1 h; exact ba y hy
  · obtain ⟨y, hy, rfl⟩ := List.mem_map.1 h; exact bb y hy
theorem diffV_brief (l m : List S34) (bl : ∀ x ∈ l, Brief x) (bm : ∀ x ∈ m, Brief x) : ∀ x ∈ diffV l m, Brief x.f0 := fun x hx => by
  unfold diffV editsF at hx
  obtain ⟨n, hn, rfl⟩ := List.mem_map.1 hx
  rcases (keys_diff l m n).1 ((sortN_perm _).mem_iff.1 (List.mem_filter.1 hn).1) with h | h
  · exact bl n h
  · exact bm n h
def BGood (n : Nat) (l : List S34) : Prop := l.length ≤ n ∧ ∀ x ∈ l, Brief x ∧ mayN x = true
theorem BGood.good {n : Nat} {l : List S34} (h : BGood n l) (hn : n ≤ 1000) : GoodL l := ⟨by have := h.1; omega, fun x hx => ⟨(h.2 x hx).1.tiny, (h.2 x hx).2⟩⟩
theorem saidV_oke {n : Nat} {l : List S34} {b : Int} (h : BGood n l) (hn : n ≤ 1000) : Oke (saidV l b) ∧ (∀ x ∈ saidV l b, Brief x.f0) ∧ (saidV l b).length ≤ n := by
  have hg := h.good hn
  have h1 := h.1
  unfold saidV
  split
  · exact ⟨(goodL_nil.oke hg (by simp; omega)).1, diffV_brief [] l (fun x h => by cases h) (fun x hx => (h.2 x hx).1), by have := diffV_len2 [] l; simp at this; omega⟩
  · exact ⟨(hg.oke goodL_nil (by simp; omega)).1, diffV_brief l [] (fun x hx => (h.2 x hx).1) (fun x h => by cases h), by have := diffV_len2 l []; simp at this; omega⟩
def chU (u : UV) (dm b ed : Int) (l : List S34) : UV := ⟨u.m + dm, u.e + b * ed, bothV u.s (saidV l b)⟩
theorem change14_pc (u : UV) (dm b ed : Int) (l : List S34) (ou : Oke u.s) (hu : u.s.length ≤ 900) (bu : ∀ x ∈ u.s, Brief x.f0) (hl : BGood 100 l) (w1 : I64 (u.m + dm)) (w2 : I64 (b * ed)) (w3 : I64 (u.e + b * ed)) :
    PC 20 [evU u, .s (.int .i64 dm), .s (.int .i64 b), .s (.int .i64 ed), .sl 0 2 (l.map evN)] (.tu [evU (chU u dm b ed l), .s (.bool (okU (chU u dm b ed l)))]) := by
  obtain ⟨os, bs, ls⟩ := saidV_oke (b := b) hl (by decide)
  have hbl := bothV_len2 u.s (saidV l b)
  have wM : PC 16 [.ag [.s (.int .i64 (IntKind.wrap .i64 (u.m + dm))), .s (.int .i64 (IntKind.wrap .i64 (u.e + IntKind.wrap .i64 (b * ed)))), .sl 0 3 ((bothV u.s (saidV l b)).map evE)]] (.s (.bool (okU (chU u dm b ed l)))) := by
    rw [wrapI w2, wrapI w1, wrapI w3]
    exact may14_pc (chU u dm b ed l) (by show (bothV _ _).length ≤ _; omega) (bothV_brief' _ _ bu bs)
  refine pc_of tt_ok tt_follows Tryz.func20 rfl (by kernel_rfl) (by kernel_rfl) (Nat.le_of_ble_eq_true rfl) rfl ?_
  conv => whnf
  refine ⟨_, said14_pc l b (by have := hl.1; omega) hl.2, ?_⟩
  conv => whnf
  refine ⟨_, both13r_pc u.s (saidV l b) ou os (by omega) (by omega) bu bs, ?_⟩
  conv => whnf
  refine ⟨by kernel_rfl, ?_⟩
  conv => whnf
  refine ⟨_, wM, ?_⟩
  conv => whnf
  refine ⟨by kernel_rfl, ?_⟩
  conv => whnf
  refine ⟨?_, rfl, trivial⟩
  show PV.ag [.s (.int .i64 (IntKind.wrap .i64 (u.m + dm))), .s (.int .i64 (IntKind.wrap .i64 (u.e + IntKind.wrap .i64 (b * ed)))), .sl 0 3 ((bothV u.s (saidV l b)).map evE)] = evU (chU u dm b ed l)
  rw [wrapI w2, wrapI w1, wrapI w3]; rfl
end Go.Proofs.YtohdmmafjpjmfaaGreatDoor.Q
end
