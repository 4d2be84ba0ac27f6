/- Part 14 of this claim: several texts one behind the other: R13Both, R13Diff, EvB14, EvChk, EvR5, EvR13, EvU1, EvU2, EvR14, EvRFits. What each shows stands in its theorems; conditions: sizes of texts and lists, as the functions' definitions say. -/
import Derived.Test.YtohdmmafjpjmfaaGreatDoorMRoomBack2
import Derived.Test.YtohdmmafjpjmfaaGreatDoorMRoomBack11
import Derived.Test.YtohdmmafjpjmfaaGreatDoorMRoomBack10
import Derived.Test.YtohdmmafjpjmfaaGreatDoorMRoomBack12
import Derived.Test.YtohdmmafjpjmfaaGreatDoorMRoomBack13
import Derived.Test.YtohdmmafjpjmfaaGreatDoorMRoomBack5
import Derived.Test.YtohdmmafjpjmfaaGreatDoorMRoomBack9
import Derived.Test.YtohdmmafjpjmfaaGreatDoorMRoomBack6
import Derived.Test.YtohdmmafjpjmfaaGreatDoorMRoomBack8
section
namespace Go.Proofs.YtohdmmafjpjmfaaGreatDoor.Q
open Go.Proofs.YtohdmmafjpjmfaaGreatDoor.QB.D
open Go Go.RowKit Go.Lib Go.Proofs.YtohdmmafjpjmfaaGreatDoorW.PrintWords Go.Ev
set_option linter.unusedVariables false
section
variable {F : Nat → Nat → Prop} {w : World} {f : FuncId} {fn : Func}
theorem pc_ag1 (hf : Tryz.prog.funcs[f]? = some fn) (hn : (fn.name == "runtime.NumGoroutine") = false) (hb : fn.body.isSome = true) (x : S34) (v : Value) (h : ∀ w, Calls Tryz.prog f #[.agg #[.string x.f0, .string x.f1]] w fun e w' => e = .returned v ∧ Below w.heap.size w w') : PC f [evN x] (.s v) :=
  ⟨⟨fn, hf, hn, hb⟩, fun w F vs hv => by
    match vs, hv with
    | [u], hv =>
      rw [evN_eq hv.1]
      exact (h w).mono fun e w' ⟨he, hb⟩ => ⟨v, he, hb, res_s v⟩
    | [], hv => exact hv.elim
    | _ :: _ :: _, hv => exact hv.2.elim⟩
theorem pc_ag2 (hf : Tryz.prog.funcs[f]? = some fn) (hn : (fn.name == "runtime.NumGoroutine") = false) (hb : fn.body.isSome = true) (x y : S34) (v : Value) (h : ∀ w, Calls Tryz.prog f #[.agg #[.string x.f0, .string x.f1], .agg #[.string y.f0, .string y.f1]] w fun e w' => e = .returned v ∧ Below w.heap.size w w') : PC f [evN x, evN y] (.s v) :=
  ⟨⟨fn, hf, hn, hb⟩, fun w F vs hv => by
    match vs, hv with
    | [u, u'], hv =>
      rw [evN_eq hv.1, evN_eq hv.2.1]
      exact (h w).mono fun e w' ⟨he, hb⟩ => ⟨v, he, hb, res_s v⟩
    | [], hv => exact hv.elim
    | [_], hv => exact hv.2.elim
    | _ :: _ :: _ :: _, hv => exact hv.2.2.elim⟩
theorem pc_row {α : Type} {d : Kd α} {raw : α → List Value} {enc : α → PV} (hfl : Flat d raw enc) (hf : Tryz.prog.funcs[f]? = some fn) (hn : (fn.name == "runtime.NumGoroutine") = false) (hb : fn.body.isSome = true) {z : Nat} (hz : z = d.sz) (l : List α) (hl : l.length ≤ 9223372036854775807) (r : PV)
    (h : ∀ w A c, d.C w A l.length l → l.length ≤ c → Calls Tryz.prog f #[.slice A l.length c] w fun e w' => ∃ v, e = .returned v ∧ Below w.heap.size w w' ∧ ∀ F, Res F w.heap.size w' r v) : PC f [.sl 0 z (l.map enc)] r :=
  ⟨⟨fn, hf, hn, hb⟩, fun w F vs hv => by
    match vs, hv with
    | [u], hv =>
      obtain ⟨A, c, rfl, hc, hC⟩ := hfl.toC hv.1 hz hl
      exact (h w A c hC hc).mono fun e w' ⟨v, he, hb, hr⟩ => ⟨v, he, hb, hr F⟩
    | [], hv => exact hv.elim
    | _ :: _ :: _, hv => exact hv.2.elim⟩
theorem pc_row2 {α β : Type} {d : Kd α} {raw : α → List Value} {enc : α → PV} {d' : Kd β} {raw' : β → List Value} {enc' : β → PV} (hfl : Flat d raw enc) (hfl' : Flat d' raw' enc') (hf : Tryz.prog.funcs[f]? = some fn) (hn : (fn.name == "runtime.NumGoroutine") = false) (hb : fn.body.isSome = true) {z z' : Nat} (hz : z = d.sz) (hz' : z' = d'.sz) (l : List α) (m : List β) (hl : l.length ≤ 9223372036854775807) (hm : m.length ≤ 9223372036854775807) (r : PV)
    (h : ∀ w A c A' c', d.C w A l.length l → l.length ≤ c → d'.C w A' m.length m → m.length ≤ c' → Calls Tryz.prog f #[.slice A l.length c, .slice A' m.length c'] w fun e w' => ∃ v, e = .returned v ∧ Below w.heap.size w w' ∧ ∀ F, Res F w.heap.size w' r v) : PC f [.sl 0 z (l.map enc), .sl 0 z' (m.map enc')] r :=
  ⟨⟨fn, hf, hn, hb⟩, fun w F vs hv => by
    match vs, hv with
    | [u, u'], hv =>
      obtain ⟨A, c, rfl, hc, hC⟩ := hfl.toC hv.1 hz hl
      obtain ⟨A', c', rfl, hc', hC'⟩ := hfl'.toC hv.2.1 hz' hm
      exact (h w A c A' c' hC hc hC' hc').mono fun e w' ⟨v, he, hb, hr⟩ => ⟨v, he, hb, hr F⟩
    | [], hv => exact hv.elim
    | [_], hv => exact hv.2.elim
    | _ :: _ :: _ :: _, hv => exact hv.2.2.elim⟩
end
theorem nodeMay_pc (x : S34) (hx : TinyN x) : PC 45 [evN x] (.s (.bool (mayN x))) :=
  pc_ag1 Tryz.func45 (by kernel_rfl) rfl x _ fun w => node_May.calls (x.f0.size + 2) _ _ _ w (node_May_val _ x hx (Nat.le_refl _))
theorem count13_pc (G : List S34) (hl : G.length ≤ 30000) (ht : ∀ x ∈ G, TinyN x) (x : List S48) (i : Int) (hx : (if G.all mayN = true then (diffV [] G, (0 : Int)) else ([], 1)) = (x, i)) : PC 47 [.sl 0 2 (G.map evN)] (.tu [.sl 5 3 (x.map evE), .s (.int .i64 i)]) :=
  pc_row flatN Tryz.func47 (by kernel_rfl) rfl rfl G (by omega) _ fun w A c hC hc =>
    (diff_Count.calls A c G _ _ w hC hc (by
      unfold diff_Count.f diff_Diff.f
      rw [if_pos ⟨by simp, by omega, (fun x h => by cases h), ht⟩, ← hx]
      simp)).mono fun e w' ⟨v, he, hr, hb⟩ => ⟨_, he, hb, fun F => (flatE.res hr).pair (fun ps e => by cases e)⟩
theorem order13_pc (x y : S34) (hx : TinyN x ∧ mayN x = true) (hy : TinyN y ∧ mayN y = true) : PC 49 [evN x, evN y] (.s (.int .i64 (ordN x y))) :=
  pc_ag2 Tryz.func49 (by kernel_rfl) rfl x y _ fun w => (diff_order.calls 4294967310 _ _ _ _ _ w (order13_val _ (Nat.le_refl _) x y hx hy))
theorem both13_pc (l m : List S48) (hl : Oke l) (hm : Oke m) (x : List S48) (i : Int) (hx : (if checkE (bothV l m) = true then (bothV l m, (0 : Int)) else ([], 4)) = (x, i)) : PC 52 [.sl 0 3 (l.map evE), .sl 0 3 (m.map evE)] (.tu [.sl 5 3 (x.map evE), .s (.int .i64 i)]) :=
  pc_row2 flatE flatE Tryz.func52 (by kernel_rfl) rfl rfl rfl l m (by have := hl.len; omega) (by have := hm.len; omega) _ fun w A c A' c' hC hc hC' hc' =>
    (diff_Both.calls A c l A' c' m x i w hC hc hC' hc' (by
      unfold diff_Both.f
      rw [if_pos ⟨hl.len, hm.len, fun x h => (hl.tiny x h).1, fun x h => (hm.tiny x h).1⟩, if_pos ⟨hl.check, hm.check⟩, hx])).mono fun e w' ⟨v, he, hr, hb⟩ => ⟨_, he, hb, fun F => (flatE.res hr).pair (fun ps e => by cases e)⟩
theorem turn13_pc (l : List S48) (hl : Oke l) : PC 51 [.sl 0 3 (l.map evE)] (.tu [.sl 5 3 ((l.map turnE).map evE), .s (.int .i64 0)]) :=
  pc_row flatE Tryz.func51 (by kernel_rfl) rfl rfl l (by have := hl.len; omega) _ fun w A c hC hc =>
    (diff_Turn.calls A c l _ _ w hC hc (by
      unfold diff_Turn.f
      rw [if_pos ⟨by have := hl.len; omega, fun x h => (hl.tiny x h).1⟩, if_pos hl.check])).mono fun e w' ⟨v, he, hr, hb⟩ => ⟨_, he, hb, fun F => (flatE.res hr).pair (fun ps e => by cases e)⟩
end Go.Proofs.YtohdmmafjpjmfaaGreatDoor.Q
end
section
namespace Go.Proofs.YtohdmmafjpjmfaaGreatDoor.Q
open Go.Proofs.YtohdmmafjpjmfaaGreatDoor.QB.D
open Go Go.RowKit Go.Lib Go.Proofs.YtohdmmafjpjmfaaGreatDoorW.PrintWords Go.Ev
set_option linter.unusedVariables false
set_option maxRecDepth 100000
theorem checkE_bad {l : List S48} {i : Nat} (hil : i < l.length) (h : ¬ okAt l i hil) : checkE l = false := by
  rw [Bool.eq_false_iff]
  intro e
  exact h ((checkE_iff l).1 e i hil)
theorem edE_bad {l : List S48} {i : Nat} (hil : i < l.length) (h : ¬ (mayN l[i].f0 = true ∧ l[i].f1 ≠ 0 ∧ l[i].f1 ≤ 1099511627776 ∧ -1099511627776 ≤ l[i].f1)) : checkE l = false :=
  checkE_bad hil (fun e => h ((edE_iff _).1 e.1))
theorem check13_pc (l : List S48) (hl : l.length ≤ 4294967296) (ht : ∀ x ∈ l, TinyN x.f0) : PC 32 [.sl 0 3 (l.map evE)] (.s (.int .i64 (okV (checkE l)))) := by
  refine pc_of tt_ok tt_follows Tryz.func32 rfl (by kernel_rfl) (by kernel_rfl) (Nat.le_of_ble_eq_true rfl) rfl ?_
  conv => whnf
  refine ⟨Nat, fun i => i ≤ l.length ∧ ∀ j (hj : j < l.length), j < i → okAt l j hj, fun i => [(21, .s (.int .i64 i))], [0, 15, 18], fun i => l.length - i, 0, ⟨Nat.zero_le _, fun j _ h => absurd h (Nat.not_lt_zero _)⟩, ?_, fun i hi => ?_⟩
  · repeat' (first | exact trivial | exact rfl | refine ⟨?_, ?_⟩)
  · obtain ⟨h1, h2⟩ := hi
    conv => whnf
    constructor
    · intro h
      have hil := ltm h
      have bi := ht _ (List.getElem_mem hil)
      conv => whnf
      refine ⟨_, idx_map evE l i hil, ?_⟩
      conv => whnf
      refine ⟨_, nodeMay_pc l[i].f0 bi, ?_⟩
      conv => whnf
      constructor
      · intro g0
        have g0 : mayN l[i].f0 = false := by simpa using g0
        conv => whnf
        refine ⟨by kernel_rfl, ?_⟩
        conv => whnf
        rw [edE_bad hil (fun e => by rw [g0] at e; cases e.1)] <;> rfl
      · intro g0
        have g0 : mayN l[i].f0 = true := by simpa using g0
        conv => whnf
        constructor
        · intro g1
          have g1 : l[i].f1 = 0 := by simpa using g1
          conv => whnf
          refine ⟨by kernel_rfl, ?_⟩
          conv => whnf
          rw [edE_bad hil (fun e => e.2.1 g1)] <;> rfl
        · intro g1
          have g1 : l[i].f1 ≠ 0 := by simpa using g1
          conv => whnf
          constructor
          · intro g2
            have g2 := of_decide_eq_true g2
            conv => whnf
            refine ⟨by kernel_rfl, ?_⟩
            conv => whnf
            rw [edE_bad hil (fun e => absurd e.2.2.1 (by omega))] <;> rfl
          · intro g2
            have g2 := of_decide_eq_false g2
            conv => whnf
            constructor
            · intro g3
              have g3 := of_decide_eq_true g3
              conv => whnf
              refine ⟨by kernel_rfl, ?_⟩
              conv => whnf
              rw [edE_bad hil (fun e => absurd e.2.2.2 (by omega))] <;> rfl
            · intro g3
              have g3 := of_decide_eq_false g3
              have hed : edE l[i] = true := (edE_iff _).2 ⟨g0, g1, by omega, by omega⟩
              conv => whnf
              constructor
              · intro g4
                have g4 := of_decide_eq_true g4
                obtain ⟨m, rfl⟩ : ∃ m, i = m + 1 := ⟨i - 1, by omega⟩
                have hml : m < l.length := by omega
                have okm := h2 m hml (by omega)
                conv => whnf
                refine ⟨_, idx_mapI evE l m (by rw [wrapI (by omega)]; omega) hml, ?_⟩
                conv => whnf
                refine ⟨_, order13_pc l[m].f0 l[m + 1].f0 ⟨ht _ (List.getElem_mem hml), ((edE_iff _).1 okm.1).1⟩ ⟨bi, g0⟩, ?_⟩
                conv => whnf
                refine ⟨by kernel_rfl, ?_⟩
                conv => whnf
                constructor
                · intro g5
                  have g5 : ¬ ordN l[m].f0 l[m + 1].f0 < 0 := by have := of_decide_eq_true g5; omega
                  conv => whnf
                  rw [checkE_bad hil (fun e => g5 (e.2 m rfl hml))] <;> rfl
                · intro g5
                  have g5 : ordN l[m].f0 l[m + 1].f0 < 0 := by have := of_decide_eq_false g5; omega
                  conv => whnf
                  refine ⟨m + 1 + 1, ⟨hil, fun j hj g => ?_⟩, less1 hil, ⟨⟨incI hil hl, trivial, trivial⟩, ⟨rfl, trivial, rfl, trivial, rfl, trivial, trivial⟩⟩⟩
                  by_cases hji : j < m + 1
                  · exact h2 j hj hji
                  · obtain rfl : j = m + 1 := by omega
                    exact ⟨hed, fun m' e hm => by obtain rfl : m' = m := by omega
                                                  exact g5⟩
              · intro g4
                have g4 := of_decide_eq_false g4
                obtain rfl : i = 0 := by omega
                conv => whnf
                refine ⟨by kernel_rfl, ?_⟩
                conv => whnf
                refine ⟨0 + 1, ⟨hil, fun j hj g => ?_⟩, less1 hil, ⟨⟨incI hil hl, trivial, trivial⟩, ⟨rfl, trivial, rfl, trivial, rfl, trivial, trivial⟩⟩⟩
                obtain rfl : j = 0 := by omega
                exact ⟨hed, fun m' e hm => by omega⟩
    · intro h
      have hil := gem h h1
      conv => whnf
      rw [(checkE_iff l).2 (fun j hj => h2 j hj (by omega))] <;> rfl
theorem len1 {n k : Nat} (h : n ≤ 1000000) (hk : k ≤ 100) : n + 1 ≤ maxLen ∧ (n + 1) * k ≤ 140737488355328 := by
  constructor
  · unfold maxLen; omega
  · have : (n + 1) * k ≤ 1000001 * 100 := Nat.mul_le_mul (by omega) hk
    omega
def fitsU (lm ln le : Int) (u : UV) : Int := if u.m > lm then 8 else if (u.s.length : Int) > ln then 9 else if u.e > le then 10 else 0
theorem okU_eq (u : UV) : okU u = (decide (0 ≤ u.m ∧ u.m ≤ 1099511627776) && (decide (0 ≤ u.e ∧ u.e ≤ 1099511627776) && (checkE u.s && !u.s.any (fun x => decide (x.f1 < 0))))) := by
  unfold okU
  rw [Bool.eq_iff_iff]
  simp only [Bool.and_eq_true, decide_eq_true_eq, List.all_eq_true, Bool.not_eq_true', List.any_eq_false, decide_eq_false_iff_not]
  constructor
  · rintro ⟨⟨h1, h2, h3, h4⟩, h5, h6⟩; exact ⟨⟨h1, h2⟩, ⟨h3, h4⟩, h5, fun x hx => by simpa using h6 x hx⟩
  · rintro ⟨⟨h1, h2⟩, ⟨h3, h4⟩, h5, h6⟩; exact ⟨⟨h1, h2, h3, h4⟩, h5, fun x hx => by simpa using h6 x hx⟩
def evU (u : UV) : PV := .ag [.s (.int .i64 u.m), .s (.int .i64 u.e), .sl 0 3 (u.s.map evE)]
theorem few1_pc (s : ByteArray) : PC 34 [.s (.string s)] (.s (.string (few s))) := by
  refine pc_of tt_ok tt_follows Tryz.func34 rfl (by kernel_rfl) (by kernel_rfl) (Nat.le_of_ble_eq_true rfl) rfl ?_
  conv => whnf
  constructor
  · intro h
    have h' : (s.size : Int) > 400 := by simpa using h
    conv => whnf
    refine ⟨⟨by decide, by decide, by show (400 : Int) ≤ s.size; omega⟩, ?_⟩
    conv => whnf
    unfold few
    rw [if_pos h'] <;> rfl
  · intro h
    have h' : ¬ (s.size : Int) > 400 := by simpa using h
    conv => whnf
    unfold few
    rw [if_neg h']
theorem one5_pc (x : S34) : PC 14 [evN x] (evN (oneN x)) := by
  refine pc_of tt_ok tt_follows Tryz.func14 rfl (by kernel_rfl) (by kernel_rfl) (Nat.le_of_ble_eq_true rfl) rfl ?_
  conv => whnf
  refine ⟨_, few1_pc x.f0, ?_⟩
  conv => whnf
  refine ⟨_, few1_pc x.f1, ?_⟩
  conv => whnf
  refine ⟨by kernel_rfl, ?_⟩
  conv => whnf
  rfl
theorem len_le_of {n k : Nat} (h : n ≤ 100) (hk : k ≤ 100) : n + 1 ≤ maxLen ∧ (n + 1) * k ≤ 140737488355328 := by
  constructor
  · unfold maxLen; omega
  · have : (n + 1) * k ≤ 101 * 100 := Nat.mul_le_mul (by omega) hk
    omega
theorem few5_pc (l : List S34) : PC 22 [.sl 0 2 (l.map evN)] (.sl 4 2 ((fewN l).map evN)) := by
  refine pc_of tt_ok tt_follows Tryz.func22 rfl (by kernel_rfl) (by kernel_rfl) (Nat.le_of_ble_eq_true rfl) rfl ?_
  conv => whnf
  refine ⟨Nat, fun i => i ≤ l.length ∧ i ≤ 24, fun i => [(9, .sl 24 2 (((l.take i).map oneN).map evN)), (12, .s (.int .i64 i)), (68, .fr (((l.take i).map oneN).map evN).length 2)], [0, 6], fun i => l.length - i, 0, ⟨Nat.zero_le _, Nat.zero_le _⟩, ?_, fun i hi => ?_⟩
  · exact ⟨⟨⟨rfl, Or.inr rfl, Or.inr (Or.inr rfl)⟩, Nat.le_refl _, rfl, trivial, Or.inl rfl, trivial, trivial⟩, ⟨rfl, trivial, rfl, trivial, trivial⟩⟩
  · obtain ⟨h1, h2⟩ := hi
    conv => whnf
    constructor
    · intro h
      have hil := ltm h
      conv => whnf
      constructor
      · intro h
        have hi24 : i < 24 := by have := of_decide_eq_true h; omega
        conv => whnf
        refine ⟨_, idx_map evN l i hil, ?_⟩
        conv => whnf
        refine ⟨_, one5_pc l[i], ?_⟩
        conv => whnf
        refine ⟨by rw [List.length_map, List.length_map, List.length_take]; exact len_le_of (by omega) (by decide), ?_⟩
        conv => whnf
        refine ⟨rfl, ?_⟩
        conv => whnf
        refine ⟨i + 1, ⟨hil, hi24⟩, less1 hil, ⟨⟨⟨?_, Or.inl rfl, Or.inr (Or.inl rfl)⟩, Nat.le_refl _, incI hi24 (by decide), trivial, Or.inr ?_, trivial, trivial⟩, ⟨rfl, trivial, rfl, trivial, trivial⟩⟩⟩
        · rw [take_succ_map, List.map_append] <;> rfl
        · rw [take_succ_map _ _ _ hil, List.map_append] <;> rfl
      · intro h
        have hi24 : ¬ i < 24 := by have := of_decide_eq_false h; omega
        conv => whnf
        refine ⟨?_, Or.inl rfl, Or.inr rfl⟩
        unfold fewN
        obtain rfl : i = 24 := by omega
        rfl
    · intro h
      have hil := gem h h1
      conv => whnf
      refine ⟨?_, Or.inl rfl, Or.inr rfl⟩
      unfold fewN
      rw [List.take_of_length_le (by omega), List.take_of_length_le (by omega)]
theorem within_pc (n : Int) : PC 31 [.s (.int .i64 n)] (.s (.bool (decide (0 ≤ n ∧ n ≤ 1099511627776)))) := by
  refine pc_of tt_ok tt_follows Tryz.func31 rfl (by kernel_rfl) (by kernel_rfl) (Nat.le_of_ble_eq_true rfl) rfl ?_
  conv => whnf
  constructor
  · intro h
    conv => whnf
    have : (decide (0 ≤ n ∧ n ≤ 1099511627776)) = decide (n ≤ 1099511627776) := by
      have h' : n ≥ 0 := by simpa using h
      rw [decide_eq_decide]; omega
    rw [this]
  · intro h
    conv => whnf
    have : (decide (0 ≤ n ∧ n ≤ 1099511627776)) = false := by
      have h' : ¬ n ≥ 0 := by simpa using h
      rw [decide_eq_false_iff_not]; omega
    rw [this] <;> rfl
theorem neg_pc (x : S48) : PC 30 [evE x] (.s (.bool (decide (x.f1 < 0)))) := by
  refine pc_of tt_ok tt_follows Tryz.func30 rfl (by kernel_rfl) (by kernel_rfl) (Nat.le_of_ble_eq_true rfl) rfl ?_
  conv => whnf
def idxI {α : Type} (p : α → Bool) (l : List α) : Int := if l.any p then ((l.findIdx p : Nat) : Int) else -1
theorem idxI_hit {α : Type} {p : α → Bool} {l : List α} {i : Nat} (h : i < l.length) (hp : p l[i] = true) (hn : ∀ j (hj : j < l.length), j < i → p l[j] = false) : idxI p l = i := by
  unfold idxI
  rw [if_pos (List.any_eq_true.2 ⟨_, List.getElem_mem h, hp⟩)]
  congr 1
  exact (List.findIdx_eq h).2 ⟨hp, fun j hj => hn j (by omega) hj⟩
theorem idxI_none {α : Type} {p : α → Bool} {l : List α} (hn : ∀ j (hj : j < l.length), p l[j] = false) : idxI p l = -1 := by
  unfold idxI
  rw [if_neg]
  rw [List.any_eq_true]
  rintro ⟨x, hx, hp⟩
  obtain ⟨j, hj, rfl⟩ := List.getElem_of_mem hx
  rw [hn j hj] at hp; cases hp
theorem idxI_ge {α : Type} (p : α → Bool) (l : List α) : decide (idxI p l ≥ 0) = l.any p := by
  unfold idxI
  split
  · rename_i h; rw [h]; exact decide_eq_true (Int.natCast_nonneg _)
  · rename_i h; rw [Bool.eq_false_iff.2 h]; decide
theorem indexE_pc (l : List S48) (hl : l.length ≤ 4294967296) (f : FuncId) (p : S48 → Bool) (hp : ∀ x ∈ l, PC f [evE x] (.s (.bool (p x)))) : PC 50 [.sl 0 3 (l.map evE), .s (.func (.func f) #[] #[])] (.s (.int .i64 (idxI p l))) := by
  refine pc_of tt_ok tt_follows Tryz.func50 rfl (by kernel_rfl) (by kernel_rfl) (Nat.le_of_ble_eq_true rfl) rfl ?_
  conv => whnf
  refine ⟨Nat, fun i => i ≤ l.length ∧ ∀ j (hj : j < l.length), j < i → p l[j] = false, fun i => [(24, .s (.int .i64 i))], [0, 3, 21], fun i => l.length - i, 0, ⟨Nat.zero_le _, fun j _ h => absurd h (Nat.not_lt_zero _)⟩, ?_, fun i hi => ?_⟩
  · exact ⟨⟨rfl, trivial, trivial⟩, ⟨rfl, trivial, rfl, trivial, rfl, trivial, trivial⟩⟩
  · obtain ⟨h1, h2⟩ := hi
    conv => whnf
    constructor
    · intro h
      have hil := ltm h
      conv => whnf
      refine ⟨_, idx_map evE l i hil, ?_⟩
      conv => whnf
      refine ⟨_, hp _ (List.getElem_mem hil), ?_⟩
      conv => whnf
      constructor
      · intro hq
        conv => whnf
        rw [idxI_hit hil hq h2] <;> rfl
      · intro hq
        conv => whnf
        refine ⟨i + 1, ⟨hil, fun j hj g => ?_⟩, less1 hil, ⟨⟨incI hil hl, trivial, trivial⟩, ⟨rfl, trivial, rfl, trivial, rfl, trivial, trivial⟩⟩⟩
        by_cases hji : j < i
        · exact h2 j hj hji
        · obtain rfl : j = i := by omega
          exact hq
    · intro h
      have hil := gem h h1
      conv => whnf
      rw [idxI_none (fun j hj => h2 j hj (by omega))] <;> rfl
theorem containsE_pc (l : List S48) (hl : l.length ≤ 4294967296) (f : FuncId) (p : S48 → Bool) (hp : ∀ x ∈ l, PC f [evE x] (.s (.bool (p x)))) : PC 33 [.sl 0 3 (l.map evE), .s (.func (.func f) #[] #[])] (.s (.bool (l.any p))) := by
  refine pc_of tt_ok tt_follows Tryz.func33 rfl (by kernel_rfl) (by kernel_rfl) (Nat.le_of_ble_eq_true rfl) rfl ?_
  conv => whnf
  refine ⟨_, indexE_pc l hl f p hp, ?_⟩
  conv => whnf
  rw [← idxI_ge] <;> rfl
theorem indexN_pc (l : List S34) (hl : l.length ≤ 4294967296) (f : FuncId) (p : S34 → Bool) (hp : ∀ x ∈ l, PC f [evN x] (.s (.bool (p x)))) : PC 60 [.sl 0 2 (l.map evN), .s (.func (.func f) #[] #[])] (.s (.int .i64 (idxI p l))) := by
  refine pc_of tt_ok tt_follows Tryz.func60 rfl (by kernel_rfl) (by kernel_rfl) (Nat.le_of_ble_eq_true rfl) rfl ?_
  conv => whnf
  refine ⟨Nat, fun i => i ≤ l.length ∧ ∀ j (hj : j < l.length), j < i → p l[j] = false, fun i => [(24, .s (.int .i64 i))], [0, 3, 21], fun i => l.length - i, 0, ⟨Nat.zero_le _, fun j _ h => absurd h (Nat.not_lt_zero _)⟩, ?_, fun i hi => ?_⟩
  · exact ⟨⟨rfl, trivial, trivial⟩, ⟨rfl, trivial, rfl, trivial, rfl, trivial, trivial⟩⟩
  · obtain ⟨h1, h2⟩ := hi
    conv => whnf
    constructor
    · intro h
      have hil := ltm h
      conv => whnf
      refine ⟨_, idx_map evN l i hil, ?_⟩
      conv => whnf
      refine ⟨_, hp _ (List.getElem_mem hil), ?_⟩
      conv => whnf
      constructor
      · intro hq
        conv => whnf
        rw [idxI_hit hil hq h2] <;> rfl
      · intro hq
        conv => whnf
        refine ⟨i + 1, ⟨hil, fun j hj g => ?_⟩, less1 hil, ⟨⟨incI hil hl, trivial, trivial⟩, ⟨rfl, trivial, rfl, trivial, rfl, trivial, trivial⟩⟩⟩
        by_cases hji : j < i
        · exact h2 j hj hji
        · obtain rfl : j = i := by omega
          exact hq
    · intro h
      have hil := gem h h1
      conv => whnf
      rw [idxI_none (fun j hj => h2 j hj (by omega))] <;> rfl
theorem containsN_pc (l : List S34) (hl : l.length ≤ 4294967296) (f : FuncId) (p : S34 → Bool) (hp : ∀ x ∈ l, PC f [evN x] (.s (.bool (p x)))) : PC 43 [.sl 0 2 (l.map evN), .s (.func (.func f) #[] #[])] (.s (.bool (l.any p))) := by
  refine pc_of tt_ok tt_follows Tryz.func43 rfl (by kernel_rfl) (by kernel_rfl) (Nat.le_of_ble_eq_true rfl) rfl ?_
  conv => whnf
  refine ⟨_, indexN_pc l hl f p hp, ?_⟩
  conv => whnf
  rw [← idxI_ge] <;> rfl
theorem rcheck_pc (u : UV) (hl : u.s.length ≤ 4294967296) (ht : ∀ x ∈ u.s, TinyN x.f0) : PC 11 [evU u] (.s (.int .i64 (okV (okU u)))) := by
  have wA := within_pc u.m
  have wB := within_pc u.e
  have wC := check13_pc u.s hl ht
  have wD := containsE_pc u.s hl 30 (fun x => decide (x.f1 < 0)) (fun x _ => neg_pc x)
  rw [okU_eq]
  revert wA wB wC wD
  generalize decide (0 ≤ u.m ∧ u.m ≤ 1099511627776) = A
  generalize decide (0 ≤ u.e ∧ u.e ≤ 1099511627776) = B
  generalize checkE u.s = C
  generalize u.s.any (fun x => decide (x.f1 < 0)) = D
  intro wA wB wC wD
  refine pc_of tt_ok tt_follows Tryz.func11 rfl (by kernel_rfl) (by kernel_rfl) (Nat.le_of_ble_eq_true rfl) rfl ?_
  conv => whnf
  refine ⟨_, wA, ?_⟩
  conv => whnf
  constructor
  · intro h
    conv => whnf
    cases A
    · rfl
    · cases h
  · intro h
    obtain rfl : A = true := by simpa using h
    conv => whnf
    refine ⟨_, wB, ?_⟩
    conv => whnf
    constructor
    · intro h
      conv => whnf
      cases B
      · rfl
      · cases h
    · intro h
      obtain rfl : B = true := by simpa using h
      conv => whnf
      refine ⟨_, wC, ?_⟩
      conv => whnf
      constructor
      · intro h
        conv => whnf
        cases C
        · rfl
        · cases h
      · intro h
        obtain rfl : C = true := by cases C; cases h; rfl
        conv => whnf
        refine ⟨_, wD, ?_⟩
        conv => whnf
        constructor
        · intro h
          conv => whnf
          cases D
          · cases h
          · rfl
        · intro h
          conv => whnf
          cases D
          · rfl
          · cases h
theorem fits_pc (u : UV) (lt lm ln le : Int) (hl : u.s.length ≤ 4294967296) (ht : ∀ x ∈ u.s, TinyN x.f0) : PC 12 [.ag [.s (.int .i64 lt), .s (.int .i64 lm), .s (.int .i64 ln), .s (.int .i64 le)], evU u] (.s (.int .i64 (if okU u = true then fitsU lm ln le u else 1))) := by
  have wC := rcheck_pc u hl ht
  revert wC
  generalize okU u = C
  intro wC
  refine pc_of tt_ok tt_follows Tryz.func12 rfl (by kernel_rfl) (by kernel_rfl) (Nat.le_of_ble_eq_true rfl) rfl ?_
  conv => whnf
  refine ⟨_, wC, ?_⟩
  conv => whnf
  constructor
  · intro h
    conv => whnf
    cases C
    · rfl
    · cases h
  · intro h
    obtain rfl : C = true := by cases C; cases h; rfl
    conv => whnf
    rw [if_pos rfl]
    unfold fitsU
    constructor
    · intro h
      have h := of_decide_eq_true h
      conv => whnf
      rw [if_pos h]
    · intro h
      have h := of_decide_eq_false h
      conv => whnf
      rw [if_neg h]
      constructor
      · intro h
        have h := of_decide_eq_true h
        rw [List.length_map] at h
        conv => whnf
        rw [if_pos h]
      · intro h
        have h := of_decide_eq_false h
        rw [List.length_map] at h
        conv => whnf
        rw [if_neg h]
        constructor
        · intro h
          have h := of_decide_eq_true h
          conv => whnf
          rw [if_pos h]
        · intro h
          have h := of_decide_eq_false h
          conv => whnf
          rw [if_neg h]
theorem cloneN_pc (l : List S34) (hl : l.length ≤ 1000000) : PC 42 [.sl 0 2 (l.map evN)] (.sl 4 2 (l.map evN)) := by
  refine pc_of tt_ok tt_follows Tryz.func42 rfl (by kernel_rfl) (by kernel_rfl) (Nat.le_of_ble_eq_true rfl) rfl ?_
  conv => whnf
  constructor
  · intro h
    conv => whnf
    rw [h]
    exact ⟨rfl, Or.inr rfl, Or.inl rfl⟩
  · conv => whnf
    have e : (l.map evN).length = l.length := List.length_map ..
    refine ⟨⟨by show 0 + _ ≤ _; rw [e]; unfold maxLen; omega, by show (0 + _) * 32 ≤ _; rw [e]; omega⟩, ?_⟩
    conv => whnf
    exact ⟨rfl, Or.inl rfl, Or.inr rfl⟩
theorem okV_ne {b : Bool} (h : (okV b != (0 : Int)) = true) : b = false := by cases b; rfl; cases h
theorem okV_eq {b : Bool} (h : (okV b != (0 : Int)) = false) : b = true := by cases b; cases h; rfl
theorem change_pc (u : UV) (dm de nn : Int) (S : List S34) (hu : ∀ x ∈ u.s, TinyN x.f0) (hl : u.s.length + S.length ≤ 30000) (hS : ∀ x ∈ S, TinyN x)
    (hd : -1099511627776 ≤ dm ∧ dm ≤ 1099511627776 ∧ -1099511627776 ≤ de ∧ de ≤ 1099511627776) (hn : nn ≠ 0) (v : UV) (r : Int) (hv : changeU u dm de nn S = (v, r)) :
    PC 35 [evU u, .s (.int .i64 dm), .s (.int .i64 de), .s (.int .i64 nn), .sl 0 2 (S.map evN)] (.tu [evU v, .s (.int .i64 r)]) := by
  have wK := rcheck_pc u (by omega) hu
  have hneg : ¬ (okU u = true ∧ S.all mayN = true) → v = u ∧ r = 1 := fun h => by
    unfold changeU at hv
    rw [if_neg h] at hv
    injection hv with e1 e2
    exact ⟨e1.symm, e2.symm⟩
  refine pc_of tt_ok tt_follows Tryz.func35 rfl (by kernel_rfl) (by kernel_rfl) (Nat.le_of_ble_eq_true rfl) rfl ?_
  conv => whnf
  by_cases hm : S.all mayN = true
  case neg =>
    obtain ⟨rfl, rfl⟩ := hneg (fun h => hm h.2)
    refine ⟨_, count13_pc S (by omega) hS [] 1 (if_neg hm), ?_⟩
    conv => whnf
    refine ⟨_, wK, ?_⟩
    conv => whnf
    constructor
    · intro h
      conv => whnf
      exact ⟨rfl, rfl, trivial⟩
    · intro h
      conv => whnf
      refine ⟨fun _ => ?_, fun h => by cases h⟩
      conv => whnf
      exact ⟨rfl, rfl, trivial⟩
  case pos =>
    refine ⟨_, count13_pc S (by omega) hS (diffV [] S) 0 (if_pos hm), ?_⟩
    conv => whnf
    refine ⟨_, wK, ?_⟩
    conv => whnf
    constructor
    · intro h
      have hb := okV_ne h
      obtain ⟨rfl, rfl⟩ := hneg (fun h => by rw [hb] at h; cases h.1)
      conv => whnf
      exact ⟨rfl, rfl, trivial⟩
    · intro h
      have hb := okV_eq h
      conv => whnf
      refine ⟨(fun h => by cases h), fun _ => ?_⟩
      conv => whnf
      unfold changeU at hv
      rw [if_pos ⟨hb, hm⟩] at hv
      obtain ⟨⟨hm0, hm1, he0, he1⟩, hck, hps⟩ := (okU_iff u).1 hb
      have gS : GoodL S := ⟨by omega, fun x hx => ⟨hS x hx, List.all_eq_true.1 hm x hx⟩⟩
      have cu := check_can hu hck
      have oku : Oke u.s := ⟨cu.1, cu.2, (fun x hx => ⟨hu x hx, cu.1.set.may x.f0 (List.mem_map_of_mem hx)⟩), by omega⟩
      have oks := (goodL_nil.oke gS (by simp; omega)).1
      have wm : IntKind.wrap .i64 (u.m + dm) = u.m + dm := wrapI (by omega)
      have we : IntKind.wrap .i64 (u.e + de) = u.e + de := wrapI (by omega)
      constructor
      · intro h
        have h2 : nn = 2 := by simpa using h
        simp only [if_pos h2] at hv
        conv => whnf
        refine ⟨_, turn13_pc _ oks, ?_⟩
        conv => whnf
        refine ⟨(fun h => by cases h), fun _ => ?_⟩
        conv => whnf
        by_cases hB : checkE (bothV u.s ((diffV [] S).map turnE)) = true
        case neg =>
          refine ⟨_, both13_pc u.s ((diffV [] S).map turnE) oku oks.turn _ _ (if_neg hB), ?_⟩
          conv => whnf
          refine ⟨fun _ => ?_, fun h => by cases h⟩
          conv => whnf
          have : okU (addU u dm de ((diffV [] S).map turnE)) = false := Bool.eq_false_iff.2 (fun h => hB ((okU_iff _).1 h).2.1)
          rw [if_neg (by rw [this]; decide)] at hv
          injection hv with e1 e2
          subst e1; subst e2
          exact ⟨rfl, rfl, trivial⟩
        case pos =>
          refine ⟨_, both13_pc u.s ((diffV [] S).map turnE) oku oks.turn _ _ (if_pos hB), ?_⟩
          conv => whnf
          refine ⟨(fun h => by cases h), fun _ => ?_⟩
          conv => whnf
          have hbl := bothV_len2 u.s ((diffV [] S).map turnE)
          have wF : PC 11 [.ag [.s (.int .i64 (IntKind.wrap .i64 (u.m + dm))), .s (.int .i64 (IntKind.wrap .i64 (u.e + de))), .sl 0 3 ((bothV u.s ((diffV [] S).map turnE)).map evE)]] (.s (.int .i64 (okV (okU (addU u dm de ((diffV [] S).map turnE)))))) := by
            rw [wm, we]
            exact rcheck_pc (addU u dm de ((diffV [] S).map turnE)) (by show (bothV u.s ((diffV [] S).map turnE)).length ≤ _; have := oku.len; have := (oks.turn).len; omega) (fun x hx => (bothV_tinyE u.s ((diffV [] S).map turnE) oku.tiny (oks.turn).tiny x hx).1)
          refine ⟨_, wF, ?_⟩
          conv => whnf
          constructor
          · intro h
            have h := okV_ne h
            conv => whnf
            rw [if_neg (by rw [h]; decide)] at hv
            injection hv with e1 e2
            subst e1; subst e2
            exact ⟨rfl, rfl, trivial⟩
          · intro h
            have h := okV_eq h
            conv => whnf
            rw [if_pos h] at hv
            injection hv with e1 e2
            subst e1; subst e2
            refine ⟨?_, rfl, trivial⟩
            show PV.ag [.s (.int .i64 (IntKind.wrap .i64 (u.m + dm))), .s (.int .i64 (IntKind.wrap .i64 (u.e + de))), .sl 0 3 ((bothV u.s ((diffV [] S).map turnE)).map evE)] = evU (addU u dm de ((diffV [] S).map turnE))
            rw [wm, we]; rfl
      · intro h
        have h2 : nn ≠ 2 := by simpa using h
        simp only [if_neg h2] at hv
        conv => whnf
        by_cases hB : checkE (bothV u.s (diffV [] S)) = true
        case neg =>
          refine ⟨_, both13_pc u.s (diffV [] S) oku oks _ _ (if_neg hB), ?_⟩
          conv => whnf
          refine ⟨fun _ => ?_, fun h => by cases h⟩
          conv => whnf
          have : okU (addU u dm de (diffV [] S)) = false := Bool.eq_false_iff.2 (fun h => hB ((okU_iff _).1 h).2.1)
          rw [if_neg (by rw [this]; decide)] at hv
          injection hv with e1 e2
          subst e1; subst e2
          exact ⟨rfl, rfl, trivial⟩
        case pos =>
          refine ⟨_, both13_pc u.s (diffV [] S) oku oks _ _ (if_pos hB), ?_⟩
          conv => whnf
          refine ⟨(fun h => by cases h), fun _ => ?_⟩
          conv => whnf
          have hbl := bothV_len2 u.s (diffV [] S)
          have wF : PC 11 [.ag [.s (.int .i64 (IntKind.wrap .i64 (u.m + dm))), .s (.int .i64 (IntKind.wrap .i64 (u.e + de))), .sl 0 3 ((bothV u.s (diffV [] S)).map evE)]] (.s (.int .i64 (okV (okU (addU u dm de (diffV [] S)))))) := by
            rw [wm, we]
            exact rcheck_pc (addU u dm de (diffV [] S)) (by show (bothV u.s (diffV [] S)).length ≤ _; have := oku.len; have := (oks).len; omega) (fun x hx => (bothV_tinyE u.s (diffV [] S) oku.tiny (oks).tiny x hx).1)
          refine ⟨_, wF, ?_⟩
          conv => whnf
          constructor
          · intro h
            have h := okV_ne h
            conv => whnf
            rw [if_neg (by rw [h]; decide)] at hv
            injection hv with e1 e2
            subst e1; subst e2
            exact ⟨rfl, rfl, trivial⟩
          · intro h
            have h := okV_eq h
            conv => whnf
            rw [if_pos h] at hv
            injection hv with e1 e2
            subst e1; subst e2
            refine ⟨?_, rfl, trivial⟩
            show PV.ag [.s (.int .i64 (IntKind.wrap .i64 (u.m + dm))), .s (.int .i64 (IntKind.wrap .i64 (u.e + de))), .sl 0 3 ((bothV u.s (diffV [] S)).map evE)] = evU (addU u dm de (diffV [] S))
            rw [wm, we]; rfl
theorem appN_len {l : List S34} (h : l.length ≤ 1000000) (k : S34) : (l.map evN).length + [evN k].length ≤ maxLen ∧ ((l.map evN).length + [evN k].length) * 32 ≤ 140737488355328 := by
  rw [List.length_map]
  show l.length + 1 ≤ _ ∧ (l.length + 1) * 32 ≤ _
  constructor
  · unfold maxLen; omega
  · omega
theorem take_pc (u : UV) (key : S34) (l : List S34) (hu : ∀ x ∈ u.s, TinyN x.f0) (hl : u.s.length + l.length ≤ 29000) (hS : ∀ x ∈ l, TinyN x) (hk : TinyN key) (v : UV) (r : Int) (hv : changeU u 1 l.length 4 (l ++ [key]) = (v, r)) :
    PC 21 [evU u, evN key, .sl 0 2 (l.map evN)] (.tu [evU v, .s (.int .i64 r)]) := by
  have wC := change_pc u 1 l.length 4 (l ++ [key]) hu (by rw [List.length_append]; show _ + (_ + 1) ≤ _; omega) (fun x hx => (List.mem_append.1 hx).elim (hS x) (fun h => by rw [List.mem_singleton.1 h]; exact hk)) (by omega) (by decide) v r hv
  rw [List.map_append, show ((l.length : Int)) = (((l.map evN).length : Nat) : Int) by rw [List.length_map]] at wC
  refine pc_of tt_ok tt_follows Tryz.func21 rfl (by kernel_rfl) (by kernel_rfl) (Nat.le_of_ble_eq_true rfl) rfl ?_
  conv => whnf
  refine ⟨_, cloneN_pc l (by omega), ?_⟩
  conv => whnf
  refine ⟨appN_len (by omega) key, ?_⟩
  conv => whnf
  refine ⟨rfl, ?_⟩
  conv => whnf
  refine ⟨_, wC, ?_⟩
  conv => whnf
  refine ⟨by kernel_rfl, ?_⟩
  conv => whnf
  exact ⟨rfl, rfl, trivial⟩
theorem give_pc (u : UV) (key : S34) (l : List S34) (hu : ∀ x ∈ u.s, TinyN x.f0) (hl : u.s.length + l.length ≤ 29000) (hS : ∀ x ∈ l, TinyN x) (hk : TinyN key) (v : UV) (r : Int) (hv : changeU u (-1) (-l.length) 2 (l ++ [key]) = (v, r)) :
    PC 27 [evU u, evN key, .sl 0 2 (l.map evN)] (.tu [evU v, .s (.int .i64 r)]) := by
  have wC := change_pc u (-1) (-l.length) 2 (l ++ [key]) hu (by rw [List.length_append]; show _ + (_ + 1) ≤ _; omega) (fun x hx => (List.mem_append.1 hx).elim (hS x) (fun h => by rw [List.mem_singleton.1 h]; exact hk)) (by omega) (by decide) v r hv
  rw [List.map_append, show (-(l.length : Int)) = IntKind.wrap .i64 (0 - (((l.map evN).length : Nat) : Int)) by rw [List.length_map, wrapI (by omega)]; omega] at wC
  refine pc_of tt_ok tt_follows Tryz.func27 rfl (by kernel_rfl) (by kernel_rfl) (Nat.le_of_ble_eq_true rfl) rfl ?_
  conv => whnf
  refine ⟨_, cloneN_pc l (by omega), ?_⟩
  conv => whnf
  refine ⟨appN_len (by omega) key, ?_⟩
  conv => whnf
  refine ⟨rfl, ?_⟩
  conv => whnf
  refine ⟨_, wC, ?_⟩
  conv => whnf
  refine ⟨by kernel_rfl, ?_⟩
  conv => whnf
  exact ⟨rfl, rfl, trivial⟩
theorem root_pc (u : UV) (key : S34) (on : Bool) (hu : ∀ x ∈ u.s, TinyN x.f0) (hl : u.s.length ≤ 29000) (hk : TinyN key) (v : UV) (r : Int) (hv : changeU u 0 (if on = true then 1 else -1) (if on = true then 4 else 2) [key] = (v, r)) :
    PC 15 [evU u, evN key, .s (.bool on)] (.tu [evU v, .s (.int .i64 r)]) := by
  have one : ∀ x ∈ [key], TinyN x := fun x hx => by rw [List.mem_singleton.1 hx]; exact hk
  refine pc_of tt_ok tt_follows Tryz.func15 rfl (by kernel_rfl) (by kernel_rfl) (Nat.le_of_ble_eq_true rfl) rfl ?_
  conv => whnf
  constructor
  · intro h
    rw [if_pos h, if_pos h] at hv
    conv => whnf
    refine ⟨_, change_pc u 0 1 4 [key] hu (by show _ + 1 ≤ _; omega) one (by omega) (by decide) v r hv, ?_⟩
    conv => whnf
    exact ⟨rfl, rfl, trivial⟩
  · intro h
    rw [if_neg (by rw [h]; decide), if_neg (by rw [h]; decide)] at hv
    conv => whnf
    refine ⟨_, change_pc u 0 (-1) 2 [key] hu (by show _ + 1 ≤ _; omega) one (by omega) (by decide) v r hv, ?_⟩
    conv => whnf
    exact ⟨rfl, rfl, trivial⟩
def eqU (a b : UV) : Bool := a.m == b.m && (a.e == b.e && eqL a.s b.s)
theorem eqU_iff {a b : UV} : eqU a b = true ↔ a = b := by
  unfold eqU
  rw [Bool.and_eq_true, Bool.and_eq_true, beq_iff_eq, beq_iff_eq, eqL_iff]
  cases a; cases b
  simp
theorem same14_pc (a b : UV) (hl : a.s.length ≤ 4294967296) : PC 28 [evU a, evU b] (.s (.bool (eqU a b))) := by
  unfold eqU
  refine pc_of tt_ok tt_follows Tryz.func28 rfl (by kernel_rfl) (by kernel_rfl) (Nat.le_of_ble_eq_true rfl) rfl ?_
  conv => whnf
  constructor
  · intro h
    conv => whnf
    constructor
    · intro h2
      conv => whnf
      refine ⟨_, equalE_pc a.s b.s hl, ?_⟩
      conv => whnf
      rw [show (a.m == b.m) = true from h, show (a.e == b.e) = true from h2] <;> rfl
    · intro h2
      conv => whnf
      rw [show (a.m == b.m) = true from h, show (a.e == b.e) = false from h2] <;> rfl
  · intro h
    conv => whnf
    rw [show (a.m == b.m) = false from h] <;> rfl
def nW (c : UInt8) : S34 := ⟨⟨#[c]⟩, ⟨#[118, 49, 46, 48, 46, 48]⟩⟩
theorem nW_tiny (c : UInt8) : TinyN (nW c) := Brief.tiny ⟨show (1 : Nat) ≤ 400 by decide, show (6 : Nat) ≤ 400 by decide⟩
theorem pairsE' {a b : List S48} (h : a.map (fun e => (e.f0, e.f1)) = b.map (fun e => (e.f0, e.f1))) : a = b :=
  (List.map_inj_right (fun x y h => by cases x; cases y; simp only [Prod.mk.injEq] at h; rw [h.1, h.2])).1 h
def uW : UV := ⟨1, 2, [⟨nW 97, 1⟩, ⟨nW 98, 2⟩]⟩
theorem aw_take : changeU noneU 1 2 4 [nW 98, nW 98, nW 97] = (uW, 0) := by
  unfold changeU
  rw [if_pos (by decide +kernel)]
  have : addU noneU 1 2 (diffV [] [nW 98, nW 98, nW 97]) = uW := by
    unfold addU uW noneU
    rw [show bothV [] (diffV [] [nW 98, nW 98, nW 97]) = [⟨nW 97, 1⟩, ⟨nW 98, 2⟩] from pairsE' (by decide +kernel)]
    rfl
  show (let v := addU noneU 1 2 (diffV [] [nW 98, nW 98, nW 97]); _) = _
  rw [this]
  show (if okU uW = true then (uW, (0 : Int)) else (noneU, 4)) = _
  rw [if_pos (by decide +kernel)]
theorem aw_give : changeU noneU (-1) 0 2 [nW 97] = (noneU, 2) := by
  unfold changeU
  rw [if_pos (by decide +kernel)]
  show (if okU (addU noneU (-1) 0 _) = true then _ else (noneU, (2 : Int))) = _
  rw [if_neg]
  intro h
  have := ((okU_iff _).1 h).1.1
  exact absurd this (by decide)
theorem nil_tiny : ∀ x ∈ ([] : List S48), TinyN x.f0 := fun x h => by cases h
theorem awake14_pc : PC 13 [] (.s (.bool true)) := by
  refine pc_of tt_ok tt_follows Tryz.func13 rfl (by kernel_rfl) (by kernel_rfl) (Nat.le_of_ble_eq_true rfl) rfl ?_
  conv => whnf
  refine ⟨_, pc_le (take_pc noneU (nW 97) [nW 98, nW 98] nil_tiny (by decide) (fun x hx => by simp only [List.mem_cons, List.not_mem_nil, or_false] at hx; rcases hx with rfl | rfl <;> exact nW_tiny _) (nW_tiny _) uW 0 aw_take) ⟨⟨rfl, rfl, ⟨rfl, Or.inr rfl, Or.inl rfl⟩, trivial⟩, ⟨rfl, rfl, trivial⟩, ⟨rfl, Or.inl rfl, Or.inl rfl⟩, trivial⟩, ?_⟩
  conv => whnf
  refine ⟨_, pc_le (give_pc noneU (nW 97) [] nil_tiny (by decide) (fun x hx => by cases hx) (nW_tiny _) noneU 2 aw_give) ⟨⟨rfl, rfl, ⟨rfl, Or.inr rfl, Or.inl rfl⟩, trivial⟩, ⟨rfl, rfl, trivial⟩, ⟨rfl, Or.inr rfl, Or.inl rfl⟩, trivial⟩, ?_⟩
  conv => whnf
  refine ⟨fun _ => ?_, fun h => by cases h⟩
  conv => whnf
  refine ⟨fun _ => ?_, fun h => by cases h⟩
  conv => whnf
  refine ⟨fun _ => ?_, fun h => by cases h⟩
  conv => whnf
  refine ⟨fun _ => ?_, fun h => by cases h⟩
  conv => whnf
  have wF := fits_pc uW 0 0 0 0 (by decide) (fun x hx => by
    have : x ∈ [(⟨nW 97, 1⟩ : S48), ⟨nW 98, 2⟩] := hx
    simp only [List.mem_cons, List.not_mem_nil, or_false] at this; rcases this with rfl | rfl <;> exact nW_tiny _)
  rw [if_pos (by decide +kernel), show fitsU 0 0 0 uW = 8 from rfl] at wF
  refine ⟨_, wF, ?_⟩
  conv => whnf
  refine ⟨fun _ => ?_, fun h => by cases h⟩
  conv => whnf
  rfl
theorem diffV_brief (l m : List S34) (bl : ∀ x ∈ l, Brief x) (bm : ∀ x ∈ m, Brief x) : ∀ x ∈ diffV l m, Brief x.f0 := fun x hx => by
  unfold diffV editsF at hx
  obtain ⟨n, hn, rfl⟩ := List.mem_map.1 hx
  rcases (keys_diff l m n).1 ((sortN_perm _).mem_iff.1 (List.mem_filter.1 hn).1) with h | h
  · exact bl n h
  · exact bm n h
def BGood (n : Nat) (l : List S34) : Prop := l.length ≤ n ∧ ∀ x ∈ l, Brief x ∧ mayN x = true
theorem BGood.good {n : Nat} {l : List S34} (h : BGood n l) (hn : n ≤ 1000) : GoodL l := ⟨by have := h.1; omega, fun x hx => ⟨(h.2 x hx).1.tiny, (h.2 x hx).2⟩⟩
end Go.Proofs.YtohdmmafjpjmfaaGreatDoor.Q
end
