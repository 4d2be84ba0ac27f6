/- Part 13 of this claim: several texts one behind the other: Fgraftwoodref13Diff, RLess5, RMay5, R13May, RWith5, RSet5, R13Both, R13Diff, EvB14, EvR13. What each shows stands in its theorems; conditions: sizes of texts and lists, as the functions' definitions say. -/
import Derived.Test.YtohdmmafjpjmfaaGreatDoorMRoomTakes2
import Derived.Test.YtohdmmafjpjmfaaGreatDoorMRoomTakes12
import Derived.Test.YtohdmmafjpjmfaaGreatDoorMRoomTakes5
import Derived.Test.YtohdmmafjpjmfaaGreatDoorMRoomTakes3
import Derived.Test.YtohdmmafjpjmfaaGreatDoorMRoomTakes4
import Derived.Test.YtohdmmafjpjmfaaGreatDoorMRoomTakes11
import Derived.Test.YtohdmmafjpjmfaaGreatDoorMRoomTakes9
import Derived.Test.YtohdmmafjpjmfaaGreatDoorMRoomTakes6
import Derived.Test.YtohdmmafjpjmfaaGreatDoorMRoomTakes10
section
namespace Go.Proofs.YtohdmmafjpjmfaaGreatDoor.Q
open Go.RowKit Go.Proofs.YtohdmmafjpjmfaaGreatDoorW.PrintWords Go.Proofs.YtohdmmafjpjmfaaGreatDoorW.PrintLast Go.Proofs.YtohdmmafjpjmfaaGreatDoorW.PrintMore
attribute [local go_sem] max2_int min2_int max_two min_two max_three min_three max_four min_four   -- for this text's walks alone
set_option linter.unusedVariables false
set_option linter.unusedSimpArgs false
attribute [local go_sem high] eqA34
end Go.Proofs.YtohdmmafjpjmfaaGreatDoor.Q
end
section
namespace Go.Proofs.YtohdmmafjpjmfaaGreatDoor.Q
open Go.Proofs.YtohdmmafjpjmfaaGreatDoor.QB.D
open Go Go.RowKit Go.Lib Go.Proofs.YtohdmmafjpjmfaaGreatDoorW.PrintWords Go.Proofs.YtohdmmafjpjmfaaGreatDoorW.PrintLast Go.Proofs.YtohdmmafjpjmfaaGreatDoorW.PrintMore Gw
set_option linter.unusedVariables false
set_option linter.unusedSimpArgs false
theorem less_val (k : Nat) (x y : S34) (hx : Brief x) (hy : Brief y) (gx : GoodN x) (gy : GoodN y) (hk : 900 ≤ k) : graftwoodref05_Less.f k x.f0 x.f1 y.f0 y.f1 = some (decide (ordN x y < 0)) := by
  have h0 : Small x.f0 := by have := hx.1; unfold Small; omega
  have h1 : Small y.f0 := by have := hy.1; unfold Small; omega
  unfold graftwoodref05_Less.f
  rw [rcmp1_val _ _ h0 h1 k (by have := hx.1; omega)]
  have hc : graftwoodref03_Cmp.f x.f1 y.f1 = some (verC (vOf (bs x.f1)) (vOf (bs y.f1))) := by
    unfold graftwoodref03_Cmp.f
    rw [if_pos ⟨⟨gx.2.1, gy.2.1⟩, gx.2.2, gy.2.2⟩]
  rw [hc]
  simp only [Option.bind_some]
  have ho : ordN x y = orI (lexC (bs x.f0) (bs y.f0)) (verC (vOf (bs x.f1)) (vOf (bs y.f1))) := rfl
  rw [ho]
  unfold orI
  by_cases c1 : lexC (bs x.f0) (bs y.f0) < 0
  · rw [if_pos c1, if_neg (by omega), decide_eq_true c1]
  · rw [if_neg c1]
    by_cases c2 : lexC (bs x.f0) (bs y.f0) = 0
    · rw [if_pos c2, if_pos c2]
    · rw [if_neg c2, if_neg c2, decide_eq_false c1]
theorem ref5May_val (k : Nat) (x : S34) (hx : Brief x) (hk : 900 ≤ k) : graftwoodref05_May.f k x.f0 x.f1 = some (mayN x) := by
  have h0 : Small x.f0 := by have := hx.1; unfold Small; omega
  have h1 : Small x.f1 := by have := hx.2; unfold Small; omega
  unfold graftwoodref05_May.f
  rw [ref4May_tot _ h0 k (by have := hx.1; omega)]
  unfold graftwoodref03_May.f graftwoodref03_Split.f
  rw [if_pos h1]
  simp only [Option.bind_some]
  rw [splitV_ok]
  show _ = some (isPath (bs x.f0) && isVersion (bs x.f1))
  cases isPath (bs x.f0) <;> rfl
def okAt (l : List S48) (i : Nat) (h : i < l.length) : Prop := edE l[i] = true ∧ (∀ m, i = m + 1 → (hm : m < l.length) → ordN l[m].f0 l[i].f0 < 0)
theorem chkE_iff : ∀ (l : List S48) (p : Option S48), chkE p l = true ↔ (∀ i (h : i < l.length), okAt l i h) ∧ (∀ q, p = some q → ∀ h : 0 < l.length, ordN q.f0 l[0].f0 < 0)
  | [], p => by
    constructor
    · intro _; exact ⟨fun i h => by simp at h, fun q _ h => by simp at h⟩
    · intro _; cases p <;> rfl
  | x :: r, p => by
    have ih := chkE_iff r (some x)
    have key : ((∀ i (h : i < r.length), okAt r i h) ∧ (∀ q, some x = some q → ∀ h : 0 < r.length, ordN q.f0 r[0].f0 < 0) ∧ edE x = true) ↔ (∀ i (h : i < (x :: r).length), okAt (x :: r) i h) := by
      constructor
      · rintro ⟨h1, h2, h3⟩ i h
        cases i with
        | zero => exact ⟨h3, fun m e _ => by omega⟩
        | succ i =>
          have hi : i < r.length := by simpa using h
          refine ⟨(h1 i hi).1, fun m e hm => ?_⟩
          obtain rfl : m = i := by omega
          cases m with
          | zero => exact h2 x rfl hi
          | succ m => exact (h1 (m + 1) hi).2 m rfl (by omega)
      · intro h
        refine ⟨fun i hi => ⟨(h (i + 1) (by simpa using hi)).1, fun m e hm => ?_⟩, fun q e hr => ?_, (h 0 (by simp)).1⟩
        · have := (h (i + 1) (by simpa using hi)).2 (m + 1) (by omega) (by simpa using hm)
          simpa using this
        · injection e with e
          subst e
          have := (h 1 (by simpa using hr)).2 0 rfl (by simp)
          simpa using this
    rw [← key]
    cases p with
    | none =>
      simp only [chkE, Bool.and_eq_true, ih]
      constructor
      · rintro ⟨h1, h2, h3⟩; exact ⟨⟨h2, h3, h1⟩, fun q e => by cases e⟩
      · rintro ⟨⟨h1, h2, h3⟩, _⟩; exact ⟨h3, h1, h2⟩
    | some q =>
      simp only [chkE, Bool.and_eq_true, ih, decide_eq_true_eq]
      constructor
      · rintro ⟨h1, h0, h2, h3⟩; exact ⟨⟨h2, h3, h1⟩, fun q' e _ => by injection e with e; rw [← e]; exact h0⟩
      · rintro ⟨⟨h1, h2, h3⟩, h4⟩; exact ⟨h3, h4 q rfl (by simp), h1, h2⟩
theorem checkE_iff (l : List S48) : checkE l = true ↔ ∀ i (h : i < l.length), okAt l i h := by
  unfold checkE
  rw [chkE_iff]
  exact ⟨fun h => h.1, fun h => ⟨h, fun q e => by cases e⟩⟩
theorem rwith_l1 (l : List S34) (t : S34) (hl : l.length ≤ 2147483648) (hb : ∀ x ∈ l, Brief x) (hg : ∀ x ∈ l, GoodN x) (bt : Brief t) (gt : GoodN t) : ∀ (n i k : Nat) (acc : List S34), l.length ≤ i + n → i ≤ l.length → n + 1000 ≤ k → acc.length ≤ 4294967296 + i →
    graftwoodref05_With.l1 k l acc (i : Int) t.f0 t.f1 = some (acc ++ (l.drop i).filter (fun x => decide (ordN t x < 0))) := by
  intro n
  induction n with
  | zero =>
    intro i k acc h1 h2 hk ha
    obtain ⟨j, rfl⟩ : ∃ j, k = j + 1 := ⟨k - 1, by omega⟩
    simp only [graftwoodref05_With.l1]
    rw [if_neg (by omega), List.drop_of_length_le (by omega)]
    simp
  | succ n ih =>
    intro i k acc h1 h2 hk ha
    obtain ⟨j, rfl⟩ : ∃ j, k = j + 1 := ⟨k - 1, by omega⟩
    by_cases hi : i < l.length
    · have hm := List.getElem_mem hi
      have hwr : wrap64 ((i : Int) + 1) = ((i + 1 : Nat) : Int) := by unfold wrap64; omega
      simp only [graftwoodref05_With.l1]
      rw [if_pos (by omega), if_pos (by omega), rd_nat hi, less_val j t l[i] bt (hb _ hm) gt (hg _ hm) (by omega), List.drop_eq_getElem_cons hi, hwr]
      simp only [Option.bind_some]
      by_cases ho : ordN t l[i] < 0
      · rw [decide_eq_true ho, if_pos rfl, if_pos (by omega), List.filter_cons_of_pos (by simp [ho]), ih (i + 1) j _ (by omega) (by omega) (by omega) (by simp; omega)]
        simp
      · rw [decide_eq_false ho, if_neg (by decide), List.filter_cons_of_neg (by simp [ho]), ih (i + 1) j _ (by omega) (by omega) (by omega) (by omega)]
    · exact ih i (j + 1) acc (by omega) h2 (by omega) ha
theorem rwith_l0 (l : List S34) (t : S34) (hl : l.length ≤ 2147483648) (hb : ∀ x ∈ l, Brief x) (hg : ∀ x ∈ l, GoodN x) (bt : Brief t) (gt : GoodN t) : ∀ (n i k : Nat) (acc : List S34), l.length ≤ i + n → i ≤ l.length → n + l.length + 1001 ≤ k → acc.length ≤ i →
    graftwoodref05_With.l0 k l acc (i : Int) t.f0 t.f1 = some (acc ++ (l.drop i).filter (fun x => decide (ordN x t < 0)) ++ [t] ++ l.filter (fun x => decide (ordN t x < 0))) := by
  intro n
  induction n with
  | zero =>
    intro i k acc h1 h2 hk ha
    obtain ⟨j, rfl⟩ : ∃ j, k = j + 1 := ⟨k - 1, by omega⟩
    have h9 := rwith_l1 l t hl hb hg bt gt l.length 0 j (acc ++ [t]) (by omega) (Nat.zero_le _) (by omega) (by simp; omega)
    simp only [graftwoodref05_With.l0]
    rw [if_neg (by omega), if_pos (by omega), List.drop_of_length_le (by omega)]
    refine h9.trans ?_
    simp
  | succ n ih =>
    intro i k acc h1 h2 hk ha
    obtain ⟨j, rfl⟩ : ∃ j, k = j + 1 := ⟨k - 1, by omega⟩
    by_cases hi : i < l.length
    · have hm := List.getElem_mem hi
      have hwr : wrap64 ((i : Int) + 1) = ((i + 1 : Nat) : Int) := by unfold wrap64; omega
      simp only [graftwoodref05_With.l0]
      rw [if_pos (by omega), if_pos (by omega), rd_nat hi, less_val j l[i] t (hb _ hm) bt (hg _ hm) gt (by omega), List.drop_eq_getElem_cons hi, hwr]
      simp only [Option.bind_some]
      by_cases ho : ordN l[i] t < 0
      · rw [decide_eq_true ho, if_pos rfl, if_pos (by omega), List.filter_cons_of_pos (by simp [ho]), ih (i + 1) j _ (by omega) (by omega) (by omega) (by simp; omega)]
        simp
      · rw [decide_eq_false ho, if_neg (by decide), List.filter_cons_of_neg (by simp [ho]), ih (i + 1) j _ (by omega) (by omega) (by omega) (by omega)]
    · exact ih i (j + 1) acc (by omega) h2 (by omega) ha
theorem rwith_val (l : List S34) (t : S34) (hl : l.length ≤ 2147483648) (hb : ∀ x ∈ l, Brief x) (hg : ∀ x ∈ l, GoodN x) (bt : Brief t) (gt : GoodN t) (k : Nat) (hk : 2 * l.length + 1001 ≤ k) :
    graftwoodref05_With.f k l t.f0 t.f1 = some (rwithN l t) := by
  have h := rwith_l0 l t hl hb hg bt gt l.length 0 k [] (by omega) (Nat.zero_le _) (by omega) (Nat.le_refl _)
  rw [List.drop_zero] at h
  exact h
theorem filter_two {α : Type} (p q : α → Bool) : ∀ (l : List α), (∀ x ∈ l, ¬ (p x = true ∧ q x = true)) → (l.filter p).length + (l.filter q).length ≤ l.length
  | [], _ => by simp
  | x :: r, h => by
    have ih := filter_two p q r (fun y hy => h y (List.mem_cons_of_mem _ hy))
    have hx := h x List.mem_cons_self
    simp only [List.filter_cons, List.length_cons]
    cases hp : p x <;> cases hq : q x <;> simp_all <;> omega
theorem rwithN_len {l : List S34} {t : S34} (hg : ∀ x ∈ l, GoodN x) (gt : GoodN t) : (rwithN l t).length ≤ l.length + 1 := by
  have h := filter_two (fun x => decide (ordN x t < 0)) (fun x => decide (ordN t x < 0)) l (fun x hx h => by
    have h1 : ordN x t < 0 := of_decide_eq_true h.1
    have h2 : ordN t x < 0 := of_decide_eq_true h.2
    have := ordN_to.sym x t (hg x hx) gt
    omega)
  unfold rwithN
  simp only [List.length_append, List.length_cons, List.length_nil]
  omega
theorem rset_l0 (l : List S34) (hl : l.length ≤ 2147483648) (hb : ∀ x ∈ l, Brief x) (hm : ∀ x ∈ l, mayN x = true) : ∀ (n i k : Nat) (acc : List S34), l.length ≤ i + n → i ≤ l.length → n + 2 * l.length + 1002 ≤ k → acc.length ≤ i → (∀ x ∈ acc, Brief x ∧ GoodN x) →
    graftwoodref05_Set.l0 k l acc (i : Int) = some ((l.drop i).foldl rwithN acc) := by
  intro n
  induction n with
  | zero =>
    intro i k acc h1 h2 hk ha hx
    obtain ⟨j, rfl⟩ : ∃ j, k = j + 1 := ⟨k - 1, by omega⟩
    simp only [graftwoodref05_Set.l0]
    rw [if_neg (by omega), List.drop_of_length_le (by omega)]
    rfl
  | succ n ih =>
    intro i k acc h1 h2 hk ha hx
    obtain ⟨j, rfl⟩ : ∃ j, k = j + 1 := ⟨k - 1, by omega⟩
    by_cases hi : i < l.length
    · have hmm := List.getElem_mem hi
      have bt := hb _ hmm
      have gt := mayN_good bt.tiny (hm _ hmm)
      have hwr : wrap64 ((i : Int) + 1) = ((i + 1 : Nat) : Int) := by unfold wrap64; omega
      have hlen := rwithN_len (fun x h => (hx x h).2) gt
      simp only [graftwoodref05_Set.l0]
      rw [if_pos (by omega), if_pos (by omega), rd_nat hi, rwith_val acc l[i] (by omega) (fun x h => (hx x h).1) (fun x h => (hx x h).2) bt gt j (by omega), List.drop_eq_getElem_cons hi, hwr]
      simp only [Option.bind_some]
      rw [ih (i + 1) j _ (by omega) (by omega) (by omega) (by omega) (fun x h => by
        rcases (mem_rwithN (fun x h => (hx x h).2) gt x).1 h with e | e
        · exact hx x e
        · subst e; exact ⟨bt, gt⟩)]
      rfl
    · exact ih i (j + 1) acc (by omega) h2 (by omega) ha hx
theorem rset_val (l : List S34) (hl : l.length ≤ 2147483648) (hb : ∀ x ∈ l, Brief x) (hm : ∀ x ∈ l, mayN x = true) (k : Nat) (hk : 3 * l.length + 1002 ≤ k) : graftwoodref05_Set.f k l = some (rsetN l) := by
  have h := rset_l0 l hl hb hm l.length 0 k [] (by omega) (Nat.zero_le _) (by omega) (Nat.le_refl _) (fun x h => by cases h)
  rw [List.drop_zero] at h
  exact h
theorem byE_far {l : List S48} (h : InE l) (x : S34) : -1099511627776 * (l.length : Int) ≤ byE l x ∧ byE l x ≤ 1099511627776 * (l.length : Int) := by
  induction l with
  | nil => simp [byE]
  | cons y r ih =>
    have h1 := h y (.head _)
    have h2 := ih (fun z hz => h z (.tail _ hz))
    rw [byE_cons, List.length_cons]
    split <;> omega
theorem diff13_set (l m : List S34) (hl : l.length ≤ 32768) (hm : m.length ≤ 32768) (tl : ∀ x ∈ l, TinyN x ∧ mayN x = true) (tm : ∀ x ∈ m, TinyN x ∧ mayN x = true) : sortN ((diffC l m).map (·.1)) = rsetN (l ++ m) := by
  have hok := diffC_ok l m hl hm tl tm
  have hlm : ∀ x ∈ l ++ m, TinyN x ∧ mayN x = true := fun x hx => by
    rcases List.mem_append.1 hx with h | h
    · exact tl x h
    · exact tm x h
  have hr := rsetN_facts (l ++ m) (fun x hx => (hlm x hx).1) (fun x hx => (hlm x hx).2) [] IsSet.nil
  refine IsSet.ext (sorted_is hok.nodup (fun x hx => by obtain ⟨p, hp, rfl⟩ := List.mem_map.1 hx; exact hok.may p hp)) hr.1 (fun x => ?_)
  rw [(sortN_perm _).mem_iff, keys_diff, ← List.mem_append]
  unfold rsetN
  rw [hr.2]
  simp
end Go.Proofs.YtohdmmafjpjmfaaGreatDoor.Q
end
section
namespace Go.Proofs.YtohdmmafjpjmfaaGreatDoor.Q
open Go.Proofs.YtohdmmafjpjmfaaGreatDoor.QB.D
open Go Go.RowKit Go.Lib Go.Proofs.YtohdmmafjpjmfaaGreatDoorW.PrintWords Go.Ev
set_option linter.unusedVariables false
section
variable {F : Nat → Nat → Prop} {w : World} {f : FuncId} {fn : Func}
theorem pc_ag1 (hf : Tryz.prog.funcs[f]? = some fn) (hn : (fn.name == "runtime.NumGoroutine") = false) (hb : fn.body.isSome = true) (x : S34) (v : Value) (h : ∀ w, Calls Tryz.prog f #[.agg #[.string x.f0, .string x.f1]] w fun e w' => e = .returned v ∧ Below w.heap.size w w') : PC f [evN x] (.s v) :=
  ⟨⟨fn, hf, hn, hb⟩, fun w F vs hv => by
    match vs, hv with
    | [u], hv =>
      rw [evN_eq hv.1]
      exact (h w).mono fun e w' ⟨he, hb⟩ => ⟨v, he, hb, res_s v⟩
    | [], hv => exact hv.elim
    | _ :: _ :: _, hv => exact hv.2.elim⟩
theorem pc_ag2 (hf : Tryz.prog.funcs[f]? = some fn) (hn : (fn.name == "runtime.NumGoroutine") = false) (hb : fn.body.isSome = true) (x y : S34) (v : Value) (h : ∀ w, Calls Tryz.prog f #[.agg #[.string x.f0, .string x.f1], .agg #[.string y.f0, .string y.f1]] w fun e w' => e = .returned v ∧ Below w.heap.size w w') : PC f [evN x, evN y] (.s v) :=
  ⟨⟨fn, hf, hn, hb⟩, fun w F vs hv => by
    match vs, hv with
    | [u, u'], hv =>
      rw [evN_eq hv.1, evN_eq hv.2.1]
      exact (h w).mono fun e w' ⟨he, hb⟩ => ⟨v, he, hb, res_s v⟩
    | [], hv => exact hv.elim
    | [_], hv => exact hv.2.elim
    | _ :: _ :: _ :: _, hv => exact hv.2.2.elim⟩
theorem pc_row {α : Type} {d : Kd α} {raw : α → List Value} {enc : α → PV} (hfl : Flat d raw enc) (hf : Tryz.prog.funcs[f]? = some fn) (hn : (fn.name == "runtime.NumGoroutine") = false) (hb : fn.body.isSome = true) {z : Nat} (hz : z = d.sz) (l : List α) (hl : l.length ≤ 9223372036854775807) (r : PV)
    (h : ∀ w A c, d.C w A l.length l → l.length ≤ c → Calls Tryz.prog f #[.slice A l.length c] w fun e w' => ∃ v, e = .returned v ∧ Below w.heap.size w w' ∧ ∀ F, Res F w.heap.size w' r v) : PC f [.sl 0 z (l.map enc)] r :=
  ⟨⟨fn, hf, hn, hb⟩, fun w F vs hv => by
    match vs, hv with
    | [u], hv =>
      obtain ⟨A, c, rfl, hc, hC⟩ := hfl.toC hv.1 hz hl
      exact (h w A c hC hc).mono fun e w' ⟨v, he, hb, hr⟩ => ⟨v, he, hb, hr F⟩
    | [], hv => exact hv.elim
    | _ :: _ :: _, hv => exact hv.2.elim⟩
theorem pc_row2 {α β : Type} {d : Kd α} {raw : α → List Value} {enc : α → PV} {d' : Kd β} {raw' : β → List Value} {enc' : β → PV} (hfl : Flat d raw enc) (hfl' : Flat d' raw' enc') (hf : Tryz.prog.funcs[f]? = some fn) (hn : (fn.name == "runtime.NumGoroutine") = false) (hb : fn.body.isSome = true) {z z' : Nat} (hz : z = d.sz) (hz' : z' = d'.sz) (l : List α) (m : List β) (hl : l.length ≤ 9223372036854775807) (hm : m.length ≤ 9223372036854775807) (r : PV)
    (h : ∀ w A c A' c', d.C w A l.length l → l.length ≤ c → d'.C w A' m.length m → m.length ≤ c' → Calls Tryz.prog f #[.slice A l.length c, .slice A' m.length c'] w fun e w' => ∃ v, e = .returned v ∧ Below w.heap.size w w' ∧ ∀ F, Res F w.heap.size w' r v) : PC f [.sl 0 z (l.map enc), .sl 0 z' (m.map enc')] r :=
  ⟨⟨fn, hf, hn, hb⟩, fun w F vs hv => by
    match vs, hv with
    | [u, u'], hv =>
      obtain ⟨A, c, rfl, hc, hC⟩ := hfl.toC hv.1 hz hl
      obtain ⟨A', c', rfl, hc', hC'⟩ := hfl'.toC hv.2.1 hz' hm
      exact (h w A c A' c' hC hc hC' hc').mono fun e w' ⟨v, he, hb, hr⟩ => ⟨v, he, hb, hr F⟩
    | [], hv => exact hv.elim
    | [_], hv => exact hv.2.elim
    | _ :: _ :: _ :: _, hv => exact hv.2.2.elim⟩
end
theorem ref5May_pc (x : S34) (hx : Brief x) : PC 19 [evN x] (.s (.bool (mayN x))) :=
  pc_ag1 Tryz.func19 (by kernel_rfl) rfl x _ fun w => graftwoodref05_May.calls 900 _ _ _ w (ref5May_val _ x hx (Nat.le_refl _))
theorem less5_pc (x y : S34) (hx : Brief x) (hy : Brief y) (mx : mayN x = true) (my : mayN y = true) : PC 53 [evN x, evN y] (.s (.bool (decide (ordN x y < 0)))) :=
  pc_ag2 Tryz.func53 (by kernel_rfl) rfl x y _ fun w => graftwoodref05_Less.calls 900 _ _ _ _ _ w (less_val _ x y hx hy (mayN_good hx.tiny mx) (mayN_good hy.tiny my) (Nat.le_refl _))
theorem count13_pc (G : List S34) (hl : G.length ≤ 30000) (ht : ∀ x ∈ G, TinyN x) (x : List S48) (i : Int) (hx : (if G.all mayN = true then (diffV [] G, (0 : Int)) else ([], 1)) = (x, i)) : PC 47 [.sl 0 2 (G.map evN)] (.tu [.sl 5 3 (x.map evE), .s (.int .i64 i)]) :=
  pc_row flatN Tryz.func47 (by kernel_rfl) rfl rfl G (by omega) _ fun w A c hC hc =>
    (diff_Count.calls A c G _ _ w hC hc (by
      unfold diff_Count.f diff_Diff.f
      rw [if_pos ⟨by simp, by omega, (fun x h => by cases h), ht⟩, ← hx]
      simp)).mono fun e w' ⟨v, he, hr, hb⟩ => ⟨_, he, hb, fun F => (flatE.res hr).pair (fun ps e => by cases e)⟩
theorem check13_pc (l : List S48) (hl : l.length ≤ 4294967296) (ht : ∀ x ∈ l, TinyN x.f0) : PC 32 [.sl 0 3 (l.map evE)] (.s (.int .i64 (okV (checkE l)))) := by
  obtain ⟨K, hK⟩ : ∃ K, l.length + 4294967320 ≤ K := ⟨_, Nat.le_refl _⟩
  exact pc_row flatE Tryz.func32 (by kernel_rfl) rfl rfl l (by omega) _ fun w A c hC hc =>
    (diff_Check.calls K A c l _ w hC hc (checkE_val l hl ht K hK)).mono fun e w' ⟨he, hb⟩ => ⟨_, he, hb, fun F => res_s _⟩
theorem both13_pc (l m : List S48) (hl : Oke l) (hm : Oke m) (x : List S48) (i : Int) (hx : (if checkE (bothV l m) = true then (bothV l m, (0 : Int)) else ([], 4)) = (x, i)) : PC 52 [.sl 0 3 (l.map evE), .sl 0 3 (m.map evE)] (.tu [.sl 5 3 (x.map evE), .s (.int .i64 i)]) :=
  pc_row2 flatE flatE Tryz.func52 (by kernel_rfl) rfl rfl rfl l m (by have := hl.len; omega) (by have := hm.len; omega) _ fun w A c A' c' hC hc hC' hc' =>
    (diff_Both.calls A c l A' c' m x i w hC hc hC' hc' (by
      unfold diff_Both.f
      rw [if_pos ⟨hl.len, hm.len, fun x h => (hl.tiny x h).1, fun x h => (hm.tiny x h).1⟩, if_pos ⟨hl.check, hm.check⟩, hx])).mono fun e w' ⟨v, he, hr, hb⟩ => ⟨_, he, hb, fun F => (flatE.res hr).pair (fun ps e => by cases e)⟩
theorem turn13_pc (l : List S48) (hl : Oke l) : PC 51 [.sl 0 3 (l.map evE)] (.tu [.sl 5 3 ((l.map turnE).map evE), .s (.int .i64 0)]) :=
  pc_row flatE Tryz.func51 (by kernel_rfl) rfl rfl l (by have := hl.len; omega) _ fun w A c hC hc =>
    (diff_Turn.calls A c l _ _ w hC hc (by
      unfold diff_Turn.f
      rw [if_pos ⟨by have := hl.len; omega, fun x h => (hl.tiny x h).1⟩, if_pos hl.check])).mono fun e w' ⟨v, he, hr, hb⟩ => ⟨_, he, hb, fun F => (flatE.res hr).pair (fun ps e => by cases e)⟩
theorem set5_pc (l : List S34) (hl : l.length ≤ 100000) (hb : ∀ x ∈ l, Brief x) (hm : ∀ x ∈ l, mayN x = true) : PC 57 [.sl 0 2 (l.map evN)] (.sl 4 2 ((rsetN l).map evN)) := by
  obtain ⟨K, hK⟩ : ∃ K, 3 * l.length + 1002 ≤ K := ⟨_, Nat.le_refl _⟩
  exact pc_row flatN Tryz.func57 (by kernel_rfl) rfl rfl l (by omega) _ fun w A c hC hc =>
    (graftwoodref05_Set.calls K A c l _ w hC hc (rset_val l (by omega) hb hm K hK)).mono fun e w' ⟨v, he, hr, hb⟩ => ⟨_, he, hb, fun F => flatN.res hr⟩
end Go.Proofs.YtohdmmafjpjmfaaGreatDoor.Q
end
section
namespace Go.Proofs.YtohdmmafjpjmfaaGreatDoor.Q
open Go.Proofs.YtohdmmafjpjmfaaGreatDoor.QB.D
open Go Go.RowKit Go.Lib Go.Proofs.YtohdmmafjpjmfaaGreatDoorW.PrintWords Go.Ev
set_option linter.unusedVariables false
set_option maxRecDepth 100000
theorem checkE_bad {l : List S48} {i : Nat} (hil : i < l.length) (h : ¬ okAt l i hil) : checkE l = false := by
  rw [Bool.eq_false_iff]
  intro e
  exact h ((checkE_iff l).1 e i hil)
theorem edE_bad {l : List S48} {i : Nat} (hil : i < l.length) (h : ¬ (mayN l[i].f0 = true ∧ l[i].f1 ≠ 0 ∧ l[i].f1 ≤ 1099511627776 ∧ -1099511627776 ≤ l[i].f1)) : checkE l = false :=
  checkE_bad hil (fun e => h ((edE_iff _).1 e.1))
theorem may13_pc (l : List S48) (hl : l.length ≤ 4294967296) (hb : ∀ x ∈ l, Brief x.f0) : PC 36 [.sl 0 3 (l.map evE)] (.s (.bool (checkE l))) := by
  refine pc_of tt_ok tt_follows Tryz.func36 rfl (by kernel_rfl) (by kernel_rfl) (Nat.le_of_ble_eq_true rfl) rfl ?_
  conv => whnf
  refine ⟨Nat, fun i => i ≤ l.length ∧ ∀ j (hj : j < l.length), j < i → okAt l j hj, fun i => [(9, .s (.int .i64 i))], [0], fun i => l.length - i, 0, ⟨Nat.zero_le _, fun j _ h => absurd h (Nat.not_lt_zero _)⟩, ?_, fun i hi => ?_⟩
  · repeat' (first | exact trivial | exact rfl | refine ⟨?_, ?_⟩)
  · obtain ⟨h1, h2⟩ := hi
    conv => whnf
    constructor
    · intro h
      have hil := ltm h
      have bi := hb _ (List.getElem_mem hil)
      conv => whnf
      refine ⟨_, idx_map evE l i hil, ?_⟩
      conv => whnf
      refine ⟨_, ref5May_pc l[i].f0 bi, ?_⟩
      conv => whnf
      constructor
      · intro g0
        have g0 : mayN l[i].f0 = false := by simpa using g0
        conv => whnf
        refine ⟨by kernel_rfl, ?_⟩
        conv => whnf
        rw [edE_bad hil (fun e => by rw [g0] at e; cases e.1)] <;> rfl
      · intro g0
        have g0 : mayN l[i].f0 = true := by simpa using g0
        conv => whnf
        refine ⟨_, idx_map evE l i hil, ?_⟩
        conv => whnf
        constructor
        · intro g1
          have g1 : l[i].f1 = 0 := by simpa using g1
          conv => whnf
          refine ⟨by kernel_rfl, ?_⟩
          conv => whnf
          rw [edE_bad hil (fun e => e.2.1 g1)] <;> rfl
        · intro g1
          have g1 : l[i].f1 ≠ 0 := by simpa using g1
          conv => whnf
          refine ⟨_, idx_map evE l i hil, ?_⟩
          conv => whnf
          constructor
          · intro g2
            have g2 := of_decide_eq_true g2
            conv => whnf
            refine ⟨by kernel_rfl, ?_⟩
            conv => whnf
            rw [edE_bad hil (fun e => absurd e.2.2.1 (by omega))] <;> rfl
          · intro g2
            have g2 := of_decide_eq_false g2
            conv => whnf
            refine ⟨_, idx_map evE l i hil, ?_⟩
            conv => whnf
            constructor
            · intro g3
              have g3 := of_decide_eq_true g3
              conv => whnf
              refine ⟨by kernel_rfl, ?_⟩
              conv => whnf
              rw [edE_bad hil (fun e => absurd e.2.2.2 (by omega))] <;> rfl
            · intro g3
              have g3 := of_decide_eq_false g3
              have hed : edE l[i] = true := (edE_iff _).2 ⟨g0, g1, by omega, by omega⟩
              conv => whnf
              constructor
              · intro g4
                have g4 := of_decide_eq_true g4
                obtain ⟨m, rfl⟩ : ∃ m, i = m + 1 := ⟨i - 1, by omega⟩
                have hml : m < l.length := by omega
                have okm := h2 m hml (by omega)
                conv => whnf
                refine ⟨_, idx_mapI evE l m (by rw [wrapI (by omega)]; omega) hml, ?_⟩
                conv => whnf
                refine ⟨_, idx_map evE l (m + 1) hil, ?_⟩
                conv => whnf
                refine ⟨_, less5_pc l[m].f0 l[m + 1].f0 (hb _ (List.getElem_mem hml)) bi ((edE_iff _).1 okm.1).1 g0, ?_⟩
                conv => whnf
                refine ⟨by kernel_rfl, ?_⟩
                conv => whnf
                constructor
                · intro g5
                  have g5 : ¬ ordN l[m].f0 l[m + 1].f0 < 0 := by simpa using g5
                  conv => whnf
                  rw [checkE_bad hil (fun e => g5 (e.2 m rfl hml))] <;> rfl
                · intro g5
                  have g5 : ordN l[m].f0 l[m + 1].f0 < 0 := by simpa using g5
                  conv => whnf
                  refine ⟨m + 1 + 1, ⟨hil, fun j hj g => ?_⟩, less1 hil, ⟨⟨incI hil hl, trivial, trivial⟩, ⟨rfl, trivial, trivial⟩⟩⟩
                  by_cases hji : j < m + 1
                  · exact h2 j hj hji
                  · obtain rfl : j = m + 1 := by omega
                    exact ⟨hed, fun m' e hm => by obtain rfl : m' = m := by omega
                                                  exact g5⟩
              · intro g4
                have g4 := of_decide_eq_false g4
                obtain rfl : i = 0 := by omega
                conv => whnf
                refine ⟨by kernel_rfl, ?_⟩
                conv => whnf
                refine ⟨0 + 1, ⟨hil, fun j hj g => ?_⟩, less1 hil, ⟨⟨incI hil hl, trivial, trivial⟩, ⟨rfl, trivial, trivial⟩⟩⟩
                obtain rfl : j = 0 := by omega
                exact ⟨hed, fun m' e hm => by omega⟩
    · intro h
      have hil := gem h h1
      conv => whnf
      rw [(checkE_iff l).2 (fun j hj => h2 j hj (by omega))] <;> rfl
theorem cntN_take {l : List S34} {i : Nat} (hil : i < l.length) (x : S34) : cntN (l.take (i + 1)) x = cntN (l.take i) x + (if l[i] = x then 1 else 0) := by
  rw [List.take_succ_eq_append_getElem hil, cntN_append, cntN_cons]
  simp [cntN]
theorem many13_pc (l : List S34) (x : S34) (hl : l.length ≤ 4294967296) : PC 74 [.sl 0 2 (l.map evN), evN x] (.s (.int .i64 (cntN l x))) := by
  refine pc_of tt_ok tt_follows Tryz.func74 rfl (by kernel_rfl) (by kernel_rfl) (Nat.le_of_ble_eq_true rfl) rfl ?_
  conv => whnf
  refine ⟨Nat, fun i => i ≤ l.length, fun i => [(15, .s (.int .i64 (cntN (l.take i) x))), (18, .s (.int .i64 i))], [0, 9, 10, 12], fun i => l.length - i, 0, Nat.zero_le _, ?_, fun i hi => ?_⟩
  · repeat' (first | exact trivial | exact rfl | refine ⟨?_, ?_⟩)
  · conv => whnf
    constructor
    · intro h
      have hil := ltm h
      have hr := cntN_range (l.take i) x
      rw [List.length_take] at hr
      conv => whnf
      refine ⟨_, idx_map evN l i hil, ?_⟩
      conv => whnf
      refine ⟨eqtN, ?_⟩
      conv => whnf
      refine ⟨by kernel_rfl, ?_⟩
      conv => whnf
      constructor
      · intro g
        have g : l[i] = x := eqN_iff.1 g
        conv => whnf
        refine ⟨i + 1, hil, less1 hil, ⟨⟨?_, trivial, incI hil hl, trivial, trivial⟩, ?_⟩⟩
        · rw [cntN_take hil, if_pos g]
          exact congrArg (fun n => PV.s (.int .i64 n)) (wrapI (by omega))
        · repeat' (first | exact trivial | exact rfl | refine ⟨?_, ?_⟩)
      · intro g
        have g : ¬ l[i] = x := fun e => by have := eqN_iff.2 e; rw [show eqN l[i] x = false from g] at this; cases this
        conv => whnf
        refine ⟨i + 1, hil, less1 hil, ⟨⟨?_, trivial, incI hil hl, trivial, trivial⟩, ?_⟩⟩
        · rw [cntN_take hil, if_neg g, Int.add_zero]; rfl
        · repeat' (first | exact trivial | exact rfl | refine ⟨?_, ?_⟩)
    · intro h
      have hil := gem h hi
      conv => whnf
      rw [show l.take i = l by rw [hil, List.take_length]] <;> rfl
theorem byE_take {l : List S48} {i : Nat} (hil : i < l.length) (x : S34) : byE (l.take (i + 1)) x = byE (l.take i) x + (if l[i].f0 = x then l[i].f1 else 0) := by
  rw [List.take_succ_eq_append_getElem hil, byE_append, byE_cons]
  simp [byE]
theorem by13_pc (l : List S48) (x : S34) (hl : l.length ≤ 1000) (hin : InE l) : PC 58 [.sl 0 3 (l.map evE), evN x] (.s (.int .i64 (byE l x))) := by
  refine pc_of tt_ok tt_follows Tryz.func58 rfl (by kernel_rfl) (by kernel_rfl) (Nat.le_of_ble_eq_true rfl) rfl ?_
  conv => whnf
  refine ⟨Nat, fun i => i ≤ l.length, fun i => [(15, .s (.int .i64 (byE (l.take i) x))), (18, .s (.int .i64 i))], [0, 9, 10, 12], fun i => l.length - i, 0, Nat.zero_le _, ?_, fun i hi => ?_⟩
  · repeat' (first | exact trivial | exact rfl | refine ⟨?_, ?_⟩)
  · conv => whnf
    constructor
    · intro h
      have hil := ltm h
      have hr := byE_far (l := l.take (i + 1)) (fun y hy => hin y (List.mem_of_mem_take hy)) x
      rw [List.length_take] at hr
      conv => whnf
      refine ⟨_, idx_map evE l i hil, ?_⟩
      conv => whnf
      refine ⟨eqtN, ?_⟩
      conv => whnf
      refine ⟨by kernel_rfl, ?_⟩
      conv => whnf
      constructor
      · intro g
        have g : l[i].f0 = x := eqN_iff.1 g
        conv => whnf
        refine ⟨_, idx_map evE l i hil, ?_⟩
        conv => whnf
        refine ⟨i + 1, hil, less1 hil, ⟨⟨?_, trivial, incI hil (by omega), trivial, trivial⟩, ?_⟩⟩
        · rw [byE_take hil, if_pos g] at *
          exact congrArg (fun n => PV.s (.int .i64 n)) (wrapI (by omega))
        · repeat' (first | exact trivial | exact rfl | refine ⟨?_, ?_⟩)
      · intro g
        have g : ¬ l[i].f0 = x := fun e => by have := eqN_iff.2 e; rw [show eqN l[i].f0 x = false from g] at this; cases this
        conv => whnf
        refine ⟨i + 1, hil, less1 hil, ⟨⟨?_, trivial, incI hil (by omega), trivial, trivial⟩, ?_⟩⟩
        · rw [byE_take hil, if_neg g, Int.add_zero]; rfl
        · repeat' (first | exact trivial | exact rfl | refine ⟨?_, ?_⟩)
    · intro h
      have hil := gem h hi
      conv => whnf
      rw [show l.take i = l by rw [hil, List.take_length]] <;> rfl
theorem len1 {n k : Nat} (h : n ≤ 1000000) (hk : k ≤ 100) : n + 1 ≤ maxLen ∧ (n + 1) * k ≤ 140737488355328 := by
  constructor
  · unfold maxLen; omega
  · have : (n + 1) * k ≤ 1000001 * 100 := Nat.mul_le_mul (by omega) hk
    omega
theorem lenS {n m k : Nat} (h : n + m ≤ 1000000) (hk : k ≤ 100) : n + m ≤ maxLen ∧ (n + m) * k ≤ 140737488355328 := by
  constructor
  · unfold maxLen; omega
  · have : (n + m) * k ≤ 1000000 * 100 := Nat.mul_le_mul (by omega) hk
    omega
theorem diff13_pc (l m : List S34) (hl : l.length ≤ 1000) (hm : m.length ≤ 1000) (bl : ∀ x ∈ l, Brief x ∧ mayN x = true) (bm : ∀ x ∈ m, Brief x ∧ mayN x = true) : PC 59 [.sl 0 2 (l.map evN), .sl 0 2 (m.map evN)] (.sl 5 3 ((diffV l m).map evE)) := by
  have hs := diff13_set l m (by omega) (by omega) (fun x h => ⟨(bl x h).1.tiny, (bl x h).2⟩) (fun x h => ⟨(bm x h).1.tiny, (bm x h).2⟩)
  have hok := diffC_ok l m (by omega) (by omega) (fun x h => ⟨(bl x h).1.tiny, (bl x h).2⟩) (fun x h => ⟨(bm x h).1.tiny, (bm x h).2⟩)
  have hlm : ∀ x ∈ l ++ m, Brief x ∧ mayN x = true := fun x hx => by
    rcases List.mem_append.1 hx with h | h
    · exact bl x h
    · exact bm x h
  have hsl : (rsetN (l ++ m)).length ≤ 65536 := by rw [← hs, (sortN_perm _).length_eq, List.length_map]; exact hok.len
  have wS := set5_pc (l ++ m) (by rw [List.length_append]; omega) (fun x h => (hlm x h).1) (fun x h => (hlm x h).2)
  rw [List.map_append] at wS
  unfold diffV
  rw [hs]
  generalize rsetN (l ++ m) = S at wS hsl
  have e1 : (l.map evN).length = l.length := List.length_map ..
  have e2 : (m.map evN).length = m.length := List.length_map ..
  refine pc_of tt_ok tt_follows Tryz.func59 rfl (by kernel_rfl) (by kernel_rfl) (Nat.le_of_ble_eq_true rfl) rfl ?_
  conv => whnf
  refine ⟨by show 0 + _ ≤ _ ∧ (0 + _) * 32 ≤ _; rw [e1]; exact lenS (by omega) (by decide), ?_⟩
  conv => whnf
  refine ⟨by show (l.map evN).length + _ ≤ _ ∧ ((l.map evN).length + _) * 32 ≤ _; rw [e1, e2]; exact lenS (by omega) (by decide), ?_⟩
  conv => whnf
  refine ⟨rfl, ?_⟩
  conv => whnf
  refine ⟨_, wS, ?_⟩
  conv => whnf
  refine ⟨Nat, fun i => i ≤ S.length, fun i => [(18, .sl 46 3 ((editsF (diffC l m) (S.take i)).map evE)), (21, .s (.int .i64 i)), (15, .sl 0 2 (S.map evN)), (134, .fr ((editsF (diffC l m) (S.take i)).map evE).length 3)], [0, 3, 12], fun i => S.length - i, 0, Nat.zero_le _, ?_, fun i hi => ?_⟩
  · exact ⟨⟨⟨rfl, Or.inr rfl, Or.inr (Or.inr rfl)⟩, Nat.le_refl _, rfl, trivial, ⟨rfl, Or.inl rfl, Or.inl rfl⟩, trivial, Or.inl rfl, trivial, trivial⟩, ⟨rfl, trivial, rfl, trivial, rfl, trivial, trivial⟩⟩
  · conv => whnf
    constructor
    · intro h
      have hil := ltm h
      have r1 := cntN_range m S[i]
      have r2 := cntN_range l S[i]
      have hsn := editsF_snoc (diffC l m) (S.take i) S[i]
      rw [← List.take_succ_eq_append_getElem hil, look_diff] at hsn
      have hel := editsF_len (diffC l m) (S.take i)
      rw [List.length_take] at hel
      have hw : IntKind.wrap .i64 (cntN m S[i] - cntN l S[i]) = cntN m S[i] - cntN l S[i] := wrapI (by omega)
      conv => whnf
      refine ⟨_, idx_map evN S i hil, ?_⟩
      conv => whnf
      refine ⟨_, many13_pc m S[i] (by omega), ?_⟩
      conv => whnf
      refine ⟨_, idx_map evN S i hil, ?_⟩
      conv => whnf
      refine ⟨_, many13_pc l S[i] (by omega), ?_⟩
      conv => whnf
      refine ⟨by kernel_rfl, ?_⟩
      conv => whnf
      rw [hw]
      constructor
      · intro g
        have g : cntN m S[i] - cntN l S[i] ≠ 0 := by simpa using g
        rw [if_neg g] at hsn
        conv => whnf
        refine ⟨_, idx_map evN S i hil, ?_⟩
        conv => whnf
        refine ⟨by rw [List.length_map]; exact len1 (by omega) (by decide), ?_⟩
        conv => whnf
        refine ⟨rfl, ?_⟩
        conv => whnf
        refine ⟨i + 1, hil, less1 hil, ⟨⟨⟨?_, Or.inl rfl, Or.inr (Or.inl rfl)⟩, Nat.le_refl _, incI hil (by omega), trivial, ⟨rfl, Or.inl rfl, Or.inl rfl⟩, trivial, Or.inr ?_, trivial, trivial⟩, ⟨rfl, trivial, rfl, trivial, rfl, trivial, trivial⟩⟩⟩
        · rw [hsn, List.map_append]; rfl
        · rw [hsn, List.map_append]; rfl
      · intro g
        have g : cntN m S[i] - cntN l S[i] = 0 := by simpa using g
        rw [if_pos g] at hsn
        conv => whnf
        refine ⟨i + 1, hil, less1 hil, ⟨⟨⟨?_, Or.inl rfl, Or.inr (Or.inl rfl)⟩, Nat.le_refl _, incI hil (by omega), trivial, ⟨rfl, Or.inl rfl, Or.inl rfl⟩, trivial, Or.inr ?_, trivial, trivial⟩, ⟨rfl, trivial, rfl, trivial, rfl, trivial, trivial⟩⟩⟩
        · rw [hsn] <;> rfl
        · rw [hsn] <;> rfl
    · intro h
      have hil := gem h hi
      conv => whnf
      exact ⟨by rw [show S.take i = S by rw [hil, List.take_length]], Or.inl rfl, Or.inr rfl⟩
theorem both13r_pc (a b : List S48) (oa : Oke a) (ob : Oke b) (ha : a.length ≤ 1000) (hb : b.length ≤ 1000) (ba : ∀ x ∈ a, Brief x.f0) (bb : ∀ x ∈ b, Brief x.f0) : PC 40 [.sl 0 3 (a.map evE), .sl 0 3 (b.map evE)] (.sl 5 3 ((bothV a b).map evE)) := by
  have hlm : ∀ x ∈ a.map (·.f0) ++ b.map (·.f0), Brief x ∧ mayN x = true := fun x hx => by
    rcases List.mem_append.1 hx with h | h
    · obtain ⟨y, hy, rfl⟩ := List.mem_map.1 h; exact ⟨ba y hy, (oa.tiny y hy).2⟩
    · obtain ⟨y, hy, rfl⟩ := List.mem_map.1 h; exact ⟨bb y hy, (ob.tiny y hy).2⟩
  have hr := rsetN_facts (a.map (·.f0) ++ b.map (·.f0)) (fun x hx => (hlm x hx).1.tiny) (fun x hx => (hlm x hx).2) [] IsSet.nil
  have hok := bothC_ok a b oa.len ob.len oa.tiny ob.tiny
  have hs : sortN ((countE [] (a ++ b)).map (·.1)) = rsetN (a.map (·.f0) ++ b.map (·.f0)) := by
    refine IsSet.ext (sorted_is hok.nodup (fun x hx => by obtain ⟨p, hp, rfl⟩ := List.mem_map.1 hx; exact hok.may p hp)) hr.1 (fun x => ?_)
    rw [(sortN_perm _).mem_iff, keys_countE, List.map_append]
    unfold rsetN
    rw [hr.2]
    simp
  have hsl : (rsetN (a.map (·.f0) ++ b.map (·.f0))).length ≤ 65536 := by rw [← hs, (sortN_perm _).length_eq, List.length_map]; exact hok.len
  have wS := set5_pc (a.map (·.f0) ++ b.map (·.f0)) (by rw [List.length_append, List.length_map, List.length_map]; omega) (fun x h => (hlm x h).1) (fun x h => (hlm x h).2)
  have hC : ∀ x, (lookC (countE [] (a ++ b)) x).getD 0 = byE a x + byE b x := fun x => by rw [look_countE, byE_append]; simp [lookC]
  unfold bothV
  rw [hs]
  generalize rsetN (a.map (·.f0) ++ b.map (·.f0)) = S at wS hsl
  generalize countE [] (a ++ b) = C at hC
  clear hs hr hok hlm
  refine pc_of tt_ok tt_follows Tryz.func40 rfl (by kernel_rfl) (by kernel_rfl) (Nat.le_of_ble_eq_true rfl) rfl ?_
  conv => whnf
  refine ⟨Nat, fun i => i ≤ a.length, fun i => [(15, .sl 26 2 (((a.take i).map (·.f0)).map evN)), (18, .s (.int .i64 i)), (74, .fr (((a.take i).map (·.f0)).map evN).length 2)], [0, 3, 12], fun i => a.length - i, 0, Nat.zero_le _, ?_, fun i hi => ?_⟩
  · exact ⟨⟨⟨rfl, Or.inr rfl, Or.inr (Or.inr rfl)⟩, Nat.le_refl _, rfl, trivial, Or.inl rfl, trivial, trivial⟩, ⟨rfl, trivial, rfl, trivial, rfl, trivial, trivial⟩⟩
  conv => whnf
  constructor
  · intro h
    have hil := ltm h
    have hst := take_succ_map (fun x : S48 => x.f0) a i hil
    conv => whnf
    refine ⟨_, idx_map evE a i hil, ?_⟩
    conv => whnf
    refine ⟨by rw [List.length_map, List.length_map, List.length_take]; exact len1 (by omega) (by decide), ?_⟩
    conv => whnf
    refine ⟨rfl, ?_⟩
    conv => whnf
    refine ⟨i + 1, hil, less1 hil, ⟨⟨⟨?_, Or.inl rfl, Or.inr (Or.inl rfl)⟩, Nat.le_refl _, incI hil (by omega), trivial, Or.inr ?_, trivial, trivial⟩, ⟨rfl, trivial, rfl, trivial, rfl, trivial, trivial⟩⟩⟩
    · rw [hst, List.map_append]; rfl
    · rw [hst, List.map_append]; rfl
  intro h
  have hil := gem h hi
  have hta : a.take i = a := by rw [hil, List.take_length]
  conv => whnf
  refine ⟨Nat, fun j => j ≤ b.length, fun j => [(15, .sl 26 2 ((a.map (·.f0) ++ (b.take j).map (·.f0)).map evN)), (21, .s (.int .i64 j)), (74, .fr ((a.map (·.f0) ++ (b.take j).map (·.f0)).map evN).length 2)], [0, 3, 12], fun j => b.length - j, 0, Nat.zero_le _, ?_, fun j hj => ?_⟩
  · exact ⟨⟨⟨by rw [hta]; simp, Or.inl rfl, Or.inr (Or.inl rfl)⟩, Nat.le_refl _, rfl, trivial, Or.inr (congrArg (fun n => PV.fr n 2) (by rw [hta]; simp : (((a.take i).map (fun x : S48 => x.f0)).map evN).length = ((a.map (·.f0) ++ (b.take 0).map (·.f0)).map evN).length)), trivial, trivial⟩, ⟨rfl, trivial, rfl, trivial, rfl, trivial, trivial⟩⟩
  conv => whnf
  constructor
  · intro h
    have hjl := ltm h
    have hst := take_succ_map (fun x : S48 => x.f0) b j hjl
    conv => whnf
    refine ⟨_, idx_map evE b j hjl, ?_⟩
    conv => whnf
    refine ⟨by rw [List.length_map, List.length_append, List.length_map, List.length_map, List.length_take]; exact len1 (by omega) (by decide), ?_⟩
    conv => whnf
    refine ⟨rfl, ?_⟩
    conv => whnf
    refine ⟨j + 1, hjl, less1 hjl, ⟨⟨⟨?_, Or.inl rfl, Or.inr (Or.inl rfl)⟩, Nat.le_refl _, incI hjl (by omega), trivial, Or.inr ?_, trivial, trivial⟩, ⟨rfl, trivial, rfl, trivial, rfl, trivial, trivial⟩⟩⟩
    · rw [hst]; simp only [List.map_append, List.append_assoc]; rfl
    · rw [hst]; simp only [List.map_append, List.append_assoc]; rfl
  intro h
  have hjl := gem h hj
  rw [show b.map (·.f0) = (b.take j).map (·.f0) by rw [hjl, List.take_length]] at wS
  conv => whnf
  refine ⟨_, wS, ?_⟩
  conv => whnf
  refine ⟨Nat, fun i => i ≤ S.length, fun i => [(24, .sl 72 3 ((editsF C (S.take i)).map evE)), (27, .s (.int .i64 i)), (15, .sl 0 2 (S.map evN)), (212, .fr ((editsF C (S.take i)).map evE).length 3)], [0, 3, 12], fun i => S.length - i, 0, Nat.zero_le _, ?_, fun i hi => ?_⟩
  · exact ⟨⟨⟨rfl, Or.inr rfl, Or.inr (Or.inr rfl)⟩, Nat.le_refl _, rfl, trivial, ⟨rfl, Or.inl rfl, Or.inl rfl⟩, trivial, Or.inl rfl, trivial, trivial⟩, ⟨rfl, trivial, rfl, trivial, rfl, trivial, trivial⟩⟩
  conv => whnf
  constructor
  · intro h
    have hil := ltm h
    have r1 := byE_far oa.inn S[i]
    have r2 := byE_far ob.inn S[i]
    have hsn := editsF_snoc C (S.take i) S[i]
    rw [← List.take_succ_eq_append_getElem hil, hC] at hsn
    have hel := editsF_len C (S.take i)
    rw [List.length_take] at hel
    have hw : IntKind.wrap .i64 (byE a S[i] + byE b S[i]) = byE a S[i] + byE b S[i] := wrapI (by omega)
    conv => whnf
    refine ⟨_, idx_map evN S i hil, ?_⟩
    conv => whnf
    refine ⟨_, by13_pc a S[i] ha oa.inn, ?_⟩
    conv => whnf
    refine ⟨_, idx_map evN S i hil, ?_⟩
    conv => whnf
    refine ⟨_, by13_pc b S[i] hb ob.inn, ?_⟩
    conv => whnf
    refine ⟨by kernel_rfl, ?_⟩
    conv => whnf
    rw [hw]
    constructor
    · intro g
      have g : byE a S[i] + byE b S[i] ≠ 0 := by simpa using g
      rw [if_neg g] at hsn
      conv => whnf
      refine ⟨_, idx_map evN S i hil, ?_⟩
      conv => whnf
      refine ⟨by rw [List.length_map]; exact len1 (by omega) (by decide), ?_⟩
      conv => whnf
      refine ⟨rfl, ?_⟩
      conv => whnf
      refine ⟨i + 1, hil, less1 hil, ⟨⟨⟨?_, Or.inl rfl, Or.inr (Or.inl rfl)⟩, Nat.le_refl _, incI hil (by omega), trivial, ⟨rfl, Or.inl rfl, Or.inl rfl⟩, trivial, Or.inr ?_, trivial, trivial⟩, ⟨rfl, trivial, rfl, trivial, rfl, trivial, trivial⟩⟩⟩
      · rw [hsn, List.map_append]; rfl
      · exact congrArg (fun l => PV.fr (List.length l) 3) (by rw [hsn, List.map_append]; rfl : (editsF C (S.take i)).map evE ++ [evE ⟨S[i], byE a S[i] + byE b S[i]⟩] = (editsF C (S.take (i + 1))).map evE)
    · intro g
      have g : byE a S[i] + byE b S[i] = 0 := by simpa using g
      rw [if_pos g] at hsn
      conv => whnf
      refine ⟨i + 1, hil, less1 hil, ⟨⟨⟨?_, Or.inl rfl, Or.inr (Or.inl rfl)⟩, Nat.le_refl _, incI hil (by omega), trivial, ⟨rfl, Or.inl rfl, Or.inl rfl⟩, trivial, Or.inr ?_, trivial, trivial⟩, ⟨rfl, trivial, rfl, trivial, rfl, trivial, trivial⟩⟩⟩
      · rw [hsn] <;> rfl
      · rw [hsn] <;> rfl
  · intro h
    have hil := gem h hi
    conv => whnf
    exact ⟨by rw [show S.take i = S by rw [hil, List.take_length]], Or.inl rfl, Or.inr rfl⟩
end Go.Proofs.YtohdmmafjpjmfaaGreatDoor.Q
end
