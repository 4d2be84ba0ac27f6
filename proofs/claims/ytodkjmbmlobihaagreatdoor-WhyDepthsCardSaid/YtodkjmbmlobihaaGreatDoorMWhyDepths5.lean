/- Part 5 of this claim: several texts one behind the other: EvDraw, EvAny, EvSnd, EvFun, EvTab, EvBr, EvLe. What each shows stands in its theorems; conditions: sizes of texts and lists, as the functions' definitions say. -/
import Derived.Test.YtodkjmbmlobihaaGreatDoorVWhyDepths
import Derived.Test.YtodkjmbmlobihaaGreatDoorMWhyDepths4
section
namespace Go.Ev
open Go Go.RowKit
set_option linter.unusedVariables false
set_option linter.unusedSimpArgs false
section
variable {P : Program} {T : Tab} {PC : Orc} {Q : Exit → Act → World → Prop} {o : Oper} {a : Act} {w : World} {B nt : Nat} {w0 : W0} {F0 : Nat → Nat → Prop} {ow : Ow} {σ τ : St} {K : List Nat → List (Nat × PV) → Prop} {ops : Array Oper}
def AM.exec (PC : Orc) (σ : St) : AM → List Nat → List (Nat × PV) → Prop
 | .ret ws', R, ws => R = [] ∧ ws = ws'
 | .get l k, R, ws => ∃ R', R = l :: R' ∧ (k (σ l)).exec PC σ R' ws
 | .need p k, R, ws => p ∧ k.exec PC σ R ws
 | .opt o k, R, ws => ∃ p, o = some p ∧ (k p).exec PC σ R ws
 | .optc o k, R, ws => ∃ p, o = some p ∧ (k p).exec PC σ R ws
 | .all _ _, R, ws => False
 | .ite b x y, R, ws => (b = true ∧ x.exec PC σ R ws) ∨ (b = false ∧ y.exec PC σ R ws)
 | .call f args k, R, ws => ∃ r, PC f args r ∧ (k r).exec PC σ R ws
 | .bad, _, _ => False
theorem run_exec : ∀ (m : AM) {K : List Nat → List (Nat × PV) → Prop}, m.noAll.run PC σ K → ∃ R ws, m.exec PC σ R ws ∧ K R ws
 | .ret ws, K, h => by simp only [AM.noAll, AM.run, forceW_eq] at h; exact ⟨[], ws, ⟨rfl, rfl⟩, h⟩
 | .get l k, K, h => by
  simp only [AM.noAll, AM.run, force_eq] at h
  obtain ⟨R, ws, h1, h2⟩ := run_exec (k (σ l)) h
  exact ⟨l :: R, ws, ⟨R, rfl, h1⟩, h2⟩
 | .need p k, K, h => by obtain ⟨R, ws, h1, h2⟩ := run_exec k h.2; exact ⟨R, ws, ⟨h.1, h1⟩, h2⟩
 | .opt o k, K, h => by obtain ⟨p, h0, h⟩ := h; obtain ⟨R, ws, h1, h2⟩ := run_exec (k p) h; exact ⟨R, ws, ⟨p, h0, h1⟩, h2⟩
 | .optc o k, K, h => by
  cases o with
  | none => exact h.elim
  | some p => obtain ⟨R, ws, h1, h2⟩ := run_exec (k p) h; exact ⟨R, ws, ⟨p, rfl, h1⟩, h2⟩
 | .all S k, K, h => h.elim
 | .ite b x y, K, h => by
  cases b
  ·obtain ⟨R, ws, h1, h2⟩ := run_exec y (h.2 rfl); exact ⟨R, ws, Or.inr ⟨rfl, h1⟩, h2⟩
  ·obtain ⟨R, ws, h1, h2⟩ := run_exec x (h.1 rfl); exact ⟨R, ws, Or.inl ⟨rfl, h1⟩, h2⟩
 | .call f args k, K, h => by obtain ⟨r, h0, h⟩ := h; obtain ⟨R, ws, h1, h2⟩ := run_exec (k r) h; exact ⟨R, ws, ⟨r, h0, h1⟩, h2⟩
 | .bad, K, h => h.elim
theorem exec_run : ∀ (m : AM) {R : List Nat} {ws : List (Nat × PV)}, m.exec PC σ R ws → m.run PC σ fun R' ws' => R' = R ∧ ws' = ws
 | .ret ws', R, ws, h => by simp only [AM.run, forceW_eq]; exact ⟨h.1.symm, h.2.symm⟩
 | .get l k, R, ws, h => by
  obtain ⟨R', rfl, h⟩ := h
  simp only [AM.run, force_eq]
  exact run_mono _ (fun R ws hk => ⟨by rw [hk.1], hk.2⟩) (exec_run (k (σ l)) h)
 | .need p k, R, ws, h => ⟨h.1, exec_run k h.2⟩
 | .opt o k, R, ws, h => by obtain ⟨p, h0, h⟩ := h; exact ⟨p, h0, exec_run (k p) h⟩
 | .optc o k, R, ws, h => by
  obtain ⟨p, h0, h⟩ := h
  subst h0
  exact exec_run (k p) h
 | .all S k, R, ws, h => h.elim
 | .ite b x y, R, ws, h => by
  rcases h with ⟨rfl, h⟩ | ⟨rfl, h⟩
  ·exact ⟨fun _ => exec_run x h, (fun e => by cases e)⟩
  ·exact ⟨(fun e => by cases e), fun _ => exec_run y h⟩
 | .call f args k, R, ws, h => by obtain ⟨r, h0, h⟩ := h; exact ⟨r, h0, exec_run (k r) h⟩
theorem exec_local : ∀ (m : AM) {R : List Nat} {ws : List (Nat × PV)}, m.exec PC σ R ws → (∀ l ∈ R, τ l = σ l) → m.exec PC τ R ws
 | .ret ws', R, ws, h, _ => h
 | .get l k, R, ws, h, hl => by
  obtain ⟨R', rfl, h⟩ := h
  refine ⟨R', rfl, ?_⟩
  rw [hl l (by simp)]
  exact exec_local (k (σ l)) h (fun l' hl' => hl l' (by simp [hl']))
 | .need p k, R, ws, h, hl => ⟨h.1, exec_local k h.2 hl⟩
 | .opt o k, R, ws, h, hl => by obtain ⟨p, h0, h⟩ := h; exact ⟨p, h0, exec_local (k p) h hl⟩
 | .optc o k, R, ws, h, hl => by obtain ⟨p, h0, h⟩ := h; exact ⟨p, h0, exec_local (k p) h hl⟩
 | .all S k, R, ws, h, hl => h.elim
 | .ite b x y, R, ws, h, hl => by
  rcases h with ⟨e, h⟩ | ⟨e, h⟩
  ·exact Or.inl ⟨e, exec_local x h hl⟩
  ·exact Or.inr ⟨e, exec_local y h hl⟩
 | .call f args k, R, ws, h, hl => by obtain ⟨r, h0, h⟩ := h; exact ⟨r, h0, exec_local (k r) h hl⟩
abbrev Foot := Nat → List Nat × List (Nat × PV)
def keys (f : Foot) (i : Nat) : List Nat := (f i).2.map (·.1)
def V (σ : St) (f : Foot) (D : Nat → Bool) : Nat → St
 | 0 => σ
 | m + 1 => bif D m then ap (f m).2 (V σ f D m) else V σ f D m
theorem ap_mem {ws : List (Nat × PV)} {l : Nat} (h : l ∈ ws.map (·.1)) (σ τ : St) : ap ws σ l = ap ws τ l := by
 induction ws with
 | nil => simp at h
 | cons x r ih =>
  obtain ⟨k, p⟩ := x
  by_cases hl : l = k
  ·subst hl; rw [ap_self, ap_self]
  ·rw [ap_ne _ _ _ hl, ap_ne _ _ _ hl]
   exact ih (by simpa [hl] using h)
theorem ap_not_mem {ws : List (Nat × PV)} {l : Nat} (h : l ∉ ws.map (·.1)) (σ : St) : ap ws σ l = σ l := by
 induction ws with
 | nil => rfl
 | cons x r ih =>
  obtain ⟨k, p⟩ := x
  simp only [List.map_cons, List.mem_cons, not_or] at h
  rw [ap_ne _ _ _ h.1]
  exact ih h.2
theorem V_succ (σ : St) (f : Foot) (D : Nat → Bool) (m l : Nat) : V σ f D (m + 1) l = (bif D m then ap (f m).2 (V σ f D m) l else V σ f D m l) := by
 show (bif D m then ap (f m).2 (V σ f D m) else V σ f D m : St) l = _
 cases D m <;> rfl
theorem V_not {f : Foot} {D : Nat → Bool} {m l : Nat} (h : l ∉ keys f m) : V σ f D (m + 1) l = V σ f D m l := by
 rw [V_succ]
 cases D m
 ·rfl
 ·exact ap_not_mem h _
theorem V_congr {f : Foot} {D D' : Nat → Bool} {l : Nat} : ∀ (m : Nat), (∀ i, i < m → l ∈ keys f i → D i = D' i) → V σ f D m l = V σ f D' m l
 | 0, _ => rfl
 | m + 1, h => by
  have ih := V_congr m (fun i hi => h i (by omega))
  by_cases hl : l ∈ keys f m
  ·have e := h m (by omega) hl
   rw [V_succ, V_succ, e]
   cases D' m
   ·exact ih
   ·exact ap_mem hl _ _
  ·rw [V_not hl, V_not hl, ih]
theorem V_lt {f : Foot} {j : Nat} {l : Nat} : ∀ (n : Nat), j ≤ n → V σ f (fun i => decide (i < j)) n l = V σ f (fun _ => true) j l
 | 0, h => by
  obtain rfl : j = 0 := by omega
  rfl
 | n + 1, h => by
  by_cases hj : j = n + 1
  ·subst hj
   exact V_congr (n + 1) (fun i hi _ => by simp [hi])
  ·have : decide (n < j) = false := decide_eq_false (by omega)
   rw [V_succ]
   simp only [this, cond_false]
   exact V_lt n (by omega)
structure OkF (ops : Array Oper) (f : Foot) (n : Nat) (bef : Nat → Nat → Prop) : Prop where
 pair : ∀ i j, i < j → j < n → bef i j ∨ ((∀ l ∈ keys f i, l ∉ (f j).1) ∧ (∀ l ∈ keys f j, l ∉ (f i).1) ∧ ∀ l ∈ keys f i, l ∉ keys f j)
 edge : ∀ (j : Nat) (o : Oper), ops[j]? = some o → ∀ e ∈ o.after, Region.binds .any e = true → e.on < j
 bef : ∀ i j (o : Oper), ops[j]? = some o → bef i j → ∃ e ∈ o.after, Region.binds .any e = true ∧ (e.on = i ∨ bef i e.on)
theorem step_state {f : Foot} {n j : Nat} {bef : Nat → Nat → Prop} (hok : OkF ops f n bef) {D : Nat → Bool} (hj : j < n) (hDj : D j = false) (hcl : ∀ i, bef i j → D i = true) (hclD : ∀ d, D d = true → d < n → ∀ i, bef i d → D i = true) :
 (∀ l ∈ (f j).1, V σ f D n l = V σ f (fun _ => true) j l) ∧ ∀ l, ap (f j).2 (V σ f D n) l = V σ f (fun i => D i || Nat.beq i j) n l := by
 have hnb : ∀ i, i < n → bef j i → D i = false := fun i hi hb => by
  cases hDi : D i
  ·rfl
  ·have := hclD i hDi hi j hb; rw [hDj] at this; cases this
 refine ⟨fun l hl => ?_, fun l => ?_⟩
 ·rw [← V_lt (σ := σ) (f := f) (l := l) n (by omega)]
  refine V_congr n (fun i hi hli => ?_)
  rcases Nat.lt_trichotomy i j with h | h | h
  ·rw [decide_eq_true h]
   rcases hok.pair i j h hj with hb | ⟨h1, _, _⟩
   ·exact hcl i hb
   ·exact absurd hl (h1 l hli)
  ·subst h; rw [hDj]; simp
  ·rw [decide_eq_false (by omega)]
   rcases hok.pair j i h hi with hb | ⟨_, h2, _⟩
   ·exact hnb i hi hb
   ·exact absurd hl (h2 l hli)
 ·by_cases hl : l ∈ keys f j
  ·have hlate : ∀ i, i < n → j < i → l ∈ keys f i → D i = false := fun i hi hji hli => by
    rcases hok.pair j i hji hi with hb | ⟨_, _, h3⟩
    ·exact hnb i hi hb
    ·exact absurd hli (h3 l hl)
   have key : ∀ m, j < m → m ≤ n → V σ f (fun i => D i || Nat.beq i j) m l = ap (f j).2 (V σ f D n) l := by
    intro m
    induction m with
    | zero => intro h; omega
    | succ m ih =>
     intro h1 h2
     by_cases hm : m = j
     ·subst hm
      rw [V_succ]
      simp only [show (D m || Nat.beq m m) = true by simp, cond_true]
      exact ap_mem hl _ _
     ·have ih := ih (by omega) (by omega)
      have hb : Nat.beq m j = false := by rw [Bool.eq_false_iff]; intro e; exact hm (Nat.eq_of_beq_eq_true e)
      rw [V_succ]
      simp only [hb, Bool.or_false]
      by_cases hlm : l ∈ keys f m
      ·rw [hlate m (by omega) (by omega) hlm]; exact ih
      ·cases D m
       ·exact ih
       ·rw [← ih]; exact ap_not_mem hlm _
   exact (key n hj (Nat.le_refl _)).symm
  ·rw [ap_not_mem hl]
   refine V_congr n (fun i hi hli => ?_)
   have : Nat.beq i j = false := by
    rw [Bool.eq_false_iff]; intro e
    have := Nat.eq_of_beq_eq_true e
    subst this
    exact hl hli
   simp only [this, Bool.or_false]
end
theorem or_bits {i : Nat} (acc : List Nat) : ∀ (l : List Edge) (s : Nat), (l.foldl (fun s e => if Region.binds .any e then s ||| 2 ^ e.on ||| acc.getD e.on 0 else s) s).testBit i = true →
 s.testBit i = true ∨ ∃ e ∈ l, Region.binds .any e = true ∧ (e.on = i ∨ (acc.getD e.on 0).testBit i = true)
 | [], s, h => Or.inl h
 | e :: r, s, h => by
  rcases or_bits acc r _ h with h1 | ⟨e', he', h2⟩
  ·replace h1 : (if Region.binds .any e = true then s ||| 2 ^ e.on ||| acc.getD e.on 0 else s).testBit i = true := h1
   by_cases hb : Region.binds .any e = true
   ·rw [if_pos hb] at h1
    simp only [Nat.testBit_or, Bool.or_eq_true] at h1
    rcases h1 with (h1 | h1) | h1
    ·exact Or.inl h1
    ·refine Or.inr ⟨e, by simp, hb, Or.inl ?_⟩
     rw [Nat.testBit_two_pow] at h1
     simpa using h1
    ·exact Or.inr ⟨e, by simp, hb, Or.inr h1⟩
   ·rw [if_neg hb] at h1; exact Or.inl h1
  ·exact Or.inr ⟨e', by simp [he'], h2⟩
def maskOf (acc : List Nat) (o : Oper) : Nat := o.after.toList.foldl (fun s e => if Region.binds .any e then s ||| 2 ^ e.on ||| acc.getD e.on 0 else s) 0
theorem masks_cons (o : Oper) (r : List Oper) (acc : List Nat) : masks (o :: r) acc = masks r (acc ++ [maskOf acc o]) := by
 unfold maskOf
 conv => lhs; unfold masks
theorem masks_pre : ∀ (r : List Oper) (acc : List Nat) (k : Nat), k < acc.length → (masks r acc)[k]? = acc[k]?
 | [], acc, k, _ => rfl
 | o :: r, acc, k, h => by
  rw [masks_cons, masks_pre r _ k (by simp; omega), List.getElem?_append_left h]
theorem masks_at (r : List Oper) : ∀ (acc : List Nat) (k : Nat) (o : Oper), r[k]? = some o → (masks r acc)[acc.length + k]? = some (maskOf ((masks r acc).take (acc.length + k)) o) := by
 induction r with
 | nil => intro acc k o h; simp at h
 | cons o r ih =>
  intro acc k o' h
  rw [masks_cons]
  generalize hm : maskOf acc o = m
  cases k with
  | zero =>
   have e : o = o' := Option.some.inj h
   have h1 := masks_pre r (acc ++ [m]) acc.length (by simp)
   have h2 : (masks r (acc ++ [m])).take acc.length = acc := by
    apply List.ext_getElem?
    intro q
    rw [List.getElem?_take]
    split
    ·rename_i hq
     rw [masks_pre r _ q (by rw [List.length_append]; omega), List.getElem?_append_left hq]
    ·rename_i hq
     rw [List.getElem?_eq_none (by omega)]
   rw [Nat.add_zero, h1, h2, List.getElem?_append_right (Nat.le_refl _), Nat.sub_self, ← e, hm]
   rfl
  | succ k =>
   have := ih (acc ++ [m]) k o' h
   rw [List.length_append, List.length_singleton] at this
   rw [show acc.length + (k + 1) = acc.length + 1 + k by omega]
   exact this
theorem masks_spec {ops : List Oper} {j : Nat} {o : Oper} (h : ops[j]? = some o) (i : Nat) (hb : ((masks ops []).getD j 0).testBit i = true) :
 ∃ e ∈ o.after, Region.binds .any e = true ∧ (e.on = i ∨ ((masks ops []).getD e.on 0).testBit i = true) := by
 have h1 := masks_at ops [] j o h
 simp only [List.length_nil, Nat.zero_add] at h1
 rw [List.getD_eq_getElem?_getD, h1] at hb
 simp only [Option.getD_some, maskOf] at hb
 rcases or_bits _ _ _ hb with h2 | ⟨e, he, h2, h3⟩
 ·simp at h2
 ·refine ⟨e, by simpa using he, h2, h3.imp id (fun h3 => ?_)⟩
  rw [List.getD_eq_getElem?_getD, List.getElem?_take] at h3
  rw [List.getD_eq_getElem?_getD]
  split at h3
  ·exact h3
  ·simp at h3
theorem disj_spec {a b : List Nat} (h : disj a b = true) : ∀ l ∈ a, l ∉ b := fun l hl hb => by
 have := List.all_eq_true.1 h l hl
 simp at this
 exact this hb
section
variable {P : Program} {T : Tab} {PC : Orc} {Q : Exit → Act → World → Prop} {o : Oper} {a : Act} {w : World} {B nt : Nat} {w0 : W0} {F0 : Nat → Nat → Prop} {ow : Ow} {σ τ : St} {K : List Nat → List (Nat × PV) → Prop} {ops : Array Oper}
theorem okDraw_ok {f : Foot} (h : okDraw ops.toList ((List.range ops.size).map fun i => ((f i).1, keys f i)) = true) : OkF ops f ops.size fun i j => ((masks ops.toList []).getD j 0).testBit i = true := by
 unfold okDraw at h
 rw [Bool.and_eq_true] at h
 obtain ⟨h1, h2⟩ := h
 refine ⟨fun i j hij hj => ?_, fun j o ho e he hb => ?_, fun i j o ho hb => masks_spec (by simpa using ho) i hb⟩
 ·unfold okAll at h2
  simp only [List.length_map, List.length_range] at h2
  have h3 := List.all_eq_true.1 (List.all_eq_true.1 h2 j (by simpa using hj)) i (by simpa using hij)
  rw [Bool.or_eq_true] at h3
  refine h3.imp id (fun h3 => ?_)
  have gi : ∀ k, k < ops.size → ((List.range ops.size).map fun i => ((f i).1, keys f i)).getD k ([], []) = ((f k).1, keys f k) := fun k hk => by
   rw [List.getD_eq_getElem?_getD, List.getElem?_map, List.getElem?_range hk]; rfl
  rw [gi i (by omega), gi j hj] at h3
  unfold okPair at h3
  rw [Bool.and_eq_true, Bool.and_eq_true] at h3
  exact ⟨disj_spec h3.1.1, disj_spec h3.1.2, disj_spec h3.2⟩
 ·unfold edgesOk at h1
  have hj : j < ops.size := (Array.getElem?_eq_some_iff.1 ho).1
  have h3 := List.all_eq_true.1 h1 j (by simpa using hj)
  have ho' : ops.toList[j]? = some o := by simpa using ho
  rw [ho'] at h3
  have h4 := List.all_eq_true.1 h3 e (by simpa using he)
  rw [Bool.or_eq_true] at h4
  rcases h4 with h4 | h4
  ·rw [hb] at h4; cases h4
  ·simpa using h4
theorem runR_foot (Qp : List (Nat × PV) → Prop) : ∀ (rest : List Oper) (i : Nat) (acc : List (List Nat × List Nat)) (s : List (Nat × PV)), runR PC P T ops true Qp i rest acc s →
 ∃ (f : Foot) (s' : List (Nat × PV)), (∀ (k : Nat) (o : Oper), rest[k]? = some o → (opG P T ops (i + k) o).exec PC (V (lk s) f (fun _ => true) k) (f k).1 (f k).2) ∧ lk s' = V (lk s) f (fun _ => true) rest.length ∧
  okDraw ops.toList (acc.reverse ++ (List.range rest.length).map fun k => ((f k).1, keys f k)) = true ∧ Qp s'
 | [], i, acc, s, h => by
  exact ⟨fun _ => ([], []), s, (fun k o hk => by simp at hk), rfl, by simpa using h.1, h.2⟩
 | o :: r, i, acc, s, h => by
  have hn : nilT T true o = none := by unfold nilT; split <;> first | rfl | (rename_i hq _ _ _; cases hq)
  unfold runR at h
  rw [hn] at h
  obtain ⟨R, ws, h1, h2⟩ := run_exec _ h
  obtain ⟨f, s', g1, g2, g3, g4⟩ := runR_foot Qp r (i + 1) _ _ h2
  have hV : ∀ k, V (lk s) (fun k => match k with | 0 => (R, ws) | k + 1 => f k) (fun _ => true) (k + 1) = V (lk (ws ++ s)) f (fun _ => true) k := by
   intro k
   induction k with
   | zero => rw [lk_append]; rfl
   | succ k ih =>
    have : V (lk s) (fun k => match k with | 0 => (R, ws) | k + 1 => f k) (fun _ => true) (k + 1 + 1) = ap (f k).2 (V (lk s) (fun k => match k with | 0 => (R, ws) | k + 1 => f k) (fun _ => true) (k + 1)) := rfl
    rw [this, ih]; rfl
  refine ⟨fun k => match k with | 0 => (R, ws) | k + 1 => f k, s', fun k o' hk => ?_, ?_, ?_, g4⟩
  ·cases k with
   | zero => simp at hk; subst hk; exact h1
   | succ k =>
    rw [hV k, show i + (k + 1) = i + 1 + k by omega]
    exact g1 k o' (by simpa using hk)
  ·rw [List.length_cons, hV]; exact g2
  ·have := g3
   rw [List.reverse_cons, List.append_assoc] at this
   rw [List.length_cons, List.range_succ_eq_map, List.map_cons, List.map_map]
   exact this
def unl (listed : Array Bool) : Nat := listed.toList.count false
theorem unl_set {listed : Array Bool} {j : Nat} (h : listed.getD j true = false) : unl listed = unl (listed.setIfInBounds j true) + 1 := by
 have hj : j < listed.size := by
  rcases Nat.lt_or_ge j listed.size with h' | h'
  ·exact h'
  ·rw [Array.getD_eq_getD_getElem?, Array.getElem?_eq_none h'] at h; cases h
 have hv : listed.toList[j]'(by simpa using hj) = false := by
  rw [Array.getD_eq_getD_getElem?, Array.getElem?_eq_getElem hj] at h; simpa using h
 unfold unl
 rw [Array.toList_setIfInBounds, List.count_set (by simpa using hj)]
 have hpos : 0 < listed.toList.count false := List.count_pos_iff.2 (by rw [← hv]; exact List.getElem_mem _)
 rw [hv]
 have e1 : (if (false == false) = true then 1 else 0) = 1 := rfl
 have e2 : (if (true == false) = true then 1 else 0) = 0 := rfl
 rw [e1, e2]
 omega
theorem any_sound (hT : TabOk P T) (hd : ∀ (i : Nat) (o : Oper), ops[i]? = some o → ∀ d, o.dst = some d → d < nt) {f : Foot} {bef : Nat → Nat → Prop} (hok : OkF ops f ops.size bef)
 (hex : ∀ (k : Nat) (o : Oper), ops[k]? = some o → (opG P T ops k o).exec (PCs P) (V σ f (fun _ => true) k) (f k).1 (f k).2)
 (hQ : ∀ a w, Inv F0 B nt w0 (V σ f (fun _ => true) ops.size) a w → Q .normal a w) :
 ∀ (fuel : Nat) (listed : Array Bool) (a : Act) (w : World), listed.size = ops.size → unl listed = fuel → (∀ d, listed.getD d false = true → ∀ i, bef i d → listed.getD i false = true) → Inv F0 B nt w0 (V σ f (fun i => listed.getD i false) ops.size) a w → wpAny P .any ops Q fuel listed a w := by
 have hall : ∀ (listed : Array Bool), listed.size = ops.size → Region.ready .any ops listed = [] → ∀ j, j < ops.size → listed.getD j false = true := by
  intro listed hs hr j
  induction j using Nat.strongRecOn with
  | _ j ih =>
   intro hj
   cases hl : listed.getD j false
   ·exfalso
    have hm : j ∈ Region.ready .any ops listed := by
     refine mem_ready.2 ⟨?_, ops[j], Array.getElem?_eq_getElem hj, fun e he hb => ?_⟩
     ·rw [Array.getD_eq_getD_getElem?, Array.getElem?_eq_getElem (by omega)] at hl ⊢; exact hl
     ·have := hok.edge j ops[j] (Array.getElem?_eq_getElem hj) e he hb
      exact ih e.on this (by omega)
    rw [hr] at hm
    simp at hm
   ·rfl
 have fin : ∀ (listed : Array Bool) (a : Act) (w : World), listed.size = ops.size → Region.ready .any ops listed = [] → Inv F0 B nt w0 (V σ f (fun i => listed.getD i false) ops.size) a w → Q .normal a w := fun listed a w hs hr hI => by
  refine hQ a w ?_
  have : V σ f (fun i => listed.getD i false) ops.size = V σ f (fun _ => true) ops.size := funext fun l => V_congr ops.size (fun i hi _ => hall listed hs hr i hi)
  rw [← this]; exact hI
 intro fuel
 induction fuel with
 | zero =>
  intro listed a w hs hu hcl hI
  have hr : Region.ready .any ops listed = [] := by
   cases hq : Region.ready .any ops listed with
   | nil => rfl
   | cons j r =>
    have hm : j ∈ Region.ready .any ops listed := by rw [hq]; simp
    have := (mem_ready.1 hm).1
    have := unl_set this
    omega
  exact ⟨hr, fin listed a w hs hr hI⟩
 | succ fuel ih =>
  intro listed a w hs hu hcl hI
  refine ⟨fun hr => fin listed a w hs hr hI, fun j hj => ?_⟩
  obtain ⟨j1, o, ho, hafter⟩ := mem_ready.1 hj
  have hjn : j < ops.size := (Array.getElem?_eq_some_iff.1 ho).1
  have hDj : listed.getD j false = false := by
   rw [Array.getD_eq_getD_getElem?, Array.getElem?_eq_getElem (by omega)] at j1 ⊢; exact j1
  have hclj : ∀ i, bef i j → listed.getD i false = true := fun i hb => by
   obtain ⟨e, he, hbi, h | h⟩ := hok.bef i j o ho hb
   ·rw [← h]; exact hafter e he hbi
   ·exact hcl e.on (hafter e he hbi) i h
  obtain ⟨hloc, hst⟩ := step_state (σ := σ) (f := f) hok (D := fun i => listed.getD i false) hjn hDj hclj (fun d hd _ i hb => hcl d hd i hb)
  have hex' := exec_local _ (hex j o ho) (τ := V σ f (fun i => listed.getD i false) ops.size) hloc
  obtain ⟨ow, hI⟩ := hI
  refine wpOp_mono (fun a' w' hs' => ?_) (sim_opG hT ho hI (hd j o ho) (exec_run _ hex'))
  obtain ⟨R, ws, ⟨rfl, rfl⟩, hI'⟩ := hs'
  have hgs : ∀ i, (listed.setIfInBounds j true).getD i false = (listed.getD i false || Nat.beq i j) := fun i => by
   by_cases hij : i = j
   ·subst hij
    rw [Array.getD_eq_getD_getElem?, Array.getElem?_setIfInBounds_self_of_lt (by omega)]; simp
   ·have hb : Nat.beq i j = false := by rw [Bool.eq_false_iff]; intro e; exact hij (Nat.eq_of_beq_eq_true e)
    rw [Array.getD_eq_getD_getElem?, Array.getElem?_setIfInBounds_ne (Ne.symm hij), ← Array.getD_eq_getD_getElem?, hb, Bool.or_false]
  refine ih _ a' w' (by simpa using hs) (by have := unl_set j1; omega) (fun d hd' i hb => ?_) ?_
  ·rw [hgs] at hd' ⊢
   rw [Bool.or_eq_true] at hd' ⊢
   rcases hd' with hd' | hd'
   ·exact Or.inl (hcl d hd' i hb)
   ·obtain rfl := Nat.eq_of_beq_eq_true hd'
    exact Or.inl (hclj i hb)
  ·have e : V σ f (fun i => (listed.setIfInBounds j true).getD i false) ops.size = ap (f j).2 (V σ f (fun i => listed.getD i false) ops.size) := by
    funext l
    rw [hst l]
    exact V_congr ops.size (fun i _ _ => hgs i)
   rw [e]; exact hI'
theorem reg_sound (hT : TabOk P T) (hm : P.follows .mixedOrders = true) {id : Nat} {draw : Bool} (hd : ∀ (i : Nat) (o : Oper), ops[i]? = some o → ∀ d, o.dst = some d → d < nt) (Qp : List (Nat × PV) → Prop) (hQ : ∀ s a w, Qp s → Inv F0 B nt w0 (lk s) a w → Q .normal a w)
 {s : List (Nat × PV)} (h : runR (PCs P) P T ops draw Qp 0 ops.toList [] s) (hI : Inv F0 B nt w0 (lk s) a w) : (Code.region id ops draw).wp P Q a w := by
 cases draw with
 | false =>
  refine wp_region ?_
  have := reg_text (Q := Q) hT hd Qp hQ ops.toList 0 [] s a w (fun k o hk => by rw [Nat.zero_add]; simpa using hk) h hI
  rw [List.range_eq_range']
  simpa using this
 | true =>
  obtain ⟨f, s', g1, g2, g3, g4⟩ := runR_foot Qp ops.toList 0 [] s h
  have hl : ops.toList.length = ops.size := by simp
  rw [hl] at g2 g3
  simp only [List.reverse_nil, List.nil_append] at g3
  refine wp_region_any hm (any_sound hT hd (okDraw_ok g3) (fun k o hk => by have := g1 k o (by simpa using hk); rw [Nat.zero_add] at this; exact this) (fun a w hI => hQ s' a w g4 (by rw [g2]; exact hI)) ops.size _ a _ (by simp) (by simp [unl]) (fun d hd' => ?_) ?_)
  ·rw [Array.getD_eq_getD_getElem?] at hd'
   simp [Array.getElem?_replicate] at hd'
   split at hd' <;> simp at hd'
  ·have e : V (lk s) f (fun i => (Array.replicate ops.size false).getD i false) ops.size = lk s := by
    have h0 : ∀ i, (Array.replicate ops.size false).getD i false = false := fun i => by
     rw [Array.getD_eq_getD_getElem?]
     by_cases hi : i < ops.size
     ·simp [Array.getElem?_replicate, hi]
     ·simp [Array.getElem?_replicate, hi]
    have : ∀ m, V (lk s) f (fun i => (Array.replicate ops.size false).getD i false) m = lk s := fun m => by
     induction m with
     | zero => rfl
     | succ m ih =>
      funext l
      rw [V_succ]
      simp only [h0, cond_false]
      have := congrFun ih l
      simp only [h0] at this
      exact this
    exact this _
   rw [e]
   obtain ⟨ow, hI⟩ := hI
   exact ⟨ow, hI.ext ⟨rfl, rfl, rfl, Nat.le_refl _, fun _ _ => rfl⟩⟩
end
section
variable {P : Program} {T : Tab} {PC : Orc} {Q : Exit → Act → World → Prop} {a : Act} {w : World} {F0 : Nat → Nat → Prop} {B nt : Nat} {w0 : W0} {ow : Ow} {σ τ : St}
theorem nb_rep {F : Nat → Nat → Prop} {p p' : PV} {v : Value} (h : RepC F w p v) (e : p.nb = p'.nb) : RepC F w p' v := by
 cases p' with
 | tt =>
  have h1 := h.nb
  rw [e] at h1
  have := h1.s_eq
  subst this
  exact .tt
 | ff =>
  have h1 := h.nb
  rw [e] at h1
  have := h1.s_eq
  subst this
  exact .ff
 | _ => have h1 := h.nb; rw [e] at h1; exact h1
theorem le1_rep {F : Nat → Nat → Prop} {p p' : PV} {v : Value} (h : RepC F w p v) (e : le1 p p') : RepC F w p' v := by
 unfold le1 at e
 split at e
 ·exact .any _
 ·split at e
  ·obtain ⟨rfl, e2, e3⟩ := e
   have hk : ∀ k' k : Nat, (k' = 0 ∨ k' = k ∨ k = 1) → k' = 1 → k = 1 := fun k' k h h1 => by omega
   rcases e2 with rfl | rfl
   ·exact h.sl_of (hk _ _ e3)
   ·exact h.sl_z (hk _ _ e3)
  ·exact e.elim
 ·exact nb_rep h e
theorem le1_own {ow' : Ow} {p p' : PV} {v : Value} (h : Own B ow w σ p v) (ht : tokOk σ p) (e : le1 p p') (hfr : ∀ k n z, τ (3 * k + 2) = .fr n z → σ (3 * k + 2) = .any ∨ σ (3 * k + 2) = .fr n z) (how : ∀ b k l, ow b = some (2 * k + 1, l) → ow' b = some (2 * k + 1, l)) : Own B ow' w τ p' v := by
 unfold le1 at e
 split at e
 ·trivial
 ·rename_i k' z' xs'
  split at e
  ·rename_i k z xs
   obtain ⟨rfl, _, e3⟩ := e
   match k' with
   | 0 => trivial
   | 1 =>
    rcases e3 with e3 | rfl | rfl
    ·cases e3
    ·exact h
    ·exact h
   | j + 2 =>
    intro z1 hz1
    rcases e3 with e3 | rfl | rfl
    ·cases e3
    ·have h2 : σ (3 * j + 2) = .fr xs.length z1 := by
      rcases hfr j _ _ hz1 with h3 | h3
      ·unfold tokOk at ht
       simp only [h3] at ht
      ·exact h3
     rcases h z1 h2 with h | ⟨e, cells, h3, h4⟩
     ·exact Or.inl h
     ·exact Or.inr ⟨e, cells, h3, fun g hg => how _ _ _ (h4 g hg)⟩
    ·exact Or.inl h
  ·exact e.elim
 ·rename_i h1 h2
  cases p' with
  | sl k z xs => exact absurd rfl (h2 _ _ _)
  | _ => trivial
theorem leL_get : ∀ {cs cs' : List PV}, leL cs cs' → cs.length = cs'.length ∧ ∀ (j : Nat) (p p' : PV), cs[j]? = some p → cs'[j]? = some p' → le1 p p'
 | [], [], _ => ⟨rfl, fun j p p' h _ => by simp at h⟩
 | p :: r, p' :: r', h => by
  obtain ⟨h1, h2⟩ := leL_get h.2
  refine ⟨by simp [h1], fun j q q' hq hq' => ?_⟩
  cases j with
  | zero => simp at hq hq'; subst hq; subst hq'; exact h.1
  | succ j => exact h2 j q q' (by simpa using hq) (by simpa using hq')
 | [], _ :: _, h => h.elim
 | _ :: _, [], h => h.elim
theorem le1_refl (p : PV) : le1 p p := by
 unfold le1
 split
 ·trivial
 ·exact ⟨rfl, Or.inl rfl, Or.inr (Or.inl rfl)⟩
 ·rfl
theorem leL_refl : ∀ l, leL l l
 | [] => trivial
 | p :: r => ⟨le1_refl p, leL_refl r⟩
theorem leP_refl (l : Nat) (p : PV) : leP l p p := by
 unfold leP
 split
 ·trivial
 ·cases Nat.beq (l % 3) 1
  ·rfl
  ·exact leL_refl _
 ·cases Nat.beq (l % 3) 2
  ·rfl
  ·exact Or.inr rfl
 ·exact le1_refl p
theorem isAny_iff {p : PV} : p.isAny = true ↔ p = .any := by cases p <;> simp [PV.isAny]
theorem InvO.weak (hI : InvO F0 B nt w0 ow σ a w) (h : ∀ l, τ l = .any ∨ (leP l (σ l) (τ l) ∧ wf1 τ l (τ l))) : Inv F0 B nt w0 τ a w := by
 have hfr : ∀ k n z, τ (3 * k + 2) = .fr n z → σ (3 * k + 2) = .any ∨ σ (3 * k + 2) = .fr n z := fun k n z hk => by
  rcases h (3 * k + 2) with h1 | ⟨h1, _⟩
  ·rw [h1] at hk; cases hk
  ·rw [hk] at h1
   unfold leP at h1
   simp only [show Nat.beq ((3 * k + 2) % 3) 2 = true by rw [show (3 * k + 2) % 3 = 2 by omega]; rfl, cond_true] at h1
   exact h1
 let ow' : Ow := fun b => match ow b with
  | some (c, l) => if c % 2 = 0 ∧ (τ (3 * (c / 2) + 1)).isAny = true then none else some (c, l)
  | none => none
 have how : ∀ b k l, ow b = some (2 * k + 1, l) → ow' b = some (2 * k + 1, l) := fun b k l hb => by
  show (match ow b with | some (c, l) => if c % 2 = 0 ∧ (τ (3 * (c / 2) + 1)).isAny = true then none else some (c, l) | none => none) = _
  rw [hb]
  exact if_neg (fun e => by omega)
 have how2 : ∀ b k l, ow b = some (2 * k, l) → τ (3 * k + 1) ≠ .any → ow' b = some (2 * k, l) := fun b k l hb hne => by
  show (match ow b with | some (c, l) => if c % 2 = 0 ∧ (τ (3 * (c / 2) + 1)).isAny = true then none else some (c, l) | none => none) = _
  rw [hb]
  refine if_neg (fun e => hne ?_)
  rw [show 2 * k / 2 = k by omega] at e
  exact isAny_iff.1 e.2
 have how2' : ∀ b k l, ow b = some (2 * k, l) → τ (3 * k + 1) ≠ .any → ow' b = some (2 * k, l) := how2
 have hback : ∀ b c l, ow' b = some (c, l) → ow b = some (c, l) ∧ ∀ k, c = 2 * k → τ (3 * k + 1) ≠ .any := fun b c l hb => by
  have hb2 : (match ow b with | some (c, l) => if c % 2 = 0 ∧ (τ (3 * (c / 2) + 1)).isAny = true then none else some (c, l) | none => none) = some (c, l) := hb
  cases hq : ow b with
  | none => rw [hq] at hb2; cases hb2
  | some x =>
   obtain ⟨c', l'⟩ := x
   rw [hq] at hb2
   simp only [] at hb2
   split at hb2
   ·cases hb2
   ·rename_i hn
    cases hb2
    refine ⟨rfl, fun k hk e => hn ⟨by omega, ?_⟩⟩
    rw [hk, show 2 * k / 2 = k by omega]; exact isAny_iff.2 e
 have hFF : ∀ p v, RepC (FF F0 ow) w p v → RepC (FF F0 ow') w p v := fun p v hr => hr.mono fun b o u hc hf => ⟨hc, hf.1, fun c l hcl => hf.2 c l (hback b c l hcl).1⟩
 have hown : ∀ p p' v, Own B ow w σ p v → tokOk σ p → le1 p p' → Own B ow' w τ p' v := fun p p' v h1 h2 h3 => le1_own h1 h2 h3 hfr how
 have hrw : ∀ k v z xs, τ (3 * k + 1) = .rw v z xs → σ (3 * k + 1) = .rw v z xs := fun k v z xs hk => by
  rcases h (3 * k + 1) with h1 | ⟨h1, _⟩
  ·rw [h1] at hk; cases hk
  ·rw [hk] at h1
   have h2 : (σ (3 * k + 1)).nb = .rw v z xs := h1
   generalize σ (3 * k + 1) = p at h2
   cases p <;> first | exact h2 | cases h2
 have hview : ∀ p v t, p.tk = some t → tokOk τ p → boxOk τ p → RepV ow w σ p v → RepV ow' w τ p v := fun p v t hp h1 h2 hr => by
  cases p with
  | pt t' o =>
   cases hp
   obtain ⟨b, k1, k2⟩ := hr
   refine ⟨b, how2 b t 0 k1 (fun e => ?_), k2⟩
   unfold boxOk at h2
   simp only [e] at h2
  | vw t' vr z lo hi =>
   cases hp
   have hne : τ (3 * t + 1) ≠ .any := fun e => by unfold tokOk at h1; simp only [e] at h1
   obtain ⟨h0, hr⟩ := hr
   refine ⟨h0, ?_⟩
   rcases hr with ⟨a1, a2, a3⟩ | ⟨b, N, k1, k2, k3⟩
   ·exact Or.inl ⟨a1, a2, fun xs hx => ⟨(a3 xs (hrw _ _ _ _ hx)).1, fun b hb => (a3 xs (hrw _ _ _ _ hx)).2 b (hback _ _ _ hb).1⟩⟩
   ·refine Or.inr ⟨b, N, k1, k2, fun xs hx => ?_⟩
    obtain ⟨m1, m2, m3⟩ := k3 xs (hrw _ _ _ _ hx)
    exact ⟨how2 b t 0 m1 hne, m2, m3⟩
  | el t' vr z i o =>
   cases hp
   have hne : τ (3 * t + 1) ≠ .any := fun e => by unfold tokOk at h1; simp only [e] at h1
   obtain ⟨b, k1, k2⟩ := hr
   exact ⟨b, k1, fun xs hx => how2 b t 0 (k2 xs (hrw _ _ _ _ hx)) hne⟩
  | _ => cases hp
 refine ⟨ow', hI.defers, hI.size, hI.low, hI.newF, hI.below, fun t => ?_, fun b t hb => ?_, fun b b' t hb hb' => hI.uniq b b' t (hback _ _ _ hb).1 (hback _ _ _ hb').1, fun b c l hb => hI.owB b c l (hback b c l hb).1, fun l => ?_⟩
 ·have hr := hI.tms t
  have hw := wfT_slot (hI.wf (3 * t))
  rcases h (3 * t) with h1 | ⟨h1, h2⟩
  ·rw [h1]; exact ⟨.any _, trivial⟩
  ·replace h2 := wfT_slot h2
   generalize τ (3 * t) = p' at h1 h2
   generalize σ (3 * t) = p at hr hw h1
   have m1 : Nat.beq (3 * t % 3) 1 = false := by rw [Nat.mul_mod_right]; rfl
   have m2 : Nat.beq (3 * t % 3) 2 = false := by rw [Nat.mul_mod_right]; rfl
   have hle : le1 p p' := by
    unfold leP at h1
    split at h1
    ·trivial
    ·rw [m1] at h1; obtain rfl := h1; exact le1_refl _
    ·rw [m2] at h1; obtain rfl := h1; exact le1_refl _
    ·exact h1
   cases p' with
   | pt t' o =>
    obtain rfl : p = .pt t' o := by
     have e1 : p.nb = .pt t' o := hle
     cases p <;> first | exact e1 | cases e1
    exact hview (.pt t' o) _ t' rfl trivial h2 hr
   | vw t' vr z lo hi =>
    obtain rfl : p = .vw t' vr z lo hi := by
     have e1 : p.nb = .vw t' vr z lo hi := hle
     cases p <;> first | exact e1 | cases e1
    exact hview (.vw t' vr z lo hi) _ t' rfl h2 trivial hr
   | el t' vr z i o =>
    obtain rfl : p = .el t' vr z i o := by
     have e1 : p.nb = .el t' vr z i o := hle
     cases p <;> first | exact e1 | cases e1
    exact hview (.el t' vr z i o) _ t' rfl h2 trivial hr
   | cl f cs =>
    obtain rfl : p = .cl f cs := by
     have e1 : p.nb = .cl f cs := hle
     cases p <;> first | exact e1 | cases e1
    obtain ⟨vs, e1, e2, e3⟩ := hr
    refine ⟨vs, e1, e2, fun j q u hq hu => ?_⟩
    have hj := e3 j q u hq hu
    have hb : boxOk τ q := allP_get h2 hq
    cases q with
    | pt t o => exact hview (.pt t o) u t rfl trivial hb hj
    | _ => exact hFF _ _ hj
   | tu ps =>
    obtain rfl : p = .tu ps := by
     have e1 : p.nb = .tu ps := hle
     cases p <;> first | exact e1 | cases e1
    obtain ⟨vs, e1, e2, e3⟩ := hr
    refine ⟨vs, e1, e2, fun j q u hq hu => ?_⟩
    have hj := e3 j q u hq hu
    have hb : tokOk τ q := allP_get h2 hq
    have hb0 : tokOk σ q := allP_get hw hq
    cases q with
    | vw t vr z lo hi => exact hview (.vw t vr z lo hi) u t rfl hb trivial hj
    | _ => exact ⟨hFF _ _ hj.1, hown _ _ u hj.2 hb0 (le1_refl _)⟩
   | sl k' z' xs' =>
    cases p with
    | sl k z xs => exact ⟨hFF _ _ (le1_rep hr.1 hle), hown _ _ _ hr.2 hw hle⟩
    | _ => exact hle.elim
   | any => exact ⟨.any _, trivial⟩
   | fr n z =>
    have e1 : p.nb = .fr n z := hle
    cases p <;> first | (cases e1; done) | (cases hr.1; done)
   | rw v z xs =>
    have e1 : p.nb = .rw v z xs := hle
    cases p <;> first | (cases e1; done) | (cases hr.1; done)
   | xo z xs =>
    have e1 : p.nb = .xo z xs := hle
    cases p <;> first | (cases e1; done) | (cases hr.1; done)
   | _ =>
    have hne : isT p = false := by
     cases p <;> first | rfl | (cases hle; done)
    exact ⟨hFF _ _ (nb_rep (hr.rep hne) hle), trivial⟩
 ·obtain ⟨hb1, hb2⟩ := hback _ _ _ hb
  have hob := hI.boxes b t hb1
  rcases hob with ⟨cs, c, Ty, k1, k2, k3, k4⟩ | ⟨v, z, xs, N, k1, k2, k3⟩
  ·have hwf := hI.wf (3 * t + 1)
   rw [k1] at hwf
   simp only [wf1, mod_box, cond_true] at hwf
   rcases h (3 * t + 1) with h1 | ⟨h1, h2⟩
   ·exact absurd h1 (hb2 t rfl)
   ·rw [k1] at h1
    have : ∃ cs', τ (3 * t + 1) = .ag cs' ∧ leL cs cs' := by
     cases hp' : τ (3 * t + 1) with
     | ag cs' =>
      rw [hp'] at h1
      unfold leP at h1
      simp only [mod_box, cond_true] at h1
      exact ⟨cs', rfl, h1⟩
     | any => exact absurd hp' (hb2 t rfl)
     | fr n z =>
      rw [hp'] at h1
      unfold leP at h1
      simp only [show Nat.beq ((3 * t + 1) % 3) 2 = false by rw [show (3 * t + 1) % 3 = 1 by omega]; rfl, cond_false] at h1
      cases h1
     | sl => rw [hp'] at h1; exact h1.elim
     | _ => rw [hp'] at h1; cases h1
    obtain ⟨cs', hcs', hle⟩ := this
    obtain ⟨l1, l2⟩ := leL_get hle
    refine Or.inl ⟨cs', c, Ty, hcs', k2, by omega, fun j p' v hp' hv => ?_⟩
    have hj : j < cs.length := by have := (List.getElem?_eq_some_iff.1 hp').1; omega
    have hp := List.getElem?_eq_getElem hj
    obtain ⟨q1, q2, q3⟩ := k4 j _ v hp hv
    have hle1 := l2 j _ p' hp hp'
    exact ⟨q1, hFF _ _ (le1_rep q2 hle1), hown _ _ _ q3 (allP_get hwf hp) hle1⟩
  ·rcases h (3 * t + 1) with h1 | ⟨h1, h2⟩
   ·exact absurd h1 (hb2 t rfl)
   ·rw [k1] at h1
    have : τ (3 * t + 1) = .rw v z xs := by
     cases hp' : τ (3 * t + 1) with
     | ag cs' =>
      rw [hp'] at h1
      unfold leP at h1
      simp only [mod_box, cond_true] at h1
     | any => exact absurd hp' (hb2 t rfl)
     | fr n z =>
      rw [hp'] at h1
      unfold leP at h1
      simp only [show Nat.beq ((3 * t + 1) % 3) 2 = false by rw [show (3 * t + 1) % 3 = 1 by omega]; rfl, cond_false] at h1
      cases h1
     | sl => rw [hp'] at h1; exact h1.elim
     | rw v' z' xs' => rw [hp'] at h1; exact h1.symm
     | _ => rw [hp'] at h1; cases h1
    refine Or.inr ⟨v, z, xs, N, this, k2.map rfl fun q p u hh => hh.map hFF fun g q hg => ⟨?_, rfl⟩, k3⟩
    exact how2' g t _ hg (by rw [this]; exact fun e => by cases e)
 ·rcases h l with h1 | ⟨_, h2⟩
  ·rw [h1]; trivial
  ·exact h2
theorem nrm_fr (σ : St) (l n z : Nat) : nrm σ l = .fr n z ↔ σ l = .fr n z := by
 unfold nrm
 constructor
 ·intro h
  split at h
  ·split at h
   ·rename_i t v z lo hi _ _ v' _ _ _
    cases hb : Nat.beq v v' <;> (rw [hb] at h; cases h)
   ·cases h
  ·cases h
  ·cases h
  ·rename_i ps _
   cases hb : ps.any PV.isV <;> (rw [hb] at h; cases h)
  ·rename_i cs _
   cases hb : Nat.beq (l % 3) 1 <;> (rw [hb] at h; cases h)
  ·exact h
 ·intro h
  rw [h]
theorem nrm_rw (σ : St) (l v z : Nat) (xs : List PV) (h : nrm σ l = .rw v z xs) : ∃ v', v = v' % 2 ∧ σ l = .rw v' z xs := by
 unfold nrm at h
 split at h
 ·split at h
  ·rename_i t v z lo hi _ _ v' _ _ _
   cases hb : Nat.beq v v' <;> (rw [hb] at h; cases h)
  ·cases h
 ·rename_i v' z' xs' e
  cases h
  exact ⟨v', rfl, e⟩
 ·cases h
 ·rename_i ps _
  cases hb : ps.any PV.isV <;> (rw [hb] at h; cases h)
 ·rename_i cs _
  cases hb : Nat.beq (l % 3) 1 <;> (rw [hb] at h; cases h)
 ·rename_i hh _ _ _
  exact (hh v z xs h).elim
theorem nrm_ag (σ : St) (k : Nat) (cs : List PV) (h : σ (3 * k + 1) = .ag cs) : nrm σ (3 * k + 1) = .ag (cs.map PV.noV) := by
 unfold nrm
 rw [h]
 simp only [mod_box, cond_true]
theorem nrm_rw' (σ : St) (l v z : Nat) (xs : List PV) (h : σ l = .rw v z xs) : nrm σ l = .rw (v % 2) z xs := by
 unfold nrm
 rw [h]
theorem nrm_tok (σ : St) (p : PV) (hp : p.isV = false) (h : tokOk σ p) : tokOk (nrm σ) p := by
 cases p with
 | vw => cases hp
 | el => cases hp
 | sl k z xs => match k with
  | 0 => trivial
  | 1 => trivial
  | k + 2 =>
   simp only [tokOk] at *
   cases e : σ (3 * k + 2) with
   | fr n z' =>
    rw [(nrm_fr σ _ _ _).2 e]
    simp only [e] at h
    exact h
   | _ => simp only [e] at h
 | _ => trivial
theorem nrm_box (σ : St) (p : PV) (h : boxOk σ p) : boxOk (nrm σ) p := by
 cases p with
 | pt t o =>
  simp only [boxOk] at *
  cases e : σ (3 * t + 1) with
  | ag cs => rw [nrm_ag σ t cs e]; trivial
  | _ => simp only [e] at h
 | _ => trivial
theorem noV_tok (σ : St) (p : PV) (h : tokOk σ p) : tokOk (nrm σ) p.noV := by
 cases p with
 | vw => trivial
 | el => trivial
 | _ => exact nrm_tok σ _ rfl h
theorem allP_map {f g : PV → Prop} {k : PV → PV} (h : ∀ p, f p → g (k p)) : ∀ l, allP f l → allP g (l.map k)
 | [], _ => trivial
 | p :: r, ⟨a, b⟩ => ⟨h p a, allP_map h r b⟩
theorem noV_rep {F : Nat → Nat → Prop} {w : World} {p : PV} {v : Value} (h : RepC F w p v) : RepC F w p.noV v := by
 cases p <;> first | exact h | exact .any _
theorem allP_and {f : PV → Prop} {b : PV → Bool} : ∀ l, allP f l → l.any b = false → allP (fun p => f p ∧ b p = false) l
 | [], _, _ => trivial
 | p :: r, h, hb => by
  simp only [List.any_cons, Bool.or_eq_false_iff] at hb
  exact ⟨⟨h.1, hb.1⟩, allP_and r h.2 hb.2⟩
theorem any_getF {b : PV → Bool} {l : List PV} (h : l.any b = false) {j : Nat} {p : PV} (hp : l[j]? = some p) : b p = false := by
 rw [List.any_eq_false] at h
 have := h p (List.mem_of_getElem? hp)
 simpa using this
theorem nrm_own {B : Nat} {ow : Ow} {w : World} {σ : St} {p : PV} {v : Value} (h : Own B ow w σ p v) : Own B ow w (nrm σ) p v := by
 unfold Own at *
 split at h
 ·exact h
 ·intro z hz; exact h z ((nrm_fr _ _ _ _).1 hz)
 ·trivial
theorem InvO.nrm {F0 : Nat → Nat → Prop} {B nt : Nat} {w0 : W0} {ow : Ow} {σ : St} {a : Act} {w : World} (hI : InvO F0 B nt w0 ow σ a w) : InvO F0 B nt w0 ow (nrm σ) a w := by
 refine ⟨hI.defers, hI.size, hI.low, hI.newF, hI.below, fun t => ?_, fun b t hb => ?_, hI.uniq, hI.owB, fun l => ?_⟩
 ·have ht := hI.tms t
  generalize a.tmps.getD t undef = v at ht ⊢
  unfold Ev.nrm
  cases hp : σ (3 * t) with
  | vw t' vr z lo hi =>
   rw [hp] at ht
   simp only
   cases hq : σ (3 * t' + 1) with
   | rw v' z' xs' =>
    simp only
    cases hb : Nat.beq vr v'
    ·exact ⟨.any _, trivial⟩
    ·have hv : vr = v' := Nat.eq_of_beq_eq_true hb
     obtain ⟨h0, hh⟩ := ht
     refine ⟨h0, ?_⟩
     rcases hh with ⟨k1, k2, k3⟩ | ⟨b, N, k1, k2, k3⟩
     ·refine Or.inl ⟨k1, k2, fun xs hx => ?_⟩
      obtain ⟨v2, _, e2⟩ := nrm_rw _ _ _ _ _ hx
      have : v2 = vr := by rw [hq] at e2; cases e2; exact hv.symm
      exact k3 xs (this ▸ e2)
     ·refine Or.inr ⟨b, N, k1, k2, fun xs hx => ?_⟩
      obtain ⟨v2, _, e2⟩ := nrm_rw _ _ _ _ _ hx
      have : v2 = vr := by rw [hq] at e2; cases e2; exact hv.symm
      exact k3 xs (this ▸ e2)
   | _ => exact ⟨.any _, trivial⟩
  | el t' vr z i o => exact ⟨.any _, trivial⟩
  | rw vr z xs => rw [hp] at ht; cases ht.1
  | pt t' o => rw [hp] at ht; exact ht
  | cl f cs =>
   rw [hp] at ht
   obtain ⟨vs, e1, e2, e3⟩ := ht
   exact ⟨vs, e1, e2, fun j p u x y => RepCl.congr (e3 j p u x y)⟩
  | tu ps =>
   rw [hp] at ht
   simp only
   cases hb : ps.any PV.isV
   ·obtain ⟨vs, e1, e2, e3⟩ := ht
    refine ⟨vs, e1, e2, fun j p u x y => ?_⟩
    have h1 := any_getF hb x
    have h2 := e3 j p u x y
    cases p with
    | vw => cases h1
    | _ => exact ⟨h2.1, nrm_own h2.2⟩
   ·exact ⟨.any _, trivial⟩
  | ag cs =>
   rw [hp] at ht
   simp only
   have : Nat.beq (3 * t % 3) 1 = false := by rw [Nat.mul_mod_right]; rfl
   rw [this]
   exact ⟨ht.1, trivial⟩
  | _ => rw [hp] at ht; exact ⟨ht.1, nrm_own ht.2⟩
 ·rcases hI.boxes b t hb with ⟨cs, c, Ty, k1, k2, k3, k4⟩ | ⟨v, z, xs, N, k1, k2, k3⟩
  ·refine Or.inl ⟨_, c, Ty, nrm_ag _ _ _ k1, k2, by simpa using k3, fun j p' v hp' hv => ?_⟩
   rw [List.getElem?_map] at hp'
   cases hc : cs[j]? with
   | none => rw [hc] at hp'; cases hp'
   | some p =>
    rw [hc] at hp'
    obtain rfl : p.noV = p' := by simpa using hp'
    obtain ⟨q1, q2, q3⟩ := k4 j p v hc hv
    refine ⟨q1, noV_rep q2, ?_⟩
    cases p with
    | vw => trivial
    | el => trivial
    | _ => exact nrm_own q3
  ·exact Or.inr ⟨v % 2, z, xs, N, nrm_rw' _ _ _ _ _ k1, k2, fun e => k3 (by omega)⟩
 ·have h := hI.wf l
  have hdef : Ev.nrm σ l = Ev.nrm σ l := rfl
  conv at hdef => rhs; unfold Ev.nrm
  rw [hdef]
  cases hp : σ l with
  | vw t' vr z lo hi =>
   rw [hp] at h
   simp only
   cases hq : σ (3 * t' + 1) with
   | rw v' z' xs' =>
    simp only
    cases hb : Nat.beq vr v'
    ·trivial
    ·show tokOk (Ev.nrm σ) (.vw t' (vr % 2) z lo hi)
     simp only [tokOk, nrm_rw' _ _ _ _ _ hq]
     rw [Nat.eq_of_beq_eq_true hb]
     exact Nat.ble_eq_true_of_le (Nat.le_refl _)
   | _ => trivial
  | el t' vr z i o => trivial
  | rw vr z xs => rw [hp] at h; exact h
  | pt t' o => rw [hp] at h; exact nrm_box σ (.pt t' o) h
  | cl f cs => rw [hp] at h; exact allP_mono (nrm_box σ) _ h
  | tu ps =>
   rw [hp] at h
   simp only
   cases hb : ps.any PV.isV
   ·exact allP_mono (fun p hp => nrm_tok σ p hp.2 hp.1) _ (allP_and _ h hb)
   ·trivial
  | ag cs =>
   rw [hp] at h
   simp only
   cases hb : Nat.beq (l % 3) 1
   ·show (bif Nat.beq (l % 3) 1 then _ else True)
    rw [hb]; trivial
   ·have h' : (bif Nat.beq (l % 3) 1 then allP (tokOk σ) cs else True) := h
    show (bif Nat.beq (l % 3) 1 then allP (tokOk (Ev.nrm σ)) (cs.map PV.noV) else True)
    rw [hb] at h' ⊢
    exact allP_map (noV_tok σ) _ h'
  | sl k z xs => rw [hp] at h; exact nrm_tok σ (.sl k z xs) rfl h
  | _ => trivial
end
theorem lk_cases : ∀ (s : List (Nat × PV)) (l : Nat), lk s l = .any ∨ (l, lk s l) ∈ s
 | [], l => Or.inl rfl
 | (k, p) :: r, l => by
  show (bif Nat.beq l k then p else lk r l) = .any ∨ (l, bif Nat.beq l k then p else lk r l) ∈ _
  cases hb : Nat.beq l k
  ·rcases lk_cases r l with h | h
   ·exact Or.inl h
   ·exact Or.inr (by simp only [cond_false]; exact List.mem_cons_of_mem _ h)
  ·obtain rfl := Nat.eq_of_beq_eq_true hb
   exact Or.inr (by simp)
theorem goU_mem {σ τ : St} : ∀ {u : List (Nat × PV)} {l : Nat} {p : PV}, goU σ τ u → (l, p) ∈ u → leP l (σ l) p ∧ wf1 τ l p
 | (k, q) :: r, l, p, h, hm => by
  rcases List.mem_cons.1 hm with e | hm
  ·cases e; exact ⟨h.1, h.2.1⟩
  ·exact goU_mem h.2.2 hm
theorem goK_mem {σ σ0 τ : St} : ∀ {ks : List Nat} {l : Nat}, goK σ σ0 τ ks → l ∈ ks → σ l = σ0 l ∧ wf1 τ l (σ0 l)
 | k :: r, l, h, hm => by
  rcases List.mem_cons.1 hm with e | hm
  ·subst e; exact ⟨h.1, h.2.1⟩
  ·exact goK_mem h.2.2 hm
def cv : Ex → Exit
 | .normal => .normal
 | .exit i => .exit i
 | .ret => .ret
theorem wp_loopX {P : Program} {Q : Exit → Act → World → Prop} {c : Code} {X : Type} (I : X → Act → World → Prop) (μ : X → Nat) {x0 : X} {a : Act} {w : World} (h0 : I x0 a w)
 (round : ∀ x a w, I x a w → c.wp P (Exit.then (fun a' w' => ∃ x', I x' a' w' ∧ μ x' < μ x) Q) a w) : (Code.loop c).wp P Q a w := by
 intro b k cs
 have key : ∀ n x a w, μ x = n → I x a w → ∃ e a' w', Q e a' w' ∧ Arrives P (lone (b.at a (.code c :: .inLoop c :: k)) cs w) b k cs e a' w' := by
  intro n
  induction n using Nat.strongRecOn with
  | _ n ih =>
   intro x a w hn hI
   obtain ⟨e, a₁, w₁, hq, harr⟩ := round x a w hI b (.inLoop c :: k) cs
   cases e with
   | normal =>
    obtain ⟨x', hI₁, hlt⟩ := hq
    obtain ⟨e₂, a₂, w₂, hq₂, harr₂⟩ := ih (μ x') (hn ▸ hlt) x' a₁ w₁ rfl hI₁
    exact ⟨e₂, a₂, w₂, hq₂, .of_steps (Steps.trans harr (.one step_inLoop)) harr₂⟩
   | exit id => exact ⟨_, a₁, w₁, hq, .pass (x := .inLoop c) rfl (fun _ _ => .inl (by simp)) harr⟩
   | goto l => exact ⟨_, a₁, w₁, hq, .pass (x := .inLoop c) rfl (fun _ _ => .inl (by simp)) harr⟩
   | ret => exact ⟨_, a₁, w₁, hq, .pass (x := .inLoop c) rfl (fun _ _ => .inl (by simp)) harr⟩
   | panic ch => exact ⟨_, a₁, w₁, hq, .pass (x := .inLoop c) rfl (fun _ _ => .inl (by simp)) harr⟩
   | outgrown => exact ⟨_, a₁, w₁, hq, .pass (x := .inLoop c) rfl (fun _ _ => .inl (by simp)) harr⟩
 obtain ⟨e, a', w', hq, harr⟩ := key _ x0 a w rfl h0
 exact ⟨e, a', w', hq, .of_steps (.one step_loop) harr⟩
section
variable {P : Program} {T : Tab} {a : Act} {w : World} {F0 : Nat → Nat → Prop} {B nt : Nat} {w0 : W0} {ow : Ow} {σ τ : St}
theorem wk_inv {s s' u : List (Nat × PV)} {ks : List Nat} (hI : Inv F0 B nt w0 (lk s') a w) (hk : wk s' s u ks) : Inv F0 B nt w0 (lk (headS u ks s)) a w := by
 obtain ⟨ow, hI⟩ := hI
 refine hI.nrm.weak fun l => ?_
 rcases lk_cases (headS u ks s) l with h | h
 ·exact Or.inl h
 ·refine Or.inr ?_
  rcases List.mem_append.1 h with h | h
  ·exact goU_mem hk.1 h
  ·obtain ⟨k, hkm, e⟩ := List.mem_map.1 h
   injection e with e1 e2
   subst e1
   obtain ⟨g1, g2⟩ := goK_mem hk.2 hkm
   rw [← e2]
   exact ⟨by rw [g1]; exact leP_refl _ _, g2⟩
theorem pw_sound (hT : TabOk P T) (hm : P.follows .mixedOrders = true) : ∀ (c : Code) (Qp : Ex → List (Nat × PV) → Prop) (s : List (Nat × PV)) (a : Act) (w : World) (Q : Exit → Act → World → Prop), dstOk nt c = true → PW (PCs P) P T c Qp s → Inv F0 B nt w0 (lk s) a w →
 (∀ ex s' a' w', Qp ex s' → Inv F0 B nt w0 (lk s') a' w' → Q (cv ex) a' w') → c.wp P Q a w
 | .skip, Qp, s, a, w, Q, _, h, hI, hQ => wp_skip (hQ .normal s a w h hI)
 | .region id ops draw, Qp, s, a, w, Q, hd, h, hI, hQ => by
  refine reg_sound hT hm (fun i o ho d hod => ?_) (Qp .normal) (fun s' a' w' h hI => hQ .normal s' a' w' h hI) h hI
  have := List.all_eq_true.1 hd o (by simpa using Array.mem_of_getElem? ho)
  rw [hod] at this
  simpa using this
 | .seq x y, Qp, s, a, w, Q, hd, h, hI, hQ => by
  simp only [dstOk, Bool.and_eq_true] at hd
  refine wp_seq (pw_sound hT hm x _ s a w _ hd.1 h hI (fun ex s' a' w' h' hI' => ?_))
  cases ex with
  | normal => exact pw_sound hT hm y Qp s' a' w' Q hd.2 h' hI' hQ
  | exit i => exact hQ (.exit i) s' a' w' h' hI'
  | ret => exact hQ .ret s' a' w' h' hI'
 | .cond c x y, Qp, s, a, w, Q, hd, h, hI, hQ => by
  simp only [dstOk, Bool.and_eq_true] at hd
  obtain ⟨ow, hI0⟩ := id hI
  have key : ∀ p, RepC (FF F0 ow) w p (a.eval c) → (match p with | .s (.bool b) => (b = true → PW (PCs P) P T x Qp s) ∧ (b = false → PW (PCs P) P T y Qp s) | .tt => PW (PCs P) P T x Qp s | .ff => PW (PCs P) P T y Qp s | _ => False) → (Code.cond c x y).wp P Q a w := by
   intro p hr hp
   split at hp
   ·rename_i b
    exact wp_cond_split hr.s_eq (fun e => pw_sound hT hm x Qp s a w Q hd.1 (hp.1 e) hI hQ) (fun e => pw_sound hT hm y Qp s a w Q hd.2 (hp.2 e) hI hQ)
   ·exact wp_cond_true hr.tt_eq (pw_sound hT hm x Qp s a w Q hd.1 hp hI hQ)
   ·exact wp_cond_false hr.ff_eq (pw_sound hT hm y Qp s a w Q hd.2 hp hI hQ)
   ·exact hp.elim
  unfold PW at h
  rw [force_eq] at h
  cases c with
  | tmp t =>
   have hr := hI0.tms t
   have h' := h
   simp only [] at h'
   refine key (lk s (3 * t)) (hr.rep ?_) h'
   cases hq : lk s (3 * t) <;> first | rfl | (rw [hq] at h'; exact h'.elim)
  | const v => exact key (constPV v) ((constPV_rep (F0 := F0) (B := B) (ow := ow) (w := w) (σ := lk s) v).1.rep (by cases hq : constPV v <;> first | rfl | (simp only [hq] at h))) h
  | global g => exact h.elim
  | func f => exact h.elim
 | .block id c, Qp, s, a, w, Q, hd, h, hI, hQ => by
  refine wp_block (pw_sound hT hm c _ s a w _ hd h hI (fun ex s' a' w' h' hI' => ?_))
  cases ex with
  | normal => exact hQ .normal s' a' w' h' hI'
  | exit i =>
   show (if i = id then Q .normal a' w' else Q (.exit i) a' w')
   by_cases hi : i = id
   ·rw [if_pos hi]
    have : Nat.beq i id = true := by rw [hi]; exact Nat.beq_refl id
    simp only [this, cond_true] at h'
    exact hQ .normal s' a' w' h' hI'
   ·rw [if_neg hi]
    have : Nat.beq i id = false := by rw [Bool.eq_false_iff]; intro e; exact hi (Nat.eq_of_beq_eq_true e)
    simp only [this, cond_false] at h'
    exact hQ (.exit i) s' a' w' h' hI'
  | ret => exact hQ .ret s' a' w' h' hI'
 | .loop c, Qp, s, a, w, Q, hd, h, hI, hQ => by
  obtain ⟨X, C, u, ks, μ, x0, hC0, hk0, hround⟩ := h
  refine wp_loopX (I := fun x a w => C x ∧ Inv F0 B nt w0 (lk (headS (u x) ks s)) a w) μ (x0 := x0) ⟨hC0, wk_inv hI hk0⟩ (fun x a w ⟨hC, hI⟩ => ?_)
  refine pw_sound hT hm c _ _ a w _ hd (hround x hC) hI (fun ex s' a' w' h' hI' => ?_)
  cases ex with
  | normal =>
   obtain ⟨x', g1, g2, g3⟩ := h'
   exact ⟨x', ⟨g1, wk_inv hI' g3⟩, g2⟩
  | exit i => exact hQ (.exit i) s' a' w' h' hI'
  | ret => exact hQ .ret s' a' w' h' hI'
 | .exit id, Qp, s, a, w, Q, _, h, hI, hQ => wp_exit (hQ (.exit id) s a w h hI)
 | .ret, Qp, s, a, w, Q, _, h, hI, hQ => wp_ret (hQ .ret s a w h hI)
 | .rangeFunc .., _, _, _, _, _, _, h, _, _ => h.elim
 | .scope _, _, _, _, _, _, _, h, _, _ => h.elim
 | .label _, _, _, _, _, _, _, h, _, _ => h.elim
 | .goto _, _, _, _, _, _, _, h, _, _ => h.elim
 | .refuse _, _, _, _, _, _, _, h, _, _ => h.elim
def RepO (F0 : Nat → Nat → Prop) (B : Nat) (ow : Ow) (w : World) (σ : St) : List PV → List Value → Prop
 | [], [] => True
 | p :: ps, v :: vs => RepT F0 B ow w σ p v ∧ RepO F0 B ow w σ ps vs
 | _, _ => False
def outV (tmps : Array Value) : ResultVar → Sem Value
 | .tmp t => pure (tmps.getD t undef)
 | .cell c t => do loadVar t (← asAddr (tmps.getD c undef))
theorem results_eq (fn : Func) (tmps : Array Value) : results fn tmps = (do let vs ← fn.results.mapM (outV tmps); pure (if h : vs.size = 1 then vs[0] else .tuple vs)) := by
 unfold results
 congr 1
theorem repCl_of {p : PV} {v : Value} (h : RepC (FF F0 ow) w p v) : RepCl F0 ow w σ p v := by
 cases p with
 | pt => cases h
 | _ => exact h
theorem out_sound {PC : Orc} (hT : TabOk P T) (hI : InvO F0 B nt w0 ow σ a w) : ∀ (rs : List ResultVar) (k : List PV → AM) (K : List Nat → List (Nat × PV) → Prop), (outA T rs k).run PC σ K →
 ∃ ps vs R0, RepO F0 B ow w σ ps vs ∧ (rs.mapM (outV a.tmps) : Sem (List Value)).run P w = .ok vs w ∧ (k ps).run PC σ fun R ws => K (R0 ++ R) ws
 | [], k, K, h => ⟨[], [], [], trivial, rfl, h⟩
 | .tmp t :: r, k, K, h => by
  simp only [outA, AM.run, force_eq] at h
  obtain ⟨ps, vs, R0, h1, h2, h3⟩ := out_sound hT hI r _ _ h
  refine ⟨_ :: ps, a.tmps.getD t undef :: vs, 3 * t :: R0, ⟨hI.tms t, h1⟩, ?_, h3⟩
  rw [List.mapM_cons]
  simp only [outV, Sem.run_bind, Sem.run_pure, Result.andThen_ok, h2]
 | .cell c t :: r, k, K, h => by
  simp only [outA, AM.run, force_eq] at h
  split at h
  ·rename_i i b ht hp
   have hti := hT _ _ ht
   have hr := hI.tms c
   rw [hp] at hr
   obtain ⟨g, g1, g2⟩ := hr
   simp only [AM.run, force_eq] at h
   split at h
   rotate_left
   ·exact h.elim
   rename_i cs b1
   obtain ⟨cs', cc, Ty, b1', b2, b3, b4⟩ := (hI.boxes g b g1).box b1
   rw [b1] at b1'
   cases b1'
   have hcell : ∀ j v, cc[j]? = some v → w.cell? ⟨g, j, none⟩ = some v := fun j v hv => (cell_of_row w g j cc Ty (0, 0) b2).trans hv
   cases hl : Nat.beq cs.length i.size
   ·rw [hl] at h; exact h.elim
   rw [hl] at h
   simp only [cond_true] at h
   have hl' := Nat.eq_of_beq_eq_true hl
   have hld : ∀ v, (Instr.loadAt t (.pointer (some ⟨g, 0, none⟩))).run P w = .ok v w → (do loadVar t (← asAddr (a.tmps.getD c undef)) : Sem Value).run P w = .ok v w := fun v hv => by
    rw [g2]
    simpa [Instr.loadAt, Instr.sureAddr, asAddr] using hv
   cases hag : i.agg
   ·rw [hag] at h
    simp only [cond_false] at h
    split at h
    ·rename_i c0
     obtain ⟨ps, vs, R0, h1, h2, h3⟩ := out_sound hT hI r _ _ h
     have hc1 : cc.size = 1 := by simpa using b3.symm
     have hv : cc[0]? = some cc[0] := Array.getElem?_eq_getElem (by omega)
     obtain ⟨o1, o2, o3⟩ := b4 0 c0 _ rfl hv
     refine ⟨c0 :: ps, cc[0] :: vs, 3 * c :: (3 * b + 1) :: R0, ⟨?_, h1⟩, ?_, h3⟩
     ·cases c0 with
      | pt t o => cases o2
      | vw => cases o2
      | el => cases o2
      | tu q =>
       generalize hvv : cc[0] = v at o1 o2
       cases o2
       simp [Value.oneCell'] at o1
      | cl f q =>
       generalize cc[0] = v at o2
       cases o2 with
       | cl f q vs hl h => exact ⟨vs, rfl, hl, fun j p u x y => repCl_of (h j p u x y)⟩
      | _ => exact ⟨o2, o3⟩
     ·rw [List.mapM_cons]
      simp only [outV, Sem.run_bind, hld _ (loadVar_sc hti hag g 0 _ (hcell 0 _ hv)), Result.andThen_ok, h2]
      rfl
    ·exact h.elim
   ·rw [hag] at h
    simp only [cond_true] at h
    obtain ⟨ps, vs, R0, h1, h2, h3⟩ := out_sound hT hI r _ _ h
    refine ⟨.ag (cs.map PV.ro) :: ps, .agg cc :: vs, 3 * c :: (3 * b + 1) :: R0, ⟨⟨.ag _ _ (by simp [b3]) (fun v hv => ?_) (fun j p v hp hv => ?_), trivial⟩, h1⟩, ?_, h3⟩
    ·obtain ⟨j, hj, hjv⟩ := List.getElem_of_mem hv
     have hj' : j < cs.length := by rw [b3]; simpa using hj
     exact (b4 j cs[j] v (List.getElem?_eq_getElem hj') (by rw [← hjv]; simp)).1
    ·rw [List.getElem?_map] at hp
     obtain ⟨q, hq, rfl⟩ := Option.map_eq_some_iff.1 hp
     exact (b4 j q v hq hv).2.1.ro
    ·rw [List.mapM_cons]
     have := loadVar_agg hti hag g 0 cc.toList (by simp; omega) (fun j v hv => by rw [Nat.zero_add]; exact hcell j v (by simpa using hv))
     simp only [outV, Sem.run_bind, hld _ this, Result.andThen_ok, h2]
     rfl
  ·exact h.elim
def owR (tk : Option Nat) (ow : Ow) : Ow := fun b => match ow b with
 | some (c, l) => if c % 2 = 1 then some (1, l) else if tk = some (c / 2) then some (0, l) else none
 | none => none
theorem owR_row {tk : Option Nat} {b k l : Nat} (h : ow b = some (2 * k + 1, l)) : owR tk ow b = some (1, l) := by
 unfold owR
 rw [h]
 exact if_pos (by omega)
theorem owR_tok {t b l : Nat} (h : ow b = some (2 * t, l)) : owR (some t) ow b = some (0, l) := by
 unfold owR
 rw [h]
 show (if 2 * t % 2 = 1 then some (1, l) else if some t = some (2 * t / 2) then some (0, l) else none) = _
 rw [if_neg (by omega), if_pos (by rw [show 2 * t / 2 = t by omega])]
theorem owR_back {tk : Option Nat} {b c l : Nat} (h : owR tk ow b = some (c, l)) : ∃ c', ow b = some (c', l) ∧ c < 2 ∧ (c = 0 → ∃ t, tk = some t ∧ c' = 2 * t) ∧ (c = 1 → c' % 2 = 1) := by
 unfold owR at h
 cases hb : ow b with
 | none => rw [hb] at h; cases h
 | some x =>
  obtain ⟨c', l'⟩ := x
  rw [hb] at h
  simp only at h
  split at h
  ·cases h
   exact ⟨c', rfl, by omega, (fun e => by cases e), fun _ => by assumption⟩
  ·split at h
   ·rename_i h1 h2
    cases h
    exact ⟨c', rfl, by omega, fun _ => ⟨c' / 2, h2, by omega⟩, fun e => by cases e⟩
   ·cases h
theorem owR_FF {tk : Option Nat} {p : PV} {v : Value} (h : RepC (FF F0 ow) w p v) : RepC (FF F0 (owR tk ow)) w p v := h.mono fun b o u hc hf => ⟨hc, hf.1, fun c l hl => by
 obtain ⟨c', h1, h2, h3, h4⟩ := owR_back hl
 obtain ⟨k1, k2⟩ := hf.2 c' l h1
 refine ⟨?_, k2⟩
 match c, h2, h3 with
 | 0, _, h3 => obtain ⟨t, _, e⟩ := h3 rfl; omega
 | 1, _, _ => rfl⟩
theorem okR_own {tk : Option Nat} {p r : PV} {v : Value} (h : RepT F0 B ow w σ p v) (hk : okR σ p r) : RepC (FF F0 (owR tk ow)) w r v ∧ OwnR (owR tk ow) w B r v := by
 cases r with
 | sl k' z' xs' =>
  cases p with
  | sl k z xs =>
   obtain ⟨rfl, e2, e3⟩ := hk
   refine ⟨owR_FF ?_, ?_⟩
   ·have hk1 : k' = 1 → k = 1 := fun e => by subst e; exact e3
    rcases e2 with rfl | rfl
    ·exact h.1.sl_of hk1
    ·exact h.1.sl_z hk1
   ·match k' with
    | 0 => trivial
    | 1 => obtain rfl : k = 1 := e3; exact h.2
    | m + 2 =>
     rcases e3 with rfl | e3
     ·exact Or.inl h.2
     ·match k with
      | 0 => exact e3.elim
      | 1 => exact e3.elim
      | j + 2 =>
       rcases h.2 m e3 with h | ⟨e, cells, h1, h2⟩
       ·exact Or.inl h
       ·exact Or.inr ⟨e, cells, h1, fun g hg => owR_row (h2 g hg)⟩
  | _ => exact hk.elim
 | any => exact ⟨.any _, trivial⟩
 | tu ps => exact hk.elim
 | pt t o => exact hk.elim
 | fr n z => exact hk.elim
 | vw => exact hk.elim
 | el => exact hk.elim
 | cl => exact hk.elim
 | _ =>
  have hne : isT p = false := by cases p <;> first | rfl | cases hk
  exact ⟨owR_FF (nb_rep (h.rep hne) hk), trivial⟩
def HeadR (F0 : Nat → Nat → Prop) (B : Nat) (ow : Ow) (w : World) (σ : St) (tk : Option Nat) : List PV → List Value → Prop
 | [], [] => True
 | p :: ps, v :: vs => ((∃ z xs, p = .xo z xs ∧ XoR F0 (owR tk ow) w z xs v) ∨ (tk = none ∧ RepT F0 B ow w σ p v)) ∧ RepO F0 B ow w σ ps vs
 | _, _ => False
theorem HeadR.of {ps : List PV} {vs : List Value} (h : RepO F0 B ow w σ ps vs) : HeadR F0 B ow w σ none ps vs := by
 cases ps with
 | nil => cases vs with
  | nil => trivial
  | cons => exact h.elim
 | cons p ps => cases vs with
  | nil => exact h.elim
  | cons v vs => exact ⟨Or.inr ⟨rfl, h.1⟩, h.2⟩
theorem outX_sound {PC : Orc} (hI : InvO F0 B nt w0 ow σ a w) {ps : List PV} {vs : List Value} (h : RepO F0 B ow w σ ps vs) {k : List PV → AM} {K : List Nat → List (Nat × PV) → Prop} (hk : (outX ps k).run PC σ K) :
 ∃ tk qs R0, HeadR F0 B ow w σ tk qs vs ∧ (k qs).run PC σ fun R ws => K (R0 ++ R) ws := by
 unfold outX at hk
 split at hk
 ·rename_i t v z lo hi r
  cases vs with
  | nil => exact h.elim
  | cons u vs =>
   simp only [curRw, AM.run, force_eq] at hk
   split at hk
   rotate_left
   ·exact hk.elim
   rename_i v' z' xs hs
   cases hb : (Nat.beq v v' && Nat.beq z z')
   ·rw [hb] at hk; exact hk.elim
   rw [hb] at hk
   simp only [Bool.and_eq_true] at hb
   obtain rfl := Nat.eq_of_beq_eq_true hb.1
   obtain rfl := Nat.eq_of_beq_eq_true hb.2
   simp only [cond_true] at hk
   cases hlo : Nat.beq lo 0
   ·rw [hlo] at hk; exact hk.elim
   rw [hlo] at hk
   obtain rfl := Nat.eq_of_beq_eq_true hlo
   obtain ⟨q, hq, hk⟩ := hk
   obtain rfl := Option.some.inj hq
   obtain ⟨h0, h1, hh⟩ := view_cur hI h.1 hs
   have hz := rw_pos hI hs
   rcases hh with ⟨e1, e2, A, rfl⟩ | ⟨b, N, g1, rfl, g2, g3⟩
   ·refine ⟨none, .xo z (xs.take hi) :: r, [3 * t + 1], ⟨Or.inl ⟨z, _, rfl, hz, Or.inl ⟨by rw [← e1]; simp, ⟨A, rfl⟩, fun b hb => ?_⟩⟩, h.2⟩, hk⟩
    obtain ⟨c', _, _, h3, _⟩ := owR_back hb
    obtain ⟨t', e, _⟩ := h3 rfl
    cases e
   ·refine ⟨some t, .xo z (xs.take hi) :: r, [3 * t + 1], ⟨Or.inl ⟨z, _, rfl, hz, Or.inr ⟨b, N, owR_tok g1, ?_, ?_⟩⟩, h.2⟩, hk⟩
    ·rw [List.length_take, Nat.min_eq_left h1]; simp
    ·obtain ⟨cur, e, k1, k2, k3, k4, k5, k6⟩ := g3
     refine ⟨cur, e, k1, k2, k3, by rw [List.length_take]; omega, fun x hx => k5 x (List.mem_of_mem_take hx), fun i j x p u hx hp hu => ?_⟩
     have hx' : xs[i]? = some x := by
      rw [List.getElem?_take] at hx
      split at hx
      ·exact hx
      ·cases hx
     exact (k6 i j x p u hx' hp hu).map (fun p v => owR_FF) fun g q hg => ⟨owR_tok hg, rfl⟩
 ·exact ⟨none, ps, [], .of h, hk⟩
theorem head_res {tk : Option Nat} {p r : PV} {v : Value} (h : (∃ z xs, p = .xo z xs ∧ XoR F0 (owR tk ow) w z xs v) ∨ (tk = none ∧ RepT F0 B ow w σ p v)) (hk : okR0 σ p r) : ResE F0 B (owR tk ow) w r v := by
 rcases h with ⟨z, xs, rfl, h⟩ | ⟨rfl, h⟩
 ·cases r with
  | xo z' xs' =>
   have e : PV.xo z xs = .xo z' xs' := hk
   cases e
   exact h
  | any => exact ⟨.any _, trivial⟩
  | sl => exact hk.elim
  | tu => exact hk.elim
  | pt => exact hk.elim
  | fr => exact hk.elim
  | vw => exact hk.elim
  | el => exact hk.elim
  | cl => exact hk.elim
  | _ => cases hk
 ·cases r with
  | xo z' xs' =>
   unfold okR0 at hk
   simp only at hk
   split at hk
   ·obtain ⟨rfl, rfl, rfl, hz⟩ := hk
    obtain ⟨A, rfl⟩ := h.1.full
    refine ⟨hz, Or.inl ⟨rfl, ⟨A, rfl⟩, fun b hb => ?_⟩⟩
    obtain ⟨c', _, _, h3, _⟩ := owR_back hb
    obtain ⟨t', e, _⟩ := h3 rfl
    cases e
   ·subst hk; cases h.1
  | _ => exact okR_own (tk := none) h hk
theorem lk_args_slot : ∀ (args : List PV) (i t : Nat), lk (argS i args) (3 * t) = if i ≤ t then ((args[t - i]?).map (argV t)).getD .any else .any
 | [], i, t => by simp [argS, lk]
 | p :: r, i, t => by
  show (bif Nat.beq (3 * t) (3 * i) then argV i p else lk (argS (i + 1) r) (3 * t)) = _
  by_cases h : t = i
  ·subst h; simp
  ·have : Nat.beq (3 * t) (3 * i) = false := by rw [Bool.eq_false_iff]; intro e; have := Nat.eq_of_beq_eq_true e; omega
   rw [this, cond_false, lk_args_slot r (i + 1) t]
   by_cases hi : i ≤ t
   ·rw [if_pos (by omega), if_pos hi, show t - i = (t - (i + 1)) + 1 by omega]; simp
   ·rw [if_neg (by omega), if_neg hi]
theorem lk_args_no : ∀ (args : List PV) (i l : Nat), l % 3 ≠ 0 → lk (argS i args) l = .any
 | [], i, l, _ => rfl
 | p :: r, i, l, h => by
  show (bif Nat.beq l (3 * i) then argV i p else lk (argS (i + 1) r) l) = _
  have : Nat.beq l (3 * i) = false := by rw [Bool.eq_false_iff]; intro e; have := Nat.eq_of_beq_eq_true e; omega
  rw [this, cond_false, lk_args_no r (i + 1) l h]
def tokV (p : PV) : PV := match p with | .xo z xs => .rw 0 z xs | _ => .any
theorem ap_any (ws : List (Nat × PV)) (σ : St) (l : Nat) : (lk ws l = .any → ∀ p, (l, p) ∈ ws → p = .any) → (∀ p, (l, p) ∉ ws) → ap ws σ l = σ l := by
 intro _ h
 induction ws with
 | nil => rfl
 | cons x r ih =>
  obtain ⟨k, p⟩ := x
  have hne : l ≠ k := fun e => by subst e; exact h p (by simp)
  rw [ap_ne p r σ hne]
  exact ih (fun _ p hp => (h p (by simp [hp])).elim) (fun p hp => h p (by simp [hp]))
theorem argT_mem : ∀ (args : List PV) (i l : Nat) (p : PV), (l, p) ∈ argT i args → ∃ j q, l = 3 * (i + j) + 1 ∧ args[j]? = some q ∧ p = tokV q
 | [], i, l, p, h => by cases h
 | q :: r, i, l, p, h => by
  have rec' : (l, p) ∈ argT (i + 1) r → ∃ j q', l = 3 * (i + j) + 1 ∧ (q :: r)[j]? = some q' ∧ p = tokV q' := fun h => by
   obtain ⟨j, q', h1, h2, h3⟩ := argT_mem r (i + 1) l p h
   exact ⟨j + 1, q', by omega, by simpa using h2, h3⟩
  cases q with
  | xo z xs =>
   rcases List.mem_cons.1 h with e | h
   ·cases e
    exact ⟨0, _, rfl, rfl, rfl⟩
   ·exact rec' h
  | _ => exact rec' h
theorem ap_argT : ∀ (args : List PV) (i j : Nat) (σ : St), σ (3 * (i + j) + 1) = .any → ap (argT i args) σ (3 * (i + j) + 1) = ((args[j]?).map tokV).getD .any
 | [], i, j, σ, h => h
 | p :: r, i, 0, σ, h => by
  have hn : ap (argT (i + 1) r) σ (3 * (i + 0) + 1) = .any := by
   rw [ap_any _ _ _ (fun _ p hp => ?_) (fun p hp => ?_), h]
   all_goals
    obtain ⟨j', q', h1, _⟩ := argT_mem r (i + 1) _ _ hp
    omega
  cases p with
  | xo z xs => exact ap_self _ _ _ _
  | _ => exact hn
 | p :: r, i, j + 1, σ, h => by
  have hn := ap_argT r (i + 1) j σ (by rw [show i + 1 + j = i + (j + 1) by omega]; exact h)
  rw [show i + 1 + j = i + (j + 1) by omega] at hn
  simp only [List.getElem?_cons_succ]
  rw [← hn]
  cases p with
  | xo z xs => exact ap_ne _ _ _ (by omega)
  | _ => rfl
theorem st0_slot (args : List PV) (t : Nat) : lk (argT 0 args ++ argS 0 args) (3 * t) = ((args[t]?).map (argV t)).getD .any := by
 rw [lk_append, ap_any, lk_args_slot, if_pos (Nat.zero_le _), Nat.sub_zero]
 ·intro _ p hp; obtain ⟨j, q, h1, _⟩ := argT_mem _ _ _ _ hp; omega
 ·intro p hp; obtain ⟨j, q, h1, _⟩ := argT_mem _ _ _ _ hp; omega
theorem st0_tok (args : List PV) (t : Nat) : lk (argT 0 args ++ argS 0 args) (3 * t + 1) = ((args[t]?).map tokV).getD .any := by
 rw [lk_append]
 have := ap_argT args 0 t (lk (argS 0 args)) (lk_args_no _ _ _ (by omega))
 rw [Nat.zero_add] at this
 exact this
theorem st0_fr (args : List PV) (t : Nat) : lk (argT 0 args ++ argS 0 args) (3 * t + 2) = .any := by
 rw [lk_append, ap_any, lk_args_no _ _ _ (by omega)]
 ·intro _ p hp; obtain ⟨j, q, h1, _⟩ := argT_mem _ _ _ _ hp; omega
 ·intro p hp; obtain ⟨j, q, h1, _⟩ := argT_mem _ _ _ _ hp; omega
def ow0 : Nat → List (Option Nat) → Ow
 | _, [] => fun _ => none
 | i, some g :: r => fun b => if b = g then some (2 * i, 0) else ow0 (i + 1) r b
 | i, none :: r => ow0 (i + 1) r
theorem ow0_back : ∀ (bs : List (Option Nat)) (i b c l : Nat), ow0 i bs b = some (c, l) → l = 0 ∧ ∃ j, c = 2 * (i + j) ∧ bs[j]? = some (some b)
 | [], i, b, c, l, h => by cases h
 | some g :: r, i, b, c, l, h => by
  have h' : (if b = g then some (2 * i, 0) else ow0 (i + 1) r b) = some (c, l) := h
  split at h'
  ·rename_i e
   cases h'
   exact ⟨rfl, 0, rfl, by rw [e]; rfl⟩
  ·obtain ⟨h1, j, h2, h3⟩ := ow0_back r (i + 1) b c l h'
   exact ⟨h1, j + 1, by omega, by simpa using h3⟩
 | none :: r, i, b, c, l, h => by
  obtain ⟨h1, j, h2, h3⟩ := ow0_back r (i + 1) b c l h
  exact ⟨h1, j + 1, by omega, by simpa using h3⟩
theorem ow0_get : ∀ (bs : List (Option Nat)) (i j g : Nat), (bs.filterMap id).Nodup → bs[j]? = some (some g) → ow0 i bs g = some (2 * (i + j), 0)
 | some g' :: r, i, 0, g, hn, h => by
  obtain rfl : g' = g := by simpa using h
  exact if_pos rfl
 | none :: r, i, 0, g, hn, h => by simp at h
 | some g' :: r, i, j + 1, g, hn, h => by
  have h' : r[j]? = some (some g) := by simpa using h
  have hne : g ≠ g' := fun e => by
   subst e
   simp only [List.filterMap_cons, id, List.nodup_cons] at hn
   exact hn.1 (List.mem_filterMap.2 ⟨some g, List.mem_of_getElem? h', rfl⟩)
  simp only [List.filterMap_cons, id, List.nodup_cons] at hn
  have := ow0_get r (i + 1) j g hn.2 h'
  show (if g = g' then some (2 * i, 0) else ow0 (i + 1) r g) = _
  rw [if_neg hne, this, show i + 1 + j = i + (j + 1) by omega]
 | none :: r, i, j + 1, g, hn, h => by
  have h' : r[j]? = some (some g) := by simpa using h
  have := ow0_get r (i + 1) j g hn h'
  show ow0 (i + 1) r g = _
  rw [this, show i + 1 + j = i + (j + 1) by omega]
theorem repG_get {F : Nat → Nat → Prop} : ∀ {args : List PV} {vs : List Value} {bs : List (Option Nat)}, RepG F w args vs bs → args.length = vs.length ∧ bs.length = args.length ∧ ∀ (t : Nat) (p : PV), args[t]? = some p → ∃ v b, vs[t]? = some v ∧ bs[t]? = some b ∧ ArgAt F w p v b
 | [], [], [], _ => ⟨rfl, rfl, fun t p h => by simp at h⟩
 | p :: ps, v :: vs, b :: bs, h => by
  obtain ⟨h1, h3, h2⟩ := repG_get h.2
  refine ⟨by simp [h1], by simp [h3], fun t q hq => ?_⟩
  cases t with
  | zero => simp at hq; subst hq; exact ⟨v, b, rfl, rfl, h.1⟩
  | succ t => simpa using h2 t q (by simpa using hq)
 | [], _ :: _, _, h => h.elim
 | _ :: _, [], _, h => h.elim
 | [], [], _ :: _, h => h.elim
 | _ :: _, _ :: _, [], h => h.elim
theorem argP_plain {p : PV} (h : argP p = true) : plainP p = true ∨ (∃ f cs, p = .cl f cs ∧ cs.all (fun c => match c with | .rp _ => true | .s _ => true | .sl 0 _ _ => true | _ => false) = true) ∨ ∃ z xs, p = .xo z xs := by
 cases p with
 | sl k z xs => cases k with
  | zero => exact Or.inl rfl
  | succ k => simp [argP] at h
 | cl f cs => exact Or.inr (Or.inl ⟨f, cs, rfl, h⟩)
 | xo z xs => exact Or.inr (Or.inr ⟨z, xs, rfl⟩)
 | _ => first | exact Or.inl rfl | simp [argP] at h
theorem argAt_plain {F : Nat → Nat → Prop} {p : PV} {v : Value} {b : Option Nat} (h : ArgAt F w p v b) (hp : ∀ z xs, p ≠ .xo z xs) : b = none ∧ RepC F w p v := by
 cases p with
 | xo z xs => exact absurd rfl (hp z xs)
 | _ => exact h
theorem st0_inv {args : List PV} {vs : List Value} {bs : List (Option Nat)} {F : Nat → Nat → Prop} {n : Nat} (hl : args.length ≤ n) (ha : args.all argP = true) (hvs : RepG F w args vs bs) (hnd : (bs.filterMap id).Nodup) :
 InvO (fun b o => F b o ∨ w.heap.size ≤ b ∨ some b ∈ bs) w.heap.size n ⟨w, fun b => some b ∈ bs⟩ (ow0 0 bs) (lk (argT 0 args ++ argS 0 args)) { tmps := vs.toArray ++ Array.replicate (n - vs.toArray.size) undef, defers := [] } w := by
 obtain ⟨hlen, hlenb, hget⟩ := repG_get hvs
 have hargs : ∀ p ∈ args, argP p = true := fun p hp => List.all_eq_true.1 ha p hp
 have hgiv : ∀ (t g : Nat), bs[t]? = some (some g) → ∃ z xs v, args[t]? = some (.xo z xs) ∧ GivenAt F w z xs v (some g) := fun t g hg => by
  have ht : t < args.length := by have := (List.getElem?_eq_some_iff.1 hg).1; omega
  obtain ⟨v, b, h1, h2, h3⟩ := hget t _ (List.getElem?_eq_getElem ht)
  rw [hg] at h2
  obtain rfl := Option.some.inj h2
  have he := List.getElem?_eq_getElem ht
  generalize args[t] = p at h3 he
  cases p with
  | xo z xs => exact ⟨z, xs, v, he, h3⟩
  | _ => exact absurd h3.1 (by simp)
 have hnF : ∀ (t g : Nat), bs[t]? = some (some g) → g < w.heap.size ∧ ∀ o, ¬ F g o := fun t g hg => by
  obtain ⟨z, xs, v, _, _, h⟩ := hgiv t g hg
  rcases h with ⟨_, h, _⟩ | ⟨g', N, h1, h2, h3, cur, e, h4, _⟩
  ·cases h
  ·cases h1; exact ⟨(Array.getElem?_eq_some_iff.1 h4).1, h3⟩
 have hrep : ∀ p v, RepC F w p v → RepC (FF (fun b o => F b o ∨ w.heap.size ≤ b ∨ some b ∈ bs) (ow0 0 bs)) w p v := fun p v hr => hr.mono fun b o u hc hf => ⟨hc, Or.inl hf, fun c l e => by
  obtain ⟨_, j, _, hj⟩ := ow0_back _ _ _ _ _ e
  exact absurd hf ((hnF j b hj).2 o)⟩
 have hslot : ∀ t p, args[t]? = some p → lk (argT 0 args ++ argS 0 args) (3 * t) = argV t p := fun t p h => by rw [st0_slot, h]; rfl
 have htok : ∀ t z xs, args[t]? = some (.xo z xs) → lk (argT 0 args ++ argS 0 args) (3 * t + 1) = .rw 0 z xs := fun t z xs h => by rw [st0_tok, h]; rfl
 refine ⟨rfl, by simp; omega, Nat.le_refl _, fun b o hb => Or.inr hb, ⟨rfl, rfl, rfl, Nat.le_refl _, fun _ _ _ => rfl⟩, fun t => ?_, fun b t hb => ?_, fun b b' t h h' => ?_, fun b c l h => ?_, fun l => ?_⟩
 ·cases hq : args[t]? with
  | none => rw [st0_slot, hq]; exact ⟨.any _, trivial⟩
  | some p =>
   obtain ⟨v, b, hv, hb, hr⟩ := hget t p hq
   have hvt : (vs.toArray ++ Array.replicate (n - vs.toArray.size) undef).getD t undef = v := by
    have ht : t < vs.length := (List.getElem?_eq_some_iff.1 hv).1
    rw [Array.getD_eq_getD_getElem?, Array.getElem?_append_left (by simpa using ht)]
    simp [hv]
   rw [hslot t p hq, show ({ tmps := vs.toArray ++ Array.replicate (n - vs.toArray.size) undef, defers := [] } : Act).tmps.getD t undef = v from hvt]
   rcases argP_plain (hargs p (List.mem_of_getElem? hq)) with hp | ⟨f, cs, rfl, hcs⟩ | ⟨z, xs, rfl⟩
   ·have hne : ∀ z xs, p ≠ .xo z xs := fun z xs e => by subst e; cases hp
    have he : argV t p = p := by cases p <;> first | rfl | exact absurd rfl (hne _ _)
    rw [he]
    exact .of_plain hp (hrep _ _ (argAt_plain hr hne).2)
   ·have hr2 : RepC F w (.cl f cs) v := hr.2
    cases hr2 with
    | cl f cs vs hl h => exact ⟨vs, rfl, hl, fun j p u x y => repCl_of (hrep _ _ (h j p u x y))⟩
   ·obtain ⟨hz, h⟩ := hr
    refine ⟨Nat.zero_le _, ?_⟩
    rcases h with ⟨rfl, rfl, A, rfl⟩ | ⟨g, N, rfl, rfl, h3, h4⟩
    ·refine Or.inl ⟨rfl, ⟨A, rfl⟩, fun xs' hx => ⟨?_, fun b' hb' => ?_⟩⟩
     ·rw [htok t _ _ hq] at hx; cases hx; rfl
     ·obtain ⟨_, j, hj, hj2⟩ := ow0_back _ _ _ _ _ hb'
      rw [show j = t by omega, hb] at hj2
      cases hj2
    ·refine Or.inr ⟨g, N, ?_, by simp, fun xs' hx => ?_⟩
     ·obtain ⟨_, _, _, _, _, h, _⟩ := h4; exact h
     ·rw [htok t _ _ hq] at hx
      cases hx
      have := ow0_get bs 0 t g hnd hb
      rw [Nat.zero_add] at this
      obtain ⟨cur, e, k1, _, k3, _⟩ := h4
      exact ⟨this, Nat.le_refl _, cur, e, k1, k3⟩
 ·obtain ⟨_, j, hj, hj2⟩ := ow0_back _ _ _ _ _ hb
  obtain rfl : j = t := by omega
  obtain ⟨z, xs, v, h1, _, h⟩ := hgiv j b hj2
  rcases h with ⟨_, h, _⟩ | ⟨g, N, h2, h3, h4, h5⟩
  ·cases h
  ·cases h2
   refine Or.inr ⟨0, z, xs, N, htok j _ _ h1, h5.map rfl fun q p u hh => ?_, fun e => absurd e (by decide)⟩
   exact CellX.of ⟨hrep _ _ hh.1, trivial, hh.2.2⟩
 ·obtain ⟨_, j, hj, hj2⟩ := ow0_back _ _ _ _ _ h
  obtain ⟨_, j', hj', hj2'⟩ := ow0_back _ _ _ _ _ h'
  obtain rfl : j = j' := by omega
  rw [hj2] at hj2'
  exact Option.some.inj (Option.some.inj hj2')
 ·obtain ⟨_, j, hj, hj2⟩ := ow0_back _ _ _ _ _ h
  exact ⟨Or.inr (List.mem_of_getElem? hj2), (hnF j b hj2).1⟩
 ·have : l = 3 * (l / 3) ∨ l = 3 * (l / 3) + 1 ∨ l = 3 * (l / 3) + 2 := by omega
  rcases this with e | e | e
  ·rw [e]
   refine wf1_slot ?_
   cases hq : args[l / 3]? with
   | none => rw [st0_slot, hq]; trivial
   | some p =>
    rw [hslot _ p hq]
    rcases argP_plain (hargs p (List.mem_of_getElem? hq)) with hp | ⟨f, cs, rfl, hcs⟩ | ⟨z, xs, rfl⟩
    ·have hne : ∀ z xs, p ≠ .xo z xs := fun z xs e => by subst e; cases hp
     have he : argV (l / 3) p = p := by cases p <;> first | rfl | exact absurd rfl (hne _ _)
     rw [he]
     exact wfT_plain hp
    ·show allP (boxOk _) cs
     refine allP_of fun p hp => ?_
     have := List.all_eq_true.1 hcs p hp
     cases p with
     | pt => cases this
     | _ => trivial
    ·show tokOk _ (.vw (l / 3) 0 z 0 xs.length)
     simp only [tokOk, htok _ _ _ hq]
     rfl
  ·rw [e, st0_tok]
   cases hq : args[l / 3]? with
   | none => trivial
   | some p =>
    cases p with
    | xo z xs =>
     obtain ⟨v, b, _, _, hr⟩ := hget _ _ hq
     exact hr.1
    | _ => trivial
  ·rw [e, st0_fr]; trivial
theorem InvO.tellAll {nt : Nat} {w0 : W0} {σ : St} {a : Act} {w : World} (hI : InvO F0 B nt w0 ow σ a w) {t z hi : Nat} {xs : List PV} (hs : σ (3 * t + 1) = .rw 0 z xs) {v : Value} (hv : RepV ow w σ (.vw t 0 z 0 hi) v) (htn : t < nt) (hav : a.tmps.getD t undef = v) :
 ∃ J : List PV, (∀ y ∈ J, y.cells = List.replicate z .any) ∧ InvO F0 B nt w0 ow (ap [(3 * t, .vw t 1 z 0 hi)] (ap [(3 * t + 1, .rw 1 z (xs ++ J))] σ)) a w := by
 obtain ⟨h0, h1, hvw⟩ := view_cur hI hv hs
 have hz := rw_pos hI hs
 obtain ⟨k, hkN, hkno⟩ : ∃ k : Nat, (∀ g N, ow g = some (2 * t, 0) → RowBlk (CellX F0 ow w (2 * t)) w z xs g N → xs.length + k = N) ∧ ((∀ g, ow g ≠ some (2 * t, 0)) → k = 0) := by
  by_cases hb : ∃ g, ow g = some (2 * t, 0)
  ·obtain ⟨g, hg⟩ := hb
   obtain ⟨N, hr⟩ := (hI.boxes g t hg).row hs
   refine ⟨N - xs.length, fun g' N' hg' hr' => ?_, fun hno => absurd hg (hno g)⟩
   obtain rfl := hI.uniq _ _ _ hg' hg
   obtain ⟨cur, e, b1, _, b3, b4, _⟩ := hr
   obtain ⟨cur', e', c1, _, c3, _⟩ := hr'
   rw [b1] at c1
   cases c1
   have : N = N' := Nat.eq_of_mul_eq_mul_right hz (by omega)
   omega
  ·exact ⟨0, fun g N hg => absurd ⟨g, hg⟩ hb, fun _ => rfl⟩
 refine ⟨List.replicate k (.ag (List.replicate z .any)), fun y hy => by rw [List.eq_of_mem_replicate hy]; rfl, ?_⟩
 have hI1 := hI.reveal (J := List.replicate k (.ag (List.replicate z .any))) hs rfl (fun y hy => by rw [List.eq_of_mem_replicate hy]; rfl) (fun g N hg hr => by rw [List.length_replicate, hkN g N hg hr]; exact Nat.le_refl _) (fun hno => by rw [hkno hno]; rfl)
 generalize hJ : List.replicate k (PV.ag (List.replicate z .any)) = J at hI1 ⊢
 have hs1 : ap [(3 * t + 1, PV.rw 0 z (xs ++ J))] σ (3 * t + 1) = .rw 0 z (xs ++ J) := ap1_self _ _ _
 have hfull : ∀ g N, ow g = some (2 * t, 0) → RowBlk (CellX F0 ow w (2 * t)) w z (xs ++ J) g N → N = (xs ++ J).length := fun g N hg hr => by
  obtain ⟨M, hr'⟩ := (hI.boxes g t hg).row hs
  have hM := hkN g M hg hr'
  obtain ⟨cur, e, b1, _, b3, b4, _⟩ := hr
  obtain ⟨cur', e', c1, _, c3, _⟩ := hr'
  rw [b1] at c1
  cases c1
  have : N = M := Nat.eq_of_mul_eq_mul_right hz (by omega)
  rw [List.length_append, ← hJ, List.length_replicate]
  omega
 have hI2 := hI1.bump (v' := 1) hs1 (Nat.zero_le _) (fun _ => hfull)
 have e2 : ap [(3 * t + 1, PV.rw 1 z (xs ++ J))] (ap [(3 * t + 1, PV.rw 0 z (xs ++ J))] σ) = ap [(3 * t + 1, PV.rw 1 z (xs ++ J))] σ := by
  funext l
  by_cases hl : l = 3 * t + 1
  ·subst hl; rw [ap1_self, ap1_self]
  ·rw [ap1_ne _ _ hl, ap1_ne _ _ hl, ap1_ne _ _ hl]
 rw [e2] at hI2
 have hs2 : ap [(3 * t + 1, PV.rw 1 z (xs ++ J))] σ (3 * t + 1) = .rw 1 z (xs ++ J) := ap1_self _ _ _
 have hv2 : RepV ow w (ap [(3 * t + 1, .rw 1 z (xs ++ J))] σ) (.vw t 1 z 0 hi) v := by
  refine ⟨h0, ?_⟩
  rcases hvw with ⟨e1, e2, A, rfl⟩ | ⟨b, N, g1, rfl, g2, g3⟩
  ·refine Or.inl ⟨e1, ⟨A, rfl⟩, fun xs' hx => ?_⟩
   rw [ap1_self] at hx
   cases hx
   obtain ⟨_, hv3⟩ := hv
   have hk0 : ∀ b, ow b = some (2 * t, 0) → ∀ cur e, w.heap[b]? = some (.cells cur e (0, 0)) → cur.size = 0 * z := by
    rcases hv3 with ⟨_, _, h3⟩ | ⟨b, N, q1, q2, q3⟩
    ·exact fun b hb cur e hc => (h3 xs hs).2 b hb cur e hc
    ·obtain ⟨m1, m2, cur, e, m3, m4⟩ := q3 xs hs
     cases q2
     intro b' hb' cur' e' hc'
     obtain rfl := hI.uniq _ _ _ hb' m1
     rw [m3] at hc'
     cases hc'
     exact m4
   have hJ0 : J.length = 0 := by
    rw [← hJ, List.length_replicate]
    by_cases hb : ∃ g, ow g = some (2 * t, 0)
    ·obtain ⟨g, hg⟩ := hb
     obtain ⟨N, hr⟩ := (hI.boxes g t hg).row hs
     have hN := hkN g N hg hr
     obtain ⟨cur, e, b1, _, b3, b4, _⟩ := hr
     have := hk0 g hg cur e b1
     have : N * z = 0 := by omega
     rcases Nat.mul_eq_zero.1 this with h | h <;> omega
    ·exact hkno fun g hg => hb ⟨g, hg⟩
   refine ⟨by rw [List.length_append]; omega, hk0⟩
  ·refine Or.inr ⟨b, N, g2, rfl, fun xs' hx => ?_⟩
   rw [ap1_self] at hx
   cases hx
   obtain ⟨cur, e, b1, b2, b3, _⟩ := g3
   exact ⟨g1, by rw [List.length_append]; omega, cur, e, b1, b3⟩
 have hI3 := hI2.put (dst := some t) (fun d e => by cases e; exact htn) (p := .vw t 1 z 0 hi) hv2 vw_wf
 have ha : a.put (some t) v = a := by
  have hsz := hI.size
  subst hav
  cases a with
  | mk tmps defers =>
   show ({ tmps := tmps.setIfInBounds t (tmps.getD t undef), defers := defers } : Act) = _
   congr 1
   apply Array.ext
   ·simp
   ·intro i h1 h2
    by_cases hi : t = i
    ·subst hi; simp [Array.getD_eq_getD_getElem?, h2]
    ·rw [Array.getElem_setIfInBounds_ne (by simpa using h2) hi]
 rw [ha] at hI3
 exact hI3
theorem pc_of {f : FuncId} {fn : Func} {c : Code} (hT : TabOk P T) (hm : P.follows .mixedOrders = true) (hf : P.funcs[f]? = some fn) (hb : fn.body = some c) (hn : (fn.name == "runtime.NumGoroutine") = false) (hdst : dstOk fn.ntmps c = true)
 {args : List PV} {r : PV} (hl : args.length ≤ fn.ntmps) (ha : args.all argP = true) (h : FW (PCs P) P T fn c args r) : PCs P f args r := by
 refine ⟨⟨fn, hf, hn, by rw [hb]; rfl⟩, fun w F vs bs hvs hnd => ?_⟩
 have hI := st0_inv hl ha hvs hnd
 obtain ⟨s0, h, hI⟩ : ∃ s0, PW (PCs P) P T c (fun ex s => match ex with
  | .exit _ => False
  | _ => (outA T fn.results.toList fun ps => outX ps fun ps => .ret (ps.map fun p => (0, p))).run (PCs P) (lk s) fun _ ws => okRR (lk s) (ws.map (·.2)) r) s0 ∧ InvO (fun b o => F b o ∨ w.heap.size ≤ b ∨ some b ∈ bs) w.heap.size fn.ntmps ⟨w, fun b => some b ∈ bs⟩ (ow0 0 bs) (lk s0) { tmps := vs.toArray ++ Array.replicate (fn.ntmps - vs.toArray.size) undef, defers := [] } w := by
  unfold FW at h
  generalize T.fu = fu at h
  cases fu with
  | false => exact ⟨_, by cases args <;> exact h, hI⟩
  | true =>
   cases args with
   | nil => exact ⟨_, h, hI⟩
   | cons p args' =>
    cases p with
    | xo z xs =>
     have hs : lk (argT 0 (.xo z xs :: args') ++ argS 0 (.xo z xs :: args')) (3 * 0 + 1) = .rw 0 z xs := by rw [st0_tok]; rfl
     have hv := hI.tms 0
     rw [st0_slot] at hv
     obtain ⟨J, hJ, hI2⟩ := hI.tellAll (t := 0) hs (show RepV _ _ _ (.vw 0 0 z 0 xs.length) _ from hv) (by simp at hl; omega) rfl
     exact ⟨_, h J hJ, hI2⟩
    | _ => exact ⟨_, h, hI⟩
 refine calls_of_wp hf hb (pw_sound (nt := fn.ntmps) (B := w.heap.size) (w0 := ⟨w, fun b => some b ∈ bs⟩) hT hm c _ _ _ w _ hdst h ⟨_, hI⟩ (fun ex s a' w' hq hI' => ?_))
 obtain ⟨ow, hI'⟩ := hI'
 have fin : (outA T fn.results.toList fun ps => outX ps fun ps => .ret (ps.map fun p => (0, p))).run (PCs P) (lk s) (fun _ ws => okRR (lk s) (ws.map (·.2)) r) →
  a'.defers = [] ∧ ∃ v, (results fn a'.tmps).run P w' = .ok v w' ∧ ∃ v', Ending.returned v = .returned v' ∧ Bel w.heap.size ⟨w, fun b => some b ∈ bs⟩ w' ∧ Res F w.heap.size (fun b => some b ∈ bs) w' r v' := fun h => by
  refine ⟨hI'.defers, ?_⟩
  obtain ⟨ps0, us, R0, h1, h2, h3⟩ := out_sound hT hI' _ _ _ h
  obtain ⟨tk, ps, R1, h1, h3⟩ := outX_sound hI' h1 h3
  simp only [AM.run, forceW_eq, List.map_map] at h3
  have h3' : okRR (lk s) ps r := by
   have : (ps.map ((fun x : Nat × PV => x.2) ∘ fun p => (0, p))) = ps := by
    rw [show ((fun x : Nat × PV => x.2) ∘ fun p => ((0, p) : Nat × PV)) = id from rfl, List.map_id]
   rw [this] at h3; exact h3
  have hmap : (fn.results.mapM (outV a'.tmps) : Sem (Array Value)).run P w' = .ok us.toArray w' := by
   rw [Array.mapM_eq_mapM_toList]
   simp [h2]
  have hres : (results fn a'.tmps).run P w' = .ok (if h : us.toArray.size = 1 then us.toArray[0] else .tuple us.toArray) w' := by
   rw [results_eq, Sem.run_bind, hmap]
   rfl
  refine ⟨_, hres, _, rfl, hI'.below, owR tk ow, fun b c l hb => ?_, fun b b' h h' => ?_, ?_⟩
  ·obtain ⟨c', h1, h2, _⟩ := owR_back hb
   exact ⟨(hI'.owB b c' l h1).1, (hI'.owB b c' l h1).2, h2⟩
  ·obtain ⟨c1, k1, _, k2, _⟩ := owR_back h
   obtain ⟨c2, k3, _, k4, _⟩ := owR_back h'
   obtain ⟨t, e, rfl⟩ := k2 rfl
   obtain ⟨t', e', rfl⟩ := k4 rfl
   rw [e] at e'
   cases e'
   exact hI'.uniq b b' t k1 k3
  ·match ps, us, h1, h3' with
   | [p], [u], h1, h3' =>
    have := head_res h1.1 h3'
    show ResV _ _ _ _ r u
    cases r with
    | tu q => exact h3'.elim
    | _ => exact this
   | [], [], _, h3' =>
    cases r with
    | tu rs =>
     cases rs with
     | nil => exact ⟨#[], rfl, rfl, fun i p u hp => by simp at hp⟩
     | cons => exact h3'.elim
    | _ => exact h3'.elim
   | p :: p2 :: ps, u :: u2 :: us, h1, h3' =>
    cases r with
    | tu rs =>
     have hall : ∀ (ps : List PV) (us : List Value) (rs : List PV), RepO (fun b o => F b o ∨ w.heap.size ≤ b ∨ some b ∈ bs) w.heap.size ow w' (lk s) ps us → okRs (lk s) ps rs → rs.length = us.length ∧ ∀ (j : Nat) (q : PV) (v : Value), rs[j]? = some q → us[j]? = some v → RepC (FF (fun b o => F b o ∨ w.heap.size ≤ b ∨ some b ∈ bs) (owR tk ow)) w' q v ∧ OwnR (owR tk ow) w' w.heap.size q v := by
      intro ps
      induction ps with
      | nil =>
       intro us rs h1 h2
       cases us with
       | nil => cases rs with
        | nil => exact ⟨rfl, fun j q v h _ => by simp at h⟩
        | cons => exact h2.elim
       | cons => exact h1.elim
      | cons p r ih =>
       intro us rs h1 h2
       cases us with
       | nil => exact h1.elim
       | cons u us => cases rs with
        | nil => exact h2.elim
        | cons q rs =>
         obtain ⟨g1, g2⟩ := ih us rs h1.2 h2.2
         refine ⟨by simp [g1], fun j q' v hq hv => ?_⟩
         cases j with
         | zero =>
          simp at hq hv
          subst hq
          subst hv
          exact okR_own h1.1 h2.1
         | succ j => exact g2 j q' v (by simpa using hq) (by simpa using hv)
     cases rs with
     | nil => exact h3'.elim
     | cons r0 rs =>
      obtain ⟨g1, g2⟩ := hall _ _ rs h1.2 h3'.2
      have g0 := head_res h1.1 h3'.1
      have hsz : ¬ (u :: u2 :: us).toArray.size = 1 := by simp
      rw [dif_neg hsz]
      refine ⟨_, rfl, by simpa using g1, fun i q v hq hv => ?_⟩
      cases i with
      | zero =>
       simp at hq hv
       subst hq
       subst hv
       exact ⟨fun _ => g0, fun h => absurd h (by omega)⟩
      | succ i =>
       refine ⟨(fun e => by cases e), fun _ => ?_⟩
       obtain ⟨m1, m2⟩ := g2 i q v (by simpa using hq) (by simpa using hv)
       refine ⟨m1, ?_⟩
       unfold PV.dem
       split
       ·trivial
       ·exact m2
    | _ => exact h3'.elim
   | [p], [], h1, _ => exact h1.elim
   | [p], _ :: _ :: _, h1, _ => exact h1.2.elim
   | [], _ :: _, h1, _ => exact h1.elim
   | _ :: _ :: _, [], h1, _ => exact h1.elim
   | _ :: _ :: _, [_], h1, _ => exact h1.2.elim
 cases ex with
 | normal => exact fin hq
 | ret => exact fin hq
 | exit i => exact hq.elim
end
end Go.Ev
end
section
namespace Go.Ev
open Go Go.RowKit
set_option linter.unusedVariables false
def vB : Value → Value → Bool
 | .int k n, .int k' n' => (match decEq k k' with | .isTrue _ => true | .isFalse _ => false) && n == n'
 | .bool b, .bool b' => b == b'
 | .string s, .string s' => decide (s.data = s'.data)
 | .slice none 0 0, .slice none 0 0 => true
 | .map none, .map none => true
 | .nilFunc, .nilFunc => true
 | .pointer none, .pointer none => true
 | _, _ => false
theorem vB_eq {a b : Value} (h : vB a b = true) : a = b ∧ a.oneCell' = true := by
 unfold vB at h
 split at h
 ·rename_i k n k' n'
  rw [Bool.and_eq_true] at h
  have h2 : n = n' := by simpa using h.2
  have h1 : k = k' := by
   have := h.1
   split at this
   ·assumption
   ·cases this
  rw [h1, h2]; exact ⟨rfl, rfl⟩
 ·rename_i b b'
  have h2 : b = b' := by simpa using h
  rw [h2]; exact ⟨rfl, rfl⟩
 ·rename_i s s'
  have h2 : s.data = s'.data := by simpa using h
  have : s = s' := by cases s; cases s'; simp_all
  rw [this]; exact ⟨rfl, rfl⟩
 ·exact ⟨rfl, rfl⟩
 ·exact ⟨rfl, rfl⟩
 ·exact ⟨rfl, rfl⟩
 ·exact ⟨rfl, rfl⟩
 ·cases h
def vBs : List Value → List Value → Bool
 | [], [] => true
 | a :: r, b :: q => vB a b && vBs r q
 | _, _ => false
theorem vBs_eq : ∀ {l m : List Value}, vBs l m = true → l = m ∧ ∀ v ∈ m, v.oneCell' = true
 | [], [], _ => ⟨rfl, fun v h => by cases h⟩
 | a :: r, b :: q, h => by
  unfold vBs at h
  rw [Bool.and_eq_true] at h
  obtain ⟨h1, h2⟩ := vB_eq h.1
  obtain ⟨h3, h4⟩ := vBs_eq h.2
  subst h1
  subst h3
  refine ⟨rfl, fun v hv => ?_⟩
  rcases List.mem_cons.1 hv with rfl | hv
  ·exact h2
  ·exact h4 v hv
 | [], _ :: _, h => by cases h
 | _ :: _, [], h => by cases h
def fB (P : Program) : List Field → List (Nat × Bool × Nat) → Bool
 | [], [] => true
 | f :: r, (o, ag, n) :: q => Nat.beq f.offset o && (match P.info? f.type with | some ti => Nat.beq ti.size n && Nat.blt 0 n | none => false) && (match P.underlying f.type with | some d => d.isRow == ag | none => false) && fB P r q
 | _, _ => false
theorem fB_ok {P : Program} : ∀ {l : List Field} {m : List (Nat × Bool × Nat)}, fB P l m = true → l.length = m.length ∧ ∀ (f o : Nat) (ag : Bool) (n : Nat), m[f]? = some (o, ag, n) → ∃ fd, l[f]? = some fd ∧ fd.offset = o ∧ (∃ ti, P.info? fd.type = some ti ∧ ti.size = n ∧ 0 < n) ∧ ∃ d', P.underlying fd.type = some d' ∧ d'.isRow = ag
 | [], [], _ => ⟨rfl, fun f o ag n h => by simp at h⟩
 | g :: r, (o, ag, n) :: q, h => by
  unfold fB at h
  rw [Bool.and_eq_true, Bool.and_eq_true, Bool.and_eq_true] at h
  obtain ⟨⟨⟨h1, h2⟩, h3⟩, h4⟩ := h
  obtain ⟨g1, g2⟩ := fB_ok h4
  refine ⟨by simp [g1], fun f o' ag' n' hf => ?_⟩
  cases f with
  | zero =>
   simp at hf
   obtain ⟨rfl, rfl, rfl⟩ := hf
   refine ⟨g, rfl, Nat.eq_of_beq_eq_true h1, ?_, ?_⟩
   ·split at h2
    ·rename_i ti hti
     rw [Bool.and_eq_true] at h2
     exact ⟨ti, hti, Nat.eq_of_beq_eq_true h2.1, Nat.le_of_ble_eq_true h2.2⟩
    ·cases h2
   ·split at h3
    ·rename_i d hd
     exact ⟨d, hd, by simpa using h3⟩
    ·cases h3
  | succ f => exact g2 f o' ag' n' (by simpa using hf)
 | [], _ :: _, h => by cases h
 | _ :: _, [], h => by cases h
def kB (P : Program) (d : TypeDesc) : TyK → Bool
 | .sc => !d.isRow
 | .str => (match d with | .string => true | _ => false)
 | .bo => (match d with | .bool => true | _ => false)
 | .it k => (match d with | .int k' => (match decEq k' k with | .isTrue _ => true | .isFalse _ => false) | _ => false)
 | .sl e => (match d with | .slice e' => Nat.beq e' e | _ => false)
 | .st fs => (match d with | .struct fields => fB P fields.toList fs | _ => false)
 | .ar n e => (match d with | .array n' e' => Nat.beq n' n && Nat.beq e' e | _ => false)
def tyB (P : Program) (t : Nat) (i : TyI) : Bool :=
 match P.info? t, P.underlying t with
 | some ti, some d => Nat.beq ti.size i.size && Nat.beq ti.bytes i.bytes && (match ti.zero with | some z => vBs z.cells.toList i.zero | none => false) && Nat.beq i.zero.length i.size && kB P d i.k
 | _, _ => false
theorem tyB_ok {P : Program} {t : Nat} {i : TyI} (h : tyB P t i = true) : TyOk P t i := by
 unfold tyB at h
 split at h
 ·rename_i ti d hti hd
  rw [Bool.and_eq_true, Bool.and_eq_true, Bool.and_eq_true, Bool.and_eq_true] at h
  obtain ⟨⟨⟨⟨h1, h2⟩, h3⟩, h4⟩, h5⟩ := h
  split at h3
  ·rename_i z hz
   obtain ⟨z1, z2⟩ := vBs_eq h3
   refine ⟨⟨ti, z, hti, Nat.eq_of_beq_eq_true h1, Nat.eq_of_beq_eq_true h2, hz, z1⟩, Nat.eq_of_beq_eq_true h4, z2, d, hd, ?_⟩
   unfold kB at h5
   cases hk : i.k with
   | sc => rw [hk] at h5; simpa [kOk] using h5
   | str => rw [hk] at h5; cases d <;> first | rfl | cases h5
   | bo => rw [hk] at h5; cases d <;> first | rfl | cases h5
   | it k =>
    rw [hk] at h5
    cases d with
    | int k' =>
     simp only [] at h5
     split at h5
     ·rename_i e _; subst e; rfl
     ·cases h5
    | _ => cases h5
   | sl e =>
    rw [hk] at h5
    cases d with
    | slice e' => obtain rfl := Nat.eq_of_beq_eq_true h5; rfl
    | _ => cases h5
   | st fs =>
    rw [hk] at h5
    cases d with
    | struct fields =>
     obtain ⟨g1, g2⟩ := fB_ok h5
     exact ⟨fields, rfl, by simpa using g1, fun f o ag n hf => by
      obtain ⟨fd, k1, k2⟩ := g2 f o ag n hf
      exact ⟨fd, by simpa using k1, k2⟩⟩
    | _ => cases h5
   | ar n e =>
    rw [hk] at h5
    cases d with
    | array n' e' =>
     simp only [Bool.and_eq_true] at h5
     obtain rfl := Nat.eq_of_beq_eq_true h5.1
     obtain rfl := Nat.eq_of_beq_eq_true h5.2
     rfl
    | _ => cases h5
  ·cases h3
 ·cases h
def tabB (P : Program) : List (Nat × TyI) → Bool
 | [] => true
 | (t, i) :: r => tyB P t i && tabB P r
theorem tabL_ok {P : Program} : ∀ {l : List (Nat × TyI)}, tabB P l = true → ∀ t i, getL l t = some i → TyOk P t i
 | [], _, t, i, h => by cases h
 | (k, i0) :: r, h, t, i, ht => by
  unfold tabB at h
  rw [Bool.and_eq_true] at h
  have ht2 : (bif Nat.beq t k then some i0 else getL r t) = some i := ht
  cases hb : Nat.beq t k
  ·rw [hb] at ht2; exact tabL_ok h.2 t i ht2
  ·rw [hb] at ht2
   cases ht2
   obtain rfl := Nat.eq_of_beq_eq_true hb
   exact tyB_ok h.1
theorem tab_ok {P : Program} {T : Tab} (h : tabB P T.l = true) : TabOk P T := fun t i ht => tabL_ok h t i ht
end Go.Ev
end
section
namespace Go.Ev
open Go Go.RowKit Go.Proofs.YtodkjmbmlobihaaGreatDoorW.PrintWords
set_option linter.unusedVariables false
set_option linter.unusedSimpArgs false
structure Flat {α : Type} (d : Kd α) (raw : α → List Value) (enc : α → PV) : Prop where
 K : ∀ w x, d.K w x (raw x)
 Kinv : ∀ {w x cs}, d.K w x cs → cs = raw x
 cells : ∀ x, (enc x).cells = (raw x).map PV.s
section
variable {α : Type} {d : Kd α} {raw : α → List Value} {enc : α → PV} {F : Nat → Nat → Prop} {w : World} {xs : List α} {v : Value} {k e B : Nat} {m : Nat → Prop}
theorem Flat.len (hf : Flat d raw enc) (w : World) (x : α) : (raw x).length = d.sz := d.K_len (hf.K w x)
theorem Flat.one (hf : Flat d raw enc) (w : World) (x : α) : ∀ u ∈ raw x, u.oneCell' = true := d.K_one (hf.K w x)
theorem Flat.toC (hf : Flat d raw enc) {z : Nat} (h : RepC F w (.sl k z (xs.map enc)) v) (hz : z = d.sz) (hl : xs.length ≤ 9223372036854775807) : ∃ A c, v = .slice A xs.length c ∧ xs.length ≤ c ∧ d.C w A xs.length xs := by
 subst hz
 rcases h.parts with ⟨rfl, h0⟩ | ⟨a0, c0, rfl, h0⟩ | ⟨b, o, cap, u, rfl, hc, hzz, hcell, hr⟩
 ·obtain rfl : xs = [] := by simpa using h0
  exact ⟨none, 0, rfl, Nat.le_refl _, rfl, Nat.zero_le _, fun h => absurd h (Nat.lt_irrefl 0)⟩
 ·obtain rfl : xs = [] := by simpa using h0
  exact ⟨some a0, c0, rfl, Nat.zero_le _, rfl, Nat.zero_le _, fun h => absurd h (Nat.lt_irrefl 0)⟩
 ·rw [List.length_map] at hc hcell ⊢
  refine ⟨_, cap, rfl, hc, rfl, hl, fun _ => ⟨_, rfl, fun j p hp => ⟨raw p, hf.len w p, hf.K w p, fun i u' hu => ?_⟩⟩⟩
  have hj : j < xs.length := (List.getElem?_eq_some_iff.1 hp).1
  have hi : i < d.sz := by have := (List.getElem?_eq_some_iff.1 hu).1; rw [hf.len w p] at this; exact this
  have h1 := (hcell j i hj hi).1
  have h2 := hr j (enc p) i (.s u') (by rw [List.getElem?_map, hp]; rfl) (by rw [hf.cells, List.getElem?_map, hu]; rfl)
  rw [Addr.add_lit, ← Nat.add_assoc, h1, h2.s_eq]
def noXo (args : List PV) : Prop := ∀ p ∈ args, ∀ z xs, p ≠ .xo z xs
def noXoB (args : List PV) : Bool := args.all fun p => match p with | .xo .. => false | _ => true
theorem noXo_of {args : List PV} (h : noXoB args = true) : noXo args := fun p hp z xs e => by
 have := List.all_eq_true.1 h p hp
 rw [e] at this
 cases this
theorem repG_of : ∀ {args : List PV} {vs : List Value}, noXo args → RepA F w args vs → RepG F w args vs (args.map fun _ => none)
 | [], [], _, _ => trivial
 | p :: ps, v :: vs, hx, h => ⟨by
     have := hx p (by simp)
     cases p with
     | xo z xs => exact absurd rfl (this z xs)
     | _ => exact ⟨rfl, h.1⟩, repG_of (fun q hq => hx q (by simp [hq])) h.2⟩
 | [], _ :: _, _, h => h.elim
 | _ :: _, [], _, h => h.elim
theorem repA_of : ∀ {args : List PV} {vs : List Value} {bs : List (Option Nat)}, noXo args → RepG F w args vs bs → RepA F w args vs ∧ ∀ b, some b ∉ bs
 | [], [], [], _, _ => ⟨trivial, fun b h => by cases h⟩
 | p :: ps, v :: vs, b :: bs, hx, h => by
  obtain ⟨h1, h2⟩ := repA_of (fun q hq => hx q (by simp [hq])) h.2
  obtain ⟨rfl, h3⟩ := argAt_plain h.1 (hx p (by simp))
  exact ⟨⟨h3, h1⟩, fun b hb => by
   rcases List.mem_cons.1 hb with e | hb
   ·cases e
   ·exact h2 b hb⟩
 | [], _ :: _, _, _, h => h.elim
 | [], [], _ :: _, _, h => h.elim
 | _ :: _, [], _, _, h => h.elim
 | _ :: _, _ :: _, [], _, h => h.elim
theorem bel_below {B : Nat} {m : Nat → Prop} {w' : World} (h : Bel B ⟨w, m⟩ w') (hm : ∀ b, ¬ m b) : Below B w w' := ⟨h.os, h.tape, h.output, h.size, fun k hk => h.block k hk (hm k)⟩
abbrev no0 : Nat → Prop := fun _ => False
theorem pc_mk {P : Program} {f : FuncId} {args : List PV} {r : PV} (h0 : ∃ fn, P.funcs[f]? = some fn ∧ (fn.name == "runtime.NumGoroutine") = false ∧ fn.body.isSome = true) (hx : noXo args)
 (h : ∀ (w : World) (F : Nat → Nat → Prop) (vs : List Value), RepA F w args vs → Calls P f vs.toArray w fun e w' => ∃ v, e = .returned v ∧ Below w.heap.size w w' ∧ Res F w.heap.size no0 w' r v) : PCs P f args r := by
 refine ⟨h0, fun w F vs bs hv _ => ?_⟩
 obtain ⟨h1, h2⟩ := repA_of hx hv
 have e : (fun b => some b ∈ bs) = no0 := funext fun b => propext ⟨fun hb => h2 b hb, fun hb => hb.elim⟩
 refine (h w F vs h1).mono fun e' w' ⟨v, k1, k2, k3⟩ => ⟨v, k1, .of k2, ?_⟩
 rw [e]
 exact k3
theorem pc_use {P : Program} {f : FuncId} {args : List PV} {r : PV} (h : PCs P f args r) (hx : noXo args) {vs : List Value} (hv : RepA F w args vs) :
 Calls P f vs.toArray w fun e w' => ∃ v, e = .returned v ∧ Below w.heap.size w w' ∧ Res F w.heap.size no0 w' r v := by
 have hG := repG_of hx hv
 have hb : ∀ b, some b ∉ args.map fun _ => (none : Option Nat) := fun b hb => by
  obtain ⟨p, _, e⟩ := List.mem_map.1 hb
  cases e
 have e : (fun b => some b ∈ args.map fun _ => (none : Option Nat)) = no0 := funext fun b => propext ⟨fun h => hb b h, fun h => h.elim⟩
 have hn : ((args.map fun _ => (none : Option Nat)).filterMap id).Nodup := by
  rw [List.filterMap_map]
  have : List.filterMap (id ∘ fun _ : PV => (none : Option Nat)) args = [] := List.filterMap_eq_nil_iff.2 fun _ _ => rfl
  rw [this]
  exact List.nodup_nil
 refine (h.2 w F vs _ hG hn).mono fun e' w' ⟨v, k1, k2, k3⟩ => ⟨v, k1, bel_below k2 hb, ?_⟩
 rw [← e]
 exact k3
theorem Flat.res (hf : Flat d raw enc) {ok : Nat → Prop} (h : d.R e w B ok v xs) : Res F B m w (.sl (d.sz + 2) d.sz (xs.map enc)) v := by
 obtain ⟨_, inner, ho, hr⟩ := h
 have hlen : (xs.map enc).length = xs.length := List.length_map _
 refine ⟨fun b => if v.ownBlock = some b then some (1, xs.length * d.sz) else none, fun b c l hb => ?_, fun b b' hb => ?_, ?_, Or.inr ⟨e, inner, by rw [hlen]; exact ho, fun g hg => by rw [hlen]; exact if_pos hg⟩⟩
 ·by_cases hg : v.ownBlock = some b
  ·simp only [if_pos hg] at hb
   cases hb
   exact ⟨Or.inl (ho.lt b hg).1, (ho.lt b hg).2, by omega⟩
  ·simp only [if_neg hg] at hb; cases hb
 ·by_cases hg : v.ownBlock = some b
  ·simp only [if_pos hg] at hb; cases hb
  ·simp only [if_neg hg] at hb; cases hb
 ·refine rep_row ho hlen.symm (fun x hx => ?_) (fun i j => ((xs[i]?.map raw).bind fun r => r[j]?).getD undef) (fun i j hi hj => ?_) (fun g hg o hlo => ⟨Or.inr (Or.inl (ho.lt g hg).1), fun c l hl => ?_⟩) (fun i x j p hx hp => ?_) (by omega)
  ·obtain ⟨y, _, rfl⟩ := List.mem_map.1 hx
   rw [hf.cells, List.length_map, hf.len w]
  ·have hx := List.getElem?_eq_getElem hi
   have hq := hf.Kinv (d.K_of_M (hr.2 i _ hx))
   have hj2 : j < (raw xs[i]).length := by rw [hf.len w]; exact hj
   have h1 : ((inner.drop (i * d.sz)).take d.sz)[j]? = some ((raw xs[i])[j]'hj2) := by rw [hq]; exact List.getElem?_eq_getElem hj2
   rw [List.getElem?_take, if_pos hj, List.getElem?_drop] at h1
   refine ⟨?_, ?_⟩
   ·rw [h1, hx]; simp [List.getElem?_eq_getElem hj2]
   ·rw [hx]; simp only [Option.map_some, Option.bind_some, List.getElem?_eq_getElem hj2, Option.getD_some]
    exact hf.one w xs[i] _ (List.getElem_mem hj2)
  ·simp only [if_pos hg] at hl; cases hl; exact ⟨rfl, hlo⟩
  ·rw [List.getElem?_map] at hx
   obtain ⟨y, hy, rfl⟩ := Option.map_eq_some_iff.1 hx
   rw [hf.cells, List.getElem?_map] at hp
   obtain ⟨u, hu, rfl⟩ := Option.map_eq_some_iff.1 hp
   rw [hy]
   simp only [Option.map_some, Option.bind_some, hu, Option.getD_some]
   exact .s u
theorem res_s (x : Value) : Res F B m w (.s x) x := ⟨fun _ => none, (fun b c l h => by cases h), (fun b b' h => by cases h), .s x, trivial⟩
theorem Res.pair {r : PV} {x : Value} (h : Res F B m w r v) (hr : ∀ ps, r ≠ .tu ps) : Res F B m w (.tu [r, .s x]) (.tuple #[v, x]) := by
 obtain ⟨ow, h1, h2, h3⟩ := h
 have h4 : ResE (fun b o => F b o ∨ B ≤ b ∨ m b) B ow w r v := by cases r <;> first | exact h3 | exact absurd rfl (hr _)
 refine ⟨ow, h1, h2, ⟨_, rfl, rfl, fun i p u hp hu => ?_⟩⟩
 match i with
 | 0 => simp at hp hu; subst hp; subst hu; exact ⟨fun _ => h4, fun h => absurd h (by omega)⟩
 | 1 => simp at hp hu; subst hp; subst hu; exact ⟨fun h => absurd h (by omega), fun _ => ⟨.s _, trivial⟩⟩
 | i + 2 => simp at hp
theorem ag_eq {l : List Value} (h : RepC F w (.ag (l.map PV.s)) v) : v = .agg l.toArray := by
 generalize hp : PV.ag (l.map PV.s) = p at h
 cases h with
 | ag cs vs hl h1 hh =>
  cases hp
  congr 1
  apply Array.ext'
  apply List.ext_getElem?
  intro j
  cases hj : l[j]? with
  | none =>
   have : ¬ j < vs.size := fun h => by rw [← hl, List.length_map] at h; rw [List.getElem?_eq_getElem h] at hj; cases hj
   simp [hj, this]
  | some u =>
   have hj2 : j < vs.size := by rw [← hl, List.length_map]; exact (List.getElem?_eq_some_iff.1 hj).1
   have := (hh j (.s u) vs[j] (by rw [List.getElem?_map, hj]; rfl) (Array.getElem?_eq_getElem hj2)).s_eq
   simp [hj, hj2, this]
 | _ => cases hp
end
end Go.Ev
end
