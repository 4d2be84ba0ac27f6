/- Part 3 of this claim: several texts one behind the other: EvOpZ, EvOpW, EvOpV. What each shows stands in its theorems; conditions: sizes of texts and lists, as the functions' definitions say. -/
import Derived.Test.YtodkjmbmlobihaaGreatDoorMWhyDepths2
import Derived.Lib.AppendZerosOnto
section
namespace Go.Ev
open Go Go.RowKit
set_option linter.unusedVariables false
set_option linter.unusedSimpArgs false
section
variable {P : Program} {T : Tab} {PC : Orc} {Q : Exit → Act → World → Prop} {o : Oper} {a : Act} {w w' : World} {B nt : Nat} {w0 : W0} {F0 : Nat → Nat → Prop} {ow : Ow} {σ : St} {K : List Nat → List (Nat × PV) → Prop}
theorem ap_cons (k : Nat) (q : PV) (r : List (Nat × PV)) : ap ((k, q) :: r) σ = ap [(k, q)] (ap r σ) := rfl
theorem ap_comm {k l : Nat} (q p : PV) (h : k ≠ l) : ap [(k, q)] (ap [(l, p)] σ) = ap [(l, p)] (ap [(k, q)] σ) := by
 funext m
 by_cases h1 : m = k
 ·subst h1; rw [ap1_self, ap1_ne _ _ h, ap1_self]
 ·rw [ap1_ne _ _ h1]
  by_cases h2 : m = l
  ·subst h2; rw [ap1_self, ap1_self]
  ·rw [ap1_ne _ _ h2, ap1_ne _ _ h2, ap1_ne _ _ h1]
theorem ap_2 {k d : Nat} (q p : PV) (h : k ≠ 3 * d) : ap [(k, q), (3 * d, p)] σ = ap (asgn (some d) p) (ap [(k, q)] σ) := (ap_cons k q _).trans (ap_comm q p h)
theorem rep_empty {F : Nat → Nat → Prop} {z : Nat} (A : Option Addr) : RepC F w (.sl 0 z []) (.slice A 0 0) := by
 cases A with
 | none => exact .nil _ _
 | some a => exact .emp _ _ _ _ (fun e => by cases e)
theorem view_sl (hI : InvO F0 B nt w0 ow σ a w) {t v z lo hi : Nat} {u : Value} {xs : List PV} {F : Nat → Nat → Prop} (hv : RepV ow w σ (.vw t v z lo hi) u) (hs : σ (3 * t + 1) = .rw v z xs) (hn : noX ((xs.take hi).drop lo)) (hF : ∀ b, ow b = some (2 * t, 0) → ∀ o, F b o) (hrep : ∀ p v, RepC (FF F0 ow) w p v → RepC F w p v) :
 RepC F w (.sl 0 z ((xs.take hi).drop lo)) u := by
 obtain ⟨h0, h1, h⟩ := view_cur hI hv hs
 rcases h with ⟨e1, e2, A, rfl⟩ | ⟨b, N, g1, rfl, g2, g3⟩
 ·have : (xs.take hi).drop lo = [] := List.eq_nil_of_length_eq_zero (by simp; omega)
  rw [this]; exact rep_empty A
 ·exact row_sl g3 hn h0 h1 (hF b g1) hrep
theorem fzE_cells (x : PV) : x.fzE.cells = x.cells.map PV.fzC := by
 cases x with
 | sl k z xs => match k with
  | 0 => rfl
  | 1 => rfl
  | k + 2 => rfl
 | _ => rfl
theorem rowblk_rep {F : Nat → Nat → Prop} {C : Nat → PV → Value → Prop} {z b N : Nat} {xs : List PV} (h : RowBlk C w z xs b N) (e f : PV → PV) (he : ∀ x ∈ xs, (e x).cells = x.cells.map f) (hF : ∀ o, F b o) (hC : ∀ (x p : PV) (q : Nat) (u : Value), x ∈ xs → p ∈ x.cells → C q p u → RepC F w (f p) u ∧ u.oneCell' = true) :
 RepC F w (.sl 0 z (xs.map e)) (.slice (some ⟨b, 0, none⟩) xs.length N) := by
 have hlen : (xs.map e).length = xs.length := List.length_map _
 have := RepC.sl (F := F) (w := w) 0 z (xs.map e) b 0 N (fun i j => (w.cell? ⟨b, i * z + j, none⟩).getD undef) (fun e => by cases e) (by rw [hlen]; obtain ⟨_, _, _, _, _, h, _⟩ := h; exact h)
  (fun x hx => by
   obtain ⟨y, hy, rfl⟩ := List.mem_map.1 hx
   rw [he y hy, List.length_map]
   obtain ⟨_, _, _, _, _, _, h, _⟩ := h
   exact h y hy)
  (fun i j hi hj => by
   rw [hlen] at hi
   have hx := List.getElem?_eq_getElem hi
   have hz : xs[i].cells.length = z := by obtain ⟨_, _, _, _, _, _, h, _⟩ := h; exact h _ (List.getElem_mem hi)
   have hp := List.getElem?_eq_getElem (l := xs[i].cells) (i := j) (by omega)
   obtain ⟨u, h1, h2⟩ := h.cell hx hp
   obtain ⟨_, h3⟩ := hC _ _ _ _ (List.getElem_mem hi) (List.mem_of_getElem? hp) h2
   rw [Nat.zero_add, h1]
   exact ⟨rfl, hF _, h3⟩)
  (fun i x j p hx hp => by
   rw [List.getElem?_map] at hx
   obtain ⟨y, hy, rfl⟩ := Option.map_eq_some_iff.1 hx
   rw [he y (List.mem_of_getElem? hy), List.getElem?_map] at hp
   obtain ⟨q, hq, rfl⟩ := Option.map_eq_some_iff.1 hp
   obtain ⟨u, h1, h2⟩ := h.cell hy hq
   obtain ⟨h3, _⟩ := hC _ _ _ _ (List.mem_of_getElem? hy) (List.mem_of_getElem? hq) h2
   show RepC F w (f q) ((w.cell? ⟨b, i * z + j, none⟩).getD undef)
   rw [h1]
   exact h3)
 rw [hlen] at this
 exact this
theorem fzC_rep {F : Nat → Nat → Prop} {p : PV} {u : Value} (h : RepC F w p u) : RepC F w p.fzC u := by
 cases p with
 | sl k z xs => match k with
  | 0 => exact h
  | 1 => exact h.sl_of (fun e => by cases e)
  | k + 2 => exact h
 | xo z xs => cases h
 | _ => exact h
theorem fzC_cell {F1 : Nat → Nat → Prop} {ow1 : Ow} {q : Nat} {p : PV} {u : Value} (h : CellP F1 ow1 w q p u) : CellP F1 ow1 w q p.fzC u :=
 ⟨fzC_rep h.1, trivial, fun hn => h.2.2 fun e => by subst e; exact hn rfl⟩
theorem fzC_cellX {F1 : Nat → Nat → Prop} {ow1 : Ow} {c q : Nat} {p : PV} {u : Value} (h : CellP F1 ow1 w q p u) : CellX F1 ow1 w c q p.fzC u := by
 have h2 := fzC_cell h
 generalize p.fzC = p' at h2
 exact .of h2
def dfO (t : Nat) (ow : Ow) : Ow := fun b => match ow b with | some (c, l) => if c = 2 * t ∧ l ≠ 0 then none else some (c, l) | none => none
theorem dfO_back {t b c l : Nat} (h : dfO t ow b = some (c, l)) : ow b = some (c, l) ∧ ¬ (c = 2 * t ∧ l ≠ 0) := by
 unfold dfO at h
 cases hb : ow b with
 | none => rw [hb] at h; cases h
 | some x =>
  obtain ⟨c', l'⟩ := x
  rw [hb] at h
  simp only at h
  split at h
  ·cases h
  ·rename_i hn
   cases h
   exact ⟨rfl, hn⟩
theorem dfO_keep {t b c l : Nat} (h : ow b = some (c, l)) (hn : ¬ (c = 2 * t ∧ l ≠ 0)) : dfO t ow b = some (c, l) := by
 unfold dfO
 rw [h]
 exact if_neg hn
theorem dfO_none {t b l : Nat} (h : ow b = some (2 * t, l + 1)) : dfO t ow b = none := by
 unfold dfO
 rw [h]
 exact if_pos ⟨rfl, by omega⟩
theorem InvO.defrost (hI : InvO F0 B nt w0 ow σ a w) {t v z : Nat} {xs : List PV} (hs : σ (3 * t + 1) = .rw v z xs) (hok : okFi xs) : InvO F0 B nt w0 (dfO t ow) (ap [(3 * t + 1, .rw v z (xs.map PV.fzE))] σ) a w := by
 have hz := rw_pos hI hs
 have hlen : (xs.map PV.fzE).length = xs.length := List.length_map _
 have h2 : ∀ k, ap [(3 * t + 1, PV.rw v z (xs.map PV.fzE))] σ (3 * k + 2) = σ (3 * k + 2) := fun k => ap1_ne _ _ (by omega)
 have h1 : ∀ k, k ≠ t → ap [(3 * t + 1, PV.rw v z (xs.map PV.fzE))] σ (3 * k + 1) = σ (3 * k + 1) := fun k hk => ap1_ne _ _ (by omega)
 have hrep : ∀ p v, RepC (FF F0 ow) w p v → RepC (FF F0 (dfO t ow)) w p v := fun p v h => h.mono fun b o u hc hf => ⟨hc, hf.1, fun c l hcl => hf.2 c l (dfO_back hcl).1⟩
 have hkeep0 : ∀ b k, ow b = some (2 * k, 0) → dfO t ow b = some (2 * k, 0) := fun b k h => dfO_keep h (fun e => e.2 rfl)
 refine hI.objs (fun k => k = t) (.of (Below.refl _ _)) (fun k => ap1_ne _ _ (by omega)) h2 h1 (fun k hk => ?_) (fun k hk => ?_) (fun k hk cs0 h => ?_) (fun k hk v1 z1 xs1 h => ?_) hrep
  (fun b c' l h hk => ⟨dfO_keep h (fun e => hk t rfl e.1), rfl⟩) (fun b k hk h => (dfO_back h).1) (fun b c l h => hI.owB b c l (dfO_back h).1) (fun b k hk h => ?_) (fun b b' k hk h h' => hI.uniq b b' k (dfO_back h).1 (dfO_back h').1) (fun p u k hk hp g1 g2 h => ?_)
 ·subst hk; rw [ap1_self]; exact fun h => by cases h
 ·subst hk; rw [ap1_self]; exact hz
 ·subst hk; rw [hs] at h; cases h
 ·subst hk
  rw [ap1_self] at h
  cases h
  exact Or.inr ⟨v, z, xs, hs, Nat.le_refl _⟩
 ·subst hk
  have hb := (dfO_back h).1
  obtain ⟨N, hr⟩ := (hI.boxes b k hb).row hs
  refine Or.inr ⟨v, z, _, N, ap1_self _ _ _, ?_, fun e => by rw [hlen]; exact hI.fullN hs hb e hr⟩
  obtain ⟨cur, e, k1, k2, k3, k4, k5, k6⟩ := hr
  refine ⟨cur, e, k1, k2, k3, by rw [hlen]; exact k4, fun x hx => ?_, fun i j x p u hx hp hu => ?_⟩
  ·obtain ⟨y, hy, rfl⟩ := List.mem_map.1 hx
   rw [fzE_cells, List.length_map]
   exact k5 y hy
  ·rw [List.getElem?_map] at hx
   obtain ⟨y, hy, rfl⟩ := Option.map_eq_some_iff.1 hx
   rw [fzE_cells, List.getElem?_map] at hp
   obtain ⟨q, hq, rfl⟩ := Option.map_eq_some_iff.1 hp
   have hc := k6 i j y q u hy hq hu
   have hoq := hok y (List.mem_of_getElem? hy) q (List.mem_of_getElem? hq)
   cases q with
   | xo z' ys =>
    obtain ⟨hn, hz'⟩ := hc
    show CellP F0 (dfO k ow) w (i * z + j) (.sl 0 z' ys) u
    rcases hn with ⟨rfl, A, rfl⟩ | ⟨g, M, m1, rfl, m2⟩
    ·refine ⟨?_, trivial, fun _ => rfl⟩
     cases A with
     | none => exact .nil 0 z'
     | some a0 => exact .emp 0 z' a0 0 (fun e => by cases e)
    ·refine ⟨?_, trivial, fun _ => rfl⟩
     have := rowblk_rep m2 id id (fun x _ => (List.map_id _).symm) (F := FF F0 (dfO k ow)) (fun o => ⟨hI.newF _ _ (hI.owB _ _ _ m1).1, fun c l e => by rw [dfO_none m1] at e; cases e⟩) (fun x p q u hx hp h => ⟨hrep _ _ h.1, h.2.2 (hoq x hx p hp)⟩)
     rwa [List.map_id] at this
   | sl k' z' ys => exact fzC_cellX (CellP.map (p := .sl k' z' ys) (q := i * z + j) hc hrep)
   | _ => exact CellP.map (q := i * z + j) hc hrep
 ·subst hk
  have key : ∀ vr z' xs1, ap [(3 * k + 1, PV.rw v z (xs.map PV.fzE))] σ (3 * k + 1) = .rw vr z' xs1 → σ (3 * k + 1) = .rw vr z' xs ∧ xs1 = xs.map PV.fzE := fun vr z' xs1 hx => by
   rw [ap1_self] at hx
   cases hx
   exact ⟨hs, rfl⟩
  cases p with
  | pt t o => cases hp; unfold boxOk at g2; simp only [hs] at g2
  | vw t' vr z' lo hi =>
   cases hp
   obtain ⟨h0', h⟩ := h
   refine ⟨h0', ?_⟩
   rcases h with ⟨a1, a2, a3⟩ | ⟨b, M, k1, k2, k3⟩
   ·refine Or.inl ⟨a1, a2, fun xs1 hx => ?_⟩
    obtain ⟨q1, rfl⟩ := key _ _ _ hx
    exact ⟨by rw [hlen]; exact (a3 xs q1).1, fun b hb => (a3 xs q1).2 b (dfO_back hb).1⟩
   ·refine Or.inr ⟨b, M, k1, k2, fun xs1 hx => ?_⟩
    obtain ⟨q1, rfl⟩ := key _ _ _ hx
    obtain ⟨m1, m2, m3⟩ := k3 xs q1
    exact ⟨hkeep0 _ _ m1, by rw [hlen]; exact m2, m3⟩
  | el t' vr z' i o =>
   cases hp
   obtain ⟨b, k1, k2⟩ := h
   refine ⟨b, k1, fun xs1 hx => ?_⟩
   obtain ⟨q1, rfl⟩ := key _ _ _ hx
   exact hkeep0 _ _ (k2 xs q1)
  | _ => cases hp
theorem sim_move {x : Operand} (ho : o.op = .move x ∨ o.op = .assign x) (hI : InvO F0 B nt w0 ow σ a w) (hd : ∀ d, o.dst = some d → d < nt) (h : (opA P T o).run PC σ K) : o.wp P a w (Sim F0 B nt w0 σ K) Q := by
 have h' : (evO x fun p => movA T o.dst p).run PC σ K := by
  rcases ho with ho | ho <;> (unfold opA at h; rw [ho] at h; exact h)
 clear h
 obtain ⟨p, R0, h1, h2, h3⟩ := evO_inv hI x _ _ h'
 have hrun : (execOp a.eval o).run P w = .ok (.value (a.eval x)) w := by
  rcases ho with ho | ho <;> (unfold execOp; rw [ho]; rfl)
 unfold movA at h3
 split at h3
 ·rename_i hdst
  simp only [AM.run, forceW_eq] at h3
  refine wp_value hrun ⟨_, _, h3, ow, ?_⟩
  rw [hdst]; exact hI
 ·rename_i d hdst
  have hdn := hd d hdst
  have put1 : (AM.ret [(3 * d, p)]).run PC σ (fun R ws => K (R0 ++ R) ws) → o.wp P a w (Sim F0 B nt w0 σ K) Q := fun h => by
   refine sim_put (PC := PC) (p := p) hI hd hrun h1 h2 (R0 := R0) ?_
   rw [hdst]; exact h
  split at h3
  ·rename_i t v z lo hi
   cases hm : memN T.fz d
   ·rw [hm] at h3
    simp only [cond_false] at h3
    cases hm2 : memN T.fn d
    ·rw [hm2] at h3; exact put1 h3
    rw [hm2] at h3
    simp only [cond_true] at h3
    obtain ⟨xs, hs, h3⟩ := curRw_inv h3
    obtain ⟨q, e, hok, h3⟩ := h3
    cases e
    simp only [AM.run, forceW_eq] at h3
    have hI' := hI.defrost hs hok
    refine wp_value hrun ⟨_, _, h3, dfO t ow, ?_⟩
    rw [hdst, ap_2 _ _ (by omega)]
    refine hI'.put (dst := some d) (fun d' e => by cases e; exact hdn) (p := .vw t v z lo hi) ?_ ?_
    ·have hv : RepV ow w σ (.vw t v z lo hi) (a.eval x) := h1
     obtain ⟨h0', h⟩ := hv
     have hlen : (xs.map PV.fzE).length = xs.length := List.length_map _
     refine ⟨h0', ?_⟩
     rcases h with ⟨a1, a2, a3⟩ | ⟨b, M, k1, k2, k3⟩
     ·refine Or.inl ⟨a1, a2, fun xs1 hx => ?_⟩
      rw [ap1_self] at hx
      cases hx
      exact ⟨by rw [hlen]; exact (a3 xs hs).1, fun b hb => (a3 xs hs).2 b (dfO_back hb).1⟩
     ·refine Or.inr ⟨b, M, k1, k2, fun xs1 hx => ?_⟩
      rw [ap1_self] at hx
      cases hx
      obtain ⟨m1, m2, m3⟩ := k3 xs hs
      exact ⟨dfO_keep m1 (fun e => e.2 rfl), by rw [hlen]; exact m2, m3⟩
    ·unfold wfT wf1
     simp only []
     unfold tokOk
     simp only [ap1_self]
     exact Nat.ble_eq_true_of_le (Nat.le_refl v)
   ·rw [hm] at h3
    simp only [cond_true] at h3
    obtain ⟨xs, hs, h3⟩ := curRw_inv h3
    obtain ⟨q, e, h3⟩ := h3
    cases e
    simp only [] at h3
    obtain ⟨hn, h3⟩ := h3
    simp only [AM.run, forceW_eq] at h3
    have hI' := hI.give hs none (fun c l e => by cases e)
    refine wp_value hrun ⟨_, _, h3, (fun b => if ow b = some (2 * t, 0) then none else ow b), ?_⟩
    rw [hdst, ap_2 _ _ (by omega)]
    refine hI'.put (dst := some d) (fun d' e => by cases e; exact hdn) (.of_plain rfl ?_) (wfT_plain rfl)
    refine view_sl (F0 := F0) hI (show RepV ow w σ (.vw t v z lo hi) (a.eval x) from h1) hs hn (fun b hb o => ⟨hI.newF _ _ (hI.owB _ _ _ hb).1, fun c l e => ?_⟩) (fun p v h => h.mono fun b o u hc hf => ⟨hc, hf.1, fun c l e => ?_⟩)
    ·replace e : (if ow b = some (2 * t, 0) then none else ow b) = some (c, l) := e
     rw [if_pos hb] at e; cases e
    ·replace e : (if ow b = some (2 * t, 0) then none else ow b) = some (c, l) := e
     split at e
     ·cases e
     ·exact hf.2 c l e
  ·rename_i z xs
   split at h3
   ·rename_i z0 hz0
    cases hc : xs.isEmpty && Nat.blt 0 z0
    ·rw [hc] at h3; exact h3.elim
    rw [hc] at h3
    rw [Bool.and_eq_true] at hc
    simp only [cond_true, AM.run, force_eq] at h3
    split at h3
    ·rename_i hany
     simp only [AM.run, forceW_eq] at h3
     obtain rfl : xs = [] := by simpa using hc.1
     obtain ⟨A, hA⟩ := h1.1.full
     refine wp_value hrun ⟨_, _, h3, ?_⟩
     rw [hdst, hA]
     exact hI.mkNil hdn hany (Nat.le_of_ble_eq_true hc.2) A
    ·refine sim_put (PC := PC) (p := .sl 1 z xs) hI hd hrun h1 h2 (R0 := R0 ++ [3 * d + 1]) ?_
     rw [hdst]
     exact run_mono _ (fun R ws hk => by simpa [List.append_assoc] using hk) h3
   ·exact put1 h3
  ·exact put1 h3
theorem InvO.tell (hI : InvO F0 B nt w0 ow σ a w) {t v z : Nat} {xs xs' : List PV} (hs : σ (3 * t + 1) = .rw v z xs) (hlen : xs'.length = xs.length)
 (hc : ∀ g N, ow g = some (2 * t, 0) → RowBlk (CellX F0 ow w (2 * t)) w z xs g N → RowBlk (CellX F0 ow w (2 * t)) w z xs' g N) : InvO F0 B nt w0 ow (ap [(3 * t + 1, .rw v z xs')] σ) a w := by
 have hz := rw_pos hI hs
 have h2 : ∀ k, ap [(3 * t + 1, PV.rw v z xs')] σ (3 * k + 2) = σ (3 * k + 2) := fun k => ap1_ne _ _ (by omega)
 have h1 : ∀ k, k ≠ t → ap [(3 * t + 1, PV.rw v z xs')] σ (3 * k + 1) = σ (3 * k + 1) := fun k hk => ap1_ne _ _ (by omega)
 refine hI.objs (fun k => k = t) (.of (Below.refl _ _)) (fun k => ap1_ne _ _ (by omega)) h2 h1 (fun k hk => ?_) (fun k hk => ?_) (fun k hk cs0 h => ?_) (fun k hk v1 z1 xs1 h => ?_) (fun p v h => h)
  (fun b c' l h hk => ⟨h, rfl⟩) (fun b k hk h => h) hI.owB (fun b k hk h => ?_) (fun b b' k hk h h' => hI.uniq b b' k h h') (fun p u k hk hp g1 g2 h => ?_)
 ·subst hk; rw [ap1_self]; exact fun h => by cases h
 ·subst hk; rw [ap1_self]; exact hz
 ·subst hk; rw [hs] at h; cases h
 ·subst hk
  rw [ap1_self] at h
  cases h
  exact Or.inr ⟨v, z, xs, hs, Nat.le_refl _⟩
 ·subst hk
  obtain ⟨N, hr⟩ := (hI.boxes b k h).row hs
  exact Or.inr ⟨v, z, xs', N, ap1_self _ _ _, hc b N h hr, fun e => by rw [hlen]; exact hI.fullN hs h e hr⟩
 ·subst hk
  have key : ∀ vr z' xs1, ap [(3 * k + 1, PV.rw v z xs')] σ (3 * k + 1) = .rw vr z' xs1 → σ (3 * k + 1) = .rw vr z' xs ∧ xs1 = xs' := fun vr z' xs1 hx => by
   rw [ap1_self] at hx
   cases hx
   exact ⟨hs, rfl⟩
  cases p with
  | pt t o => cases hp; unfold boxOk at g2; simp only [hs] at g2
  | vw t' vr z' lo hi =>
   cases hp
   obtain ⟨h0', h⟩ := h
   refine ⟨h0', ?_⟩
   rcases h with ⟨a1, a2, a3⟩ | ⟨b, M, k1, k2, k3⟩
   ·refine Or.inl ⟨a1, a2, fun xs1 hx => ?_⟩
    obtain ⟨q1, rfl⟩ := key _ _ _ hx
    exact ⟨by rw [hlen]; exact (a3 xs q1).1, (a3 xs q1).2⟩
   ·refine Or.inr ⟨b, M, k1, k2, fun xs1 hx => ?_⟩
    obtain ⟨q1, rfl⟩ := key _ _ _ hx
    obtain ⟨m1, m2, m3⟩ := k3 xs q1
    exact ⟨m1, by rw [hlen]; exact m2, m3⟩
  | el t' vr z' i o =>
   cases hp
   obtain ⟨b, k1, k2⟩ := h
   refine ⟨b, k1, fun xs1 hx => ?_⟩
   obtain ⟨q1, rfl⟩ := key _ _ _ hx
   exact k2 xs q1
  | _ => cases hp
theorem cells_withCells {x : PV} {cs : List PV} (h : cs.length = x.cells.length) (h1 : ∀ c ∈ cs, c.cells = [c]) : (x.withCells cs).cells = cs := by
 have single : (∀ l, x ≠ .ag l) → (x.withCells cs).cells = cs := fun hne => by
  have hc : x.cells = [x] := by cases x <;> first | rfl | exact absurd rfl (hne _)
  rw [hc] at h
  match cs, h with
  | [c], _ =>
   have : x.withCells [c] = c := by cases x <;> first | rfl | exact absurd rfl (hne _)
   rw [this]; exact h1 c (by simp)
 cases x with
 | ag l => rfl
 | _ => exact single (fun l e => by cases e)
theorem cell_one {c q : Nat} {p : PV} {u : Value} (h : CellX F0 ow w c q p u) : p.cells = [p] := by
 cases p with
 | ag cs =>
  obtain ⟨h1, _, h2⟩ := h
  have := h2 (fun e => by cases e)
  cases h1
  simp [Value.oneCell'] at this
 | _ => rfl
theorem splice_len (cs ds : List PV) (k : Nat) (hk : k + ds.length ≤ cs.length) : (splice cs k ds).length = cs.length := by unfold splice; simp; omega
theorem splice_mem {cs ds : List PV} {k : Nat} {c : PV} (h : c ∈ splice cs k ds) : c ∈ cs ∨ c ∈ ds := by
 unfold splice at h
 rcases List.mem_append.1 h with h | h
 ·rcases List.mem_append.1 h with h | h
  ·exact Or.inl (List.mem_of_mem_take h)
  ·exact Or.inr h
 ·exact Or.inl (List.mem_of_mem_drop h)
theorem row_facts {C : Nat → PV → Value → Prop} {z b N : Nat} {xs : List PV} (h : RowBlk C w z xs b N) : xs.length ≤ N ∧ (∀ x ∈ xs, x.cells.length = z) ∧ 0 < z := by
 obtain ⟨_, _, _, h1, _, h2, h3, _⟩ := h
 exact ⟨h2, h3, h1⟩
theorem row_single {c z b N : Nat} {xs : List PV} (h : RowBlk (CellX F0 ow w c) w z xs b N) {i : Nat} {x : PV} (hx : xs[i]? = some x) : ∀ p ∈ x.cells, p.cells = [p] := fun p hp => by
 obtain ⟨j, hj, rfl⟩ := List.getElem_of_mem hp
 obtain ⟨u, _, hu⟩ := h.cell hx (List.getElem?_eq_getElem hj)
 exact cell_one hu
theorem set_get {xs : List PV} {ix i : Nat} {y x : PV} (h : (xs.set ix y)[i]? = some x) : (i = ix ∧ x = y ∧ ix < xs.length) ∨ (i ≠ ix ∧ xs[i]? = some x) := by
 by_cases hi : i = ix
 ·subst hi
  have hl : i < xs.length := by have := (List.getElem?_eq_some_iff.1 h).1; simpa using this
  rw [List.getElem?_set_self hl] at h
  cases h
  exact Or.inl ⟨rfl, rfl, hl⟩
 ·rw [List.getElem?_set_ne (Ne.symm hi)] at h
  exact Or.inr ⟨hi, h⟩
theorem addrEq {i i' j j' z : Nat} (hj : j < z) (hj' : j' < z) (h : i * z + j = i' * z + j') : i = i' ∧ j = j' := by
 have h1 : (i * z + j) / z = i := by rw [Nat.add_comm, Nat.add_mul_div_right _ _ (by omega), Nat.div_eq_of_lt hj, Nat.zero_add]
 have h2 : (i' * z + j') / z = i' := by rw [Nat.add_comm, Nat.add_mul_div_right _ _ (by omega), Nat.div_eq_of_lt hj', Nat.zero_add]
 have : i = i' := by rw [← h1, h, h2]
 subst this
 exact ⟨rfl, by omega⟩
theorem InvO.take (hI : InvO F0 B nt w0 ow σ a w) {t v z d ix off : Nat} {xs : List PV} {x : PV} {z' : Nat} {ys : List PV} {u : Value} (hs : σ (3 * t + 1) = .rw v z xs) (hx : xs[ix]? = some x) (hc : x.cells[off]? = some (.xo z' ys)) {b : Nat} (hb : ow b = some (2 * t, 0)) (hu : w.cell? ⟨b, ix * z + off, none⟩ = some u)
 (hdn : d < nt) (hd : σ (3 * d + 1) = .any) {xs' : List PV} (he : xs' = xs.set ix (x.withCells (splice x.cells off [.any]))) :
 Inv F0 B nt w0 (ap [(3 * t + 1, .rw v z xs'), (3 * d + 1, .rw 0 z' ys), (3 * d, .vw d 0 z' 0 ys.length)] σ) (a.put (some d) u) w := by
 subst he
 have htd : t ≠ d := fun e => by subst e; rw [hs] at hd; cases hd
 obtain ⟨N, hrow⟩ := (hI.boxes b t hb).row hs
 obtain ⟨f1, f2, f3⟩ := row_facts hrow
 have hxm := List.mem_of_getElem? hx
 have hoff : off < z := by rw [← f2 x hxm]; exact (List.getElem?_eq_some_iff.1 hc).1
 obtain ⟨u', hu', hnest, hz'⟩ := hrow.cell hx hc
 rw [hu] at hu'
 cases hu'
 have hwc : (x.withCells (splice x.cells off [.any])).cells = splice x.cells off [.any] := cells_withCells (splice_len _ _ _ (by rw [f2 x hxm]; exact hoff)) (fun c hc => by
  rcases splice_mem hc with h | h
  ·exact row_single hrow hx c h
  ·simp at h; subst h; rfl)
 have newcell : ∀ i j y p, (xs.set ix (x.withCells (splice x.cells off [.any])))[i]? = some y → y.cells[j]? = some p → j < z → (i = ix ∧ j = off ∧ p = .any) ∨ (¬ (i = ix ∧ j = off) ∧ ∃ y0, xs[i]? = some y0 ∧ y0.cells[j]? = some p) := fun i j y p hy hp hj => by
  rcases set_get hy with ⟨rfl, rfl, _⟩ | ⟨hne, hy⟩
  ·rw [hwc, splice_get _ _ _ (by rw [f2 x hxm]; exact hoff)] at hp
   split at hp
   ·rename_i hjo
    simp only [List.length_singleton] at hjo
    obtain rfl : j = off := by omega
    rw [Nat.sub_self] at hp
    cases hp
    exact Or.inl ⟨rfl, rfl, rfl⟩
   ·rename_i hjo
    exact Or.inr ⟨fun e => hjo ⟨by omega, by simp; omega⟩, x, hx, hp⟩
  ·exact Or.inr ⟨fun e => hne e.1, y, hy, hp⟩
 have hrow' : ∀ g N, ow g = some (2 * t, 0) → RowBlk (CellX F0 ow w (2 * t)) w z xs g N → RowBlk (CellX F0 ow w (2 * t)) w z (xs.set ix (x.withCells (splice x.cells off [.any]))) g N := fun g N hg hr => by
  obtain ⟨cur, e, k1, k2, k3, k4, k5, k6⟩ := hr
  refine ⟨cur, e, k1, k2, k3, by simpa using k4, fun y hy => ?_, fun i j y p u hy hp hu => ?_⟩
  ·obtain ⟨i, hi, rfl⟩ := List.getElem_of_mem hy
   rcases set_get (List.getElem?_eq_getElem hi) with ⟨_, e1, _⟩ | ⟨_, e1⟩
   ·rw [e1, hwc, splice_len _ _ _ (by rw [f2 x hxm]; exact hoff)]; exact f2 x hxm
   ·exact k5 _ (List.mem_of_getElem? e1)
  ·have hyl : y.cells.length = z := by
    rcases set_get hy with ⟨_, rfl, _⟩ | ⟨_, e1⟩
    ·rw [hwc, splice_len _ _ _ (by rw [f2 x hxm]; exact hoff)]; exact f2 x hxm
    ·exact k5 _ (List.mem_of_getElem? e1)
   rcases newcell i j y p hy hp (by rw [← hyl]; exact (List.getElem?_eq_some_iff.1 hp).1) with ⟨_, _, rfl⟩ | ⟨_, y0, q1, q2⟩
   ·exact ⟨.any _, trivial, fun e => absurd rfl e⟩
   ·exact k6 i j y0 p u q1 q2 hu
 have hI1 := hI.tell (xs' := xs.set ix (x.withCells (splice x.cells off [.any]))) hs (by simp) hrow'
 have hd1 : ap [(3 * t + 1, PV.rw v z (xs.set ix (x.withCells (splice x.cells off [.any]))))] σ (3 * d + 1) = .any := by rw [ap1_ne _ _ (by omega)]; exact hd
 have hst : ap [(3 * t + 1, PV.rw v z (xs.set ix (x.withCells (splice x.cells off [.any])))), (3 * d + 1, .rw 0 z' ys), (3 * d, .vw d 0 z' 0 ys.length)] σ = ap [(3 * d + 1, .rw 0 z' ys), (3 * d, .vw d 0 z' 0 ys.length)] (ap [(3 * t + 1, PV.rw v z (xs.set ix (x.withCells (splice x.cells off [.any]))))] σ) := by
  funext m
  by_cases h1 : m = 3 * t + 1
  ·subst h1
   rw [ap_self, ap_ne _ _ _ (by omega), ap_ne _ _ _ (by omega)]
   exact (ap1_self _ _ _).symm
  ·rw [ap_ne _ _ _ h1]
   by_cases h2 : m = 3 * d + 1
   ·rw [h2, ap_self, ap_self]
   ·rw [ap_ne _ _ _ h2, ap_ne _ _ _ h2]
    by_cases h3 : m = 3 * d
    ·rw [h3, ap_self, ap_self]
    ·rw [ap_ne _ _ _ h3, ap_ne _ _ _ h3]
     exact (ap1_ne _ _ h1).symm
 rw [hst]
 generalize hσ1 : ap [(3 * t + 1, PV.rw v z (xs.set ix (x.withCells (splice x.cells off [.any]))))] σ = σ1 at hI1 hd1
 have hs1 : σ1 (3 * t + 1) = .rw v z (xs.set ix (x.withCells (splice x.cells off [.any]))) := by rw [← hσ1]; exact ap1_self _ _ _
 rcases hnest with ⟨rfl, A, rfl⟩ | ⟨g, M, g1, rfl, g2⟩
 ·exact hI1.mkNil hdn hd1 hz' A
 ·have hgb : g ≠ b := fun e => by subst e; rw [hb] at g1; injection g1 with g1; injection g1 with _ g1; omega
  let ow' : Ow := fun b => if b = g then some (2 * d, 0) else ow b
  have e1 : ow' g = some (2 * d, 0) := if_pos rfl
  have e2 : ∀ b c l, ow b = some (c, l) → b ≠ g → ow' b = some (c, l) := fun b c l h hb => by
   show (if b = g then _ else ow b) = _
   rw [if_neg hb]; exact h
  have e3 : ∀ b c l, ow' b = some (c, l) → b ≠ g → ow b = some (c, l) := fun b c l h hb => by
   have h' : (if b = g then some (2 * d, 0) else ow b) = some (c, l) := h
   rw [if_neg hb] at h'; exact h'
  have hrep : ∀ p v, RepC (FF F0 ow) w p v → RepC (FF F0 ow') w p v := fun p v h => h.mono fun b o u hc hf => ⟨hc, hf.1, fun c l hcl => by
   by_cases hb : b = g
   ·subst hb
    have := (hf.2 _ _ g1).1
    omega
   ·exact hf.2 c l (e3 b c l hcl hb)⟩
  have h2 : ∀ k, ap [(3 * d + 1, PV.rw 0 z' ys)] σ1 (3 * k + 2) = σ1 (3 * k + 2) := fun k => ap1_ne _ _ (by omega)
  have h1 : ∀ k, k ≠ d → ap [(3 * d + 1, PV.rw 0 z' ys)] σ1 (3 * k + 1) = σ1 (3 * k + 1) := fun k hk => ap1_ne _ _ (by omega)
  have hI2 : InvO F0 B nt w0 ow' (ap [(3 * d + 1, .rw 0 z' ys)] σ1) a w := by
   refine hI1.objs (fun k => k = d ∨ k = t) (.of (Below.refl _ _)) (fun k => ap1_ne _ _ (by omega)) h2 (fun k hk => h1 k (fun e => hk (Or.inl e))) (fun k hk => ?_) (fun k hk => ?_) (fun k hk cs0 h => ?_) (fun k hk v1 z1 xs1 h => ?_) hrep
    (fun b' c' l h hk => ⟨e2 b' c' l h (fun e => ?_), rfl⟩) (fun b' k hk h => ?_) (fun b' c' l h => ?_) (fun b' k hk h => ?_) (fun b' b'' k hk h h' => ?_) (fun p u k hk hp q1 q2 h => ?_)
   ·rcases hk with rfl | rfl
    ·rw [ap1_self]; exact fun h => by cases h
    ·rw [h1 _ htd, hs1]; exact fun h => by cases h
   ·rcases hk with rfl | rfl
    ·rw [ap1_self]; exact hz'
    ·rw [h1 _ htd, hs1]; exact f3
   ·rcases hk with rfl | rfl
    ·rw [hd1] at h; cases h
    ·rw [hs1] at h; cases h
   ·rcases hk with rfl | rfl
    ·exact Or.inl hd1
    ·rw [h1 _ htd, hs1] at h
     cases h
     exact Or.inr ⟨_, _, _, hs1, Nat.le_refl _⟩
   ·subst e
    rw [g1] at h
    injection h with h
    injection h with h _
    exact hk t (Or.inr rfl) h.symm
   ·by_cases hb' : b' = g
    ·subst hb'
     rw [e1] at h
     injection h with h
     injection h with h _
     exact absurd (Or.inl (show k = d by omega)) hk
    ·exact e3 b' _ _ h hb'
   ·by_cases hb' : b' = g
    ·subst hb'; exact hI1.owB _ _ _ g1
    ·exact hI1.owB b' c' l (e3 b' c' l h hb')
   ·rcases hk with rfl | rfl
    ·have hb' : b' = g := by
      by_cases hb' : b' = g
      ·exact hb'
      ·exact absurd (e3 b' _ _ h hb') (fresh_ow hI1 hd1 b')
     subst hb'
     exact Or.inr ⟨0, z', ys, M, ap1_self _ _ _, g2.map rfl fun q p u hh => CellX.of (hh.map hrep), fun e => absurd e (by decide)⟩
    ·have hb' : b' ≠ g := fun e => by
      subst e
      rw [e1] at h
      injection h with h
      injection h with h _
      omega
     have hob := e3 b' _ _ h hb'
     obtain ⟨N', hr⟩ := (hI1.boxes b' k hob).row hs1
     refine Or.inr ⟨v, z, _, N', (h1 _ htd).trans hs1, ?_, fun e => hI1.fullN hs1 hob e hr⟩
     obtain ⟨cur, e, k1, k2, k3, k4, k5, k6⟩ := hr
     refine ⟨cur, e, k1, k2, k3, k4, k5, fun i j y p u hy hp hu => ?_⟩
     have hj : j < z := by rw [← k5 y (List.mem_of_getElem? hy)]; exact (List.getElem?_eq_some_iff.1 hp).1
     have hcx := k6 i j y p u hy hp hu
     cases p with
     | xo z2 ys2 =>
      obtain ⟨hn2, hz2⟩ := hcx
      refine ⟨?_, hz2⟩
      rcases hn2 with hn2 | ⟨g', M', m1, m2, m3⟩
      ·exact Or.inl hn2
      ·have hg' : g' ≠ g := fun e => by
        subst e
        rw [g1] at m1
        injection m1 with m1
        injection m1 with _ m1
        obtain ⟨rfl, rfl⟩ := addrEq hj hoff (show i * z + j = ix * z + off by omega)
        rcases newcell i j y _ hy hp hj with ⟨_, _, e⟩ | ⟨hne, _⟩
        ·cases e
        ·exact hne ⟨rfl, rfl⟩
       exact Or.inr ⟨g', M', e2 g' _ _ m1 hg', m2, m3.map rfl fun q p u hh => hh.map hrep⟩
     | _ => exact CellP.map (q := i * z + j) hcx hrep
   ·have key : ∀ b', ow' b' = some (2 * k, 0) → (k = d → b' = g) ∧ (k = t → ow b' = some (2 * t, 0)) := fun b' h => by
     by_cases hb' : b' = g
     ·refine ⟨fun _ => hb', fun hk' => ?_⟩
      subst hb'
      rw [e1] at h
      injection h with h
      injection h with h _
      omega
     ·refine ⟨fun hk' => ?_, fun hk' => ?_⟩
      ·subst hk'
       exact absurd (e3 b' _ _ h hb') (fresh_ow hI1 hd1 b')
      ·subst hk'; exact e3 b' _ _ h hb'
    rcases hk with hk | hk
    ·rw [(key b' h).1 hk, (key b'' h').1 hk]
    ·exact hI1.uniq _ _ _ ((key b' h).2 hk) ((key b'' h').2 hk)
   ·rcases hk with rfl | rfl
    ·exact (fresh_no hd1 hp q1 q2).elim
    ·refine h.map hp (h1 _ htd) (fun b' hb' => ⟨e2 b' _ _ hb' (fun e => ?_), rfl⟩) (fun b' hb' => ?_)
     ·subst e
      rw [g1] at hb'
      injection hb' with hb'
      injection hb' with _ hb'
      omega
     ·by_cases hb2 : b' = g
      ·subst hb2
       rw [e1] at hb'
       injection hb' with hb'
       injection hb' with hb' _
       omega
      ·exact e3 b' _ _ hb' hb2
  refine ⟨_, (ap_two (σ := σ1) (d := d) (.vw d 0 z' 0 ys.length) (.rw 0 z' ys)) ▸ hI2.put (dst := some d) (fun d' e => by cases e; exact hdn) (p := .vw d 0 z' 0 ys.length) ?_ ?_⟩
  ·obtain ⟨cur, e, k1, k2, k3, k4, _⟩ := g2
   refine ⟨Nat.zero_le _, Or.inr ⟨g, M, by omega, by simp, fun xs' hx => ?_⟩⟩
   rw [ap1_self] at hx
   cases hx
   exact ⟨e1, Nat.le_refl _, cur, e, k1, k3⟩
  ·unfold wfT wf1
   simp only []
   unfold tokOk
   simp only [ap1_self]
   rfl
end
section
variable {P : Program} {T : Tab} {PC : Orc} {Q : Exit → Act → World → Prop} {o : Oper} {a : Act} {w w' : World} {B nt : Nat} {w0 : W0} {F0 : Nat → Nat → Prop} {ow : Ow} {σ : St} {K : List Nat → List (Nat × PV) → Prop}
theorem nlx_rep {c q : Nat} {p : PV} {u : Value} (h : CellX F0 ow w c q p u) (hp : p.isAny = false) : RepC (FF F0 ow) w p.nlx u ∧ u.oneCell' = true := by
 cases p with
 | xo z xs =>
  obtain ⟨h, _⟩ := h
  rcases h with ⟨rfl, A, rfl⟩ | ⟨g, N, _, rfl, _⟩
  ·exact ⟨.nl 0 A 0, rfl⟩
  ·exact ⟨.nl _ _ _, rfl⟩
 | any => simp [PV.isAny] at hp
 | sl k z xs => exact ⟨h.1.sl_of (fun e => by cases e), h.2.2 (fun e => by cases e)⟩
 | _ => exact ⟨h.1, h.2.2 (fun e => by cases e)⟩
theorem sim_loadX {t : TypeId} {x : Operand} (hT : TabOk P T) (ho : o.op = .load t x) (hI : InvO F0 B nt w0 ow σ a w) (hd : ∀ d, o.dst = some d → d < nt) {i : TyI} {tk v z ix off : Nat} {R0 : List Nat} (ht : T.get t = some i)
 (hv : RepV ow w σ (.el tk v z ix off) (a.eval x)) (h : (loadX T i o.dst tk v z ix off).run PC σ (fun R ws => K (R0 ++ R) ws)) : o.wp P a w (Sim F0 B nt w0 σ K) Q := by
 have hti := hT t i ht
 unfold loadX at h
 obtain ⟨xs, hs, h⟩ := curRw_inv h
 obtain ⟨x0, hx, h⟩ := h
 obtain ⟨b, hu, hcur⟩ := hv
 have hb := hcur xs hs
 obtain ⟨N, hrow⟩ := (hI.boxes b tk hb).row hs
 have hrun : ∀ v, (Instr.loadAt t (.pointer (some ⟨b, ix * z + off, none⟩))).run P w = .ok v w → (execOp a.eval o).run P w = .ok (.value v) w := fun v hv => by
  unfold execOp; rw [ho]; simp [hu, hv]
 cases hag : i.agg
 ·rw [hag] at h
  simp only [cond_false] at h
  cases hc : x0.cells[off]? with
  | none => rw [hc] at h; exact h.elim
  | some c =>
   rw [hc] at h
   obtain ⟨u, hcell, hcx⟩ := hrow.cell hx hc
   have hr := hrun u (loadVar_sc hti hag b _ u hcell)
   replace h : (loadC T o.dst tk v z ix off xs x0 c).run PC σ (fun R ws => K (R0 ++ (3 * tk + 1) :: R) ws) := h
   have hput : ∀ R ws, K (R0 ++ (3 * tk + 1) :: R) ws → K ((R0 ++ [3 * tk + 1]) ++ R) ws := fun R ws hk => by rw [List.append_assoc]; exact hk
   replace h := run_mono _ hput h
   unfold loadC at h
   cases c with
   | xo z' ys =>
    simp only [] at h
    split at h
    ·rename_i d hdst
     cases hX : T.isX d
     ·rw [hX] at h
      refine sim_plain (PC := PC) (p := .nl ys.length) hI hd hr rfl (nlx_rep hcx rfl).1 (R0 := R0 ++ [3 * tk + 1]) ?_
      rw [hdst]; exact h
     ·rw [hX] at h
      simp only [cond_true, AM.run, force_eq] at h
      split at h
      ·rename_i hany
       obtain ⟨q, e, h⟩ := h
       simp only [AM.run, forceW_eq] at h
       refine wp_value hr ⟨_, _, h, ?_⟩
       rw [hdst]
       cases e
       exact hI.take hs hx hc hb hcell (hd d hdst) hany rfl
      ·exact h.elim
    ·exact h.elim
   | any => exact sim_plain (PC := PC) (p := .any) hI hd hr rfl (.any _) (R0 := R0 ++ [3 * tk + 1]) h
   | sl k z' ys =>
    have hrc := hcx.1
    match k with
    | 0 => exact sim_plain (PC := PC) (p := .sl 0 z' ys) hI hd hr rfl hrc (R0 := R0 ++ [3 * tk + 1]) h
    | 1 => exact sim_put (PC := PC) (p := .sl 1 z' ys) hI hd hr ⟨hrc, hrc.full⟩ trivial (R0 := R0 ++ [3 * tk + 1]) h
    | k + 2 => exact sim_plain (PC := PC) (p := .sl 0 z' ys) hI hd hr rfl (hrc.sl_of (fun e => by cases e)) (R0 := R0 ++ [3 * tk + 1]) h
   | s y => exact sim_plain (PC := PC) (p := .s y) hI hd hr rfl hcx.1 (R0 := R0 ++ [3 * tk + 1]) h
   | tt => exact sim_plain (PC := PC) (p := .s (.bool true)) hI hd hr rfl hcx.1.rc (R0 := R0 ++ [3 * tk + 1]) h
   | ff => exact sim_plain (PC := PC) (p := .s (.bool false)) hI hd hr rfl hcx.1.rc (R0 := R0 ++ [3 * tk + 1]) h
   | nl n => exact sim_plain (PC := PC) (p := .nl n) hI hd hr rfl hcx.1 (R0 := R0 ++ [3 * tk + 1]) h
   | rp cs => exact sim_plain (PC := PC) (p := .rp cs) hI hd hr rfl hcx.1 (R0 := R0 ++ [3 * tk + 1]) h
   | ag cs => exact sim_plain (PC := PC) (p := .ag cs) hI hd hr rfl hcx.1 (R0 := R0 ++ [3 * tk + 1]) h
   | tu ps =>
    obtain ⟨h1, _, h2⟩ := hcx
    have := h2 (fun e => by cases e)
    cases h1
    simp [Value.oneCell'] at this
   | cl f cs =>
    obtain ⟨h1, _, _⟩ := hcx
    cases h1 with
    | cl f cs vs hl hc => exact sim_put (PC := PC) (p := .cl f cs) hI hd hr (clT hl hc).1 (clT (B := B) hl hc).2 (R0 := R0 ++ [3 * tk + 1]) h
   | pt => cases hcx.1
   | fr => cases hcx.1
   | vw => cases hcx.1
   | el => cases hcx.1
   | rw => cases hcx.1
 ·rw [hag] at h
  simp only [cond_true] at h
  cases hc : Nat.ble (off + i.size) x0.cells.length && ((x0.cells.drop off).take i.size).all (fun p => !p.isAny)
  ·rw [hc] at h; exact h.elim
  rw [hc] at h
  rw [Bool.and_eq_true] at hc
  have hle := Nat.le_of_ble_eq_true hc.1
  have hall := hc.2
  simp only [cond_true] at h
  have key : ∀ j, j < i.size → ∃ p u, x0.cells[off + j]? = some p ∧ ((x0.cells.drop off).take i.size)[j]? = some p ∧ w.cell? ⟨b, ix * z + off + j, none⟩ = some u ∧ RepC (FF F0 ow) w p.nlx u ∧ u.oneCell' = true := fun j hj => by
   have hp : x0.cells[off + j]? = some (x0.cells[off + j]'(by omega)) := List.getElem?_eq_getElem (by omega)
   have hp2 : ((x0.cells.drop off).take i.size)[j]? = some (x0.cells[off + j]'(by omega)) := by rw [List.getElem?_take, if_pos hj, List.getElem?_drop]; exact hp
   obtain ⟨u, k1, k2⟩ := hrow.cell hx hp
   have hna := List.all_eq_true.1 hall _ (List.mem_of_getElem? hp2)
   obtain ⟨k3, k4⟩ := nlx_rep k2 (by simpa using hna)
   exact ⟨_, u, hp, hp2, by rw [Nat.add_assoc]; exact k1, k3, k4⟩
  have hget : ∀ j, j < i.size → ((List.range i.size).map fun j => (w.cell? ⟨b, ix * z + off + j, none⟩).getD undef)[j]? = some ((w.cell? ⟨b, ix * z + off + j, none⟩).getD undef) := fun j hj => by simp [hj]
  have hra : w.rangeAt b (ix * z + off) ((List.range i.size).map fun j => (w.cell? ⟨b, ix * z + off + j, none⟩).getD undef) := fun j v hv => by
   have hj : j < i.size := by have := (List.getElem?_eq_some_iff.1 hv).1; simpa using this
   rw [hget j hj] at hv
   cases hv
   obtain ⟨p, u, _, _, k1, _⟩ := key j hj
   rw [k1]; rfl
  refine sim_plain (PC := PC) (p := .ag (((x0.cells.drop off).take i.size).map PV.nlx)) hI hd (hrun _ (loadVar_agg hti hag b (ix * z + off) _ (by simp) hra)) rfl (.ag _ _ ?_ ?_ ?_) (R0 := R0 ++ [3 * tk + 1]) (run_mono _ (fun R ws hk => by rw [List.append_assoc]; exact hk) h)
  ·simp; omega
  ·intro v hv
   simp only [List.mem_map, List.mem_range] at hv
   obtain ⟨j, hj, rfl⟩ := hv
   obtain ⟨p, u, _, _, k1, _, k2⟩ := key j hj
   rw [k1]; exact k2
  ·intro j p v hp hv
   have hj : j < i.size := by have := (Array.getElem?_eq_some_iff.1 hv).1; simpa using this
   have hv2 : ((List.range i.size).map fun j => (w.cell? ⟨b, ix * z + off + j, none⟩).getD undef)[j]? = some v := by simpa using hv
   rw [hget j hj] at hv2
   cases hv2
   obtain ⟨p', u, _, q2, k1, k3, _⟩ := key j hj
   rw [List.getElem?_map, q2] at hp
   cases hp
   rw [k1]; exact k3
theorem withCells_list {x : PV} {cs : List PV} (h : cs.length = x.cells.length) (h1 : ∀ c ∈ cs, c.cells = [c]) : (x.withCells cs).cells = cs := cells_withCells h h1
theorem InvO.setCells (hI : InvO F0 B nt w0 ow σ a w) {t v z ix off b : Nat} {xs : List PV} {x : PV} {cs : List PV} {vs : List Value} (hs : σ (3 * t + 1) = .rw v z xs) (hx : xs[ix]? = some x) (hb : ow b = some (2 * t, 0)) (hle : off + cs.length ≤ x.cells.length) (hl : cs.length = vs.length)
 (h1 : ∀ c ∈ cs, c.cells = [c]) (hc : ∀ (j : Nat) (c : PV) (u : Value), cs[j]? = some c → vs[j]? = some u → CellX F0 ow w (2 * t) (ix * z + off + j) c u) (hone : ∀ u ∈ vs, u.oneCell' = true) {cur : Array Value} {e : TypeId} (h0 : w.heap[b]? = some (.cells cur e (0, 0))) :
 ix * z + off + vs.length ≤ cur.size ∧ InvO F0 B nt w0 ow (ap [(3 * t + 1, .rw v z (xs.set ix (x.withCells (splice x.cells off cs))))] σ) a (w.setRow b (spliceV cur (ix * z + off) vs)) := by
 obtain ⟨N, hrow⟩ := (hI.boxes b t hb).row hs
 have hrow0 := hrow
 obtain ⟨cur', e', b1, b2, b3, b4, b5, b6⟩ := hrow
 rw [h0] at b1
 cases b1
 have hxm := List.mem_of_getElem? hx
 have hix : ix < xs.length := (List.getElem?_eq_some_iff.1 hx).1
 have hwc : (x.withCells (splice x.cells off cs)).cells = splice x.cells off cs := withCells_list (splice_len _ _ _ hle) (fun c hc => by
  rcases splice_mem hc with h | h
  ·exact row_single hrow0 hx c h
  ·exact h1 c h)
 have hle2 : ix * z + off + vs.length ≤ cur.size := by
  have : (ix + 1) * z ≤ N * z := Nat.mul_le_mul_right _ (by omega)
  rw [Nat.add_mul, Nat.one_mul] at this
  have := b5 x hxm
  omega
 refine ⟨hle2, hI.rowSet hs hb (Nat.le_refl _) (by simp) h0 (spliceV_size hle2) b3 (by simpa using b4) (fun y hy => ?_) (fun i j y p u hy hp hu => ?_) (fun e => by rw [List.length_set]; exact hI.fullN hs hb e hrow0)⟩
 ·obtain ⟨i, hi, rfl⟩ := List.getElem_of_mem hy
  rcases set_get (List.getElem?_eq_getElem hi) with ⟨_, e1, _⟩ | ⟨_, e1⟩
  ·rw [e1, hwc, splice_len _ _ _ hle]; exact b5 x hxm
  ·exact b5 _ (List.mem_of_getElem? e1)
 ·rw [spliceV_get hle2] at hu
  rcases set_get hy with ⟨rfl, rfl, _⟩ | ⟨hne, hy⟩
  ·rw [hwc] at hp
   have hj : j < z := by
    have := (List.getElem?_eq_some_iff.1 hp).1
    rw [splice_len _ _ _ hle, b5 x hxm] at this
    exact this
   rw [splice_get _ _ _ hle] at hp
   by_cases hin : off ≤ j ∧ j < off + cs.length
   ·rw [if_pos hin] at hp
    rw [if_neg (by omega), if_pos (by omega), show i * z + j - (i * z + off) = j - off by omega] at hu
    have := hc (j - off) p u hp hu
    rwa [show i * z + off + (j - off) = i * z + j by omega] at this
   ·rw [if_neg hin] at hp
    by_cases h2 : i * z + j < i * z + off
    ·rw [if_pos h2] at hu; exact b6 i j x p u hx hp hu
    ·rw [if_neg h2, if_neg (by omega)] at hu; exact b6 i j x p u hx hp hu
  ·have hj : j < z := by rw [← b5 y (List.mem_of_getElem? hy)]; exact (List.getElem?_eq_some_iff.1 hp).1
   have hxl := b5 x hxm
   by_cases h2 : i * z + j < ix * z + off
   ·rw [if_pos h2] at hu; exact b6 i j y p u hy hp hu
   ·rw [if_neg h2] at hu
    have h3 : ¬ i * z + j < ix * z + off + vs.length := fun h => by
     rcases Nat.lt_or_gt_of_ne hne with h4 | h4
     ·have : (i + 1) * z ≤ ix * z := Nat.mul_le_mul_right _ h4
      rw [Nat.add_mul, Nat.one_mul] at this
      omega
     ·have : (ix + 1) * z ≤ i * z := Nat.mul_le_mul_right _ h4
      rw [Nat.add_mul, Nat.one_mul] at this
      omega
    rw [if_neg h3] at hu
    exact b6 i j y p u hy hp hu
theorem sim_storeX {t : TypeId} {x y : Operand} (hT : TabOk P T) (ho : o.op = .store t x y) (hI : InvO F0 B nt w0 ow σ a w) {i : TyI} {tk v z ix off : Nat} {q : PV} {R0 : List Nat} (ht : T.get t = some i) (hdst : o.dst = none)
 (hv : RepV ow w σ (.el tk v z ix off) (a.eval x)) (hq : RepT F0 B ow w σ q (a.eval y)) (hqw : wfT σ q) (h : (storeX i tk v z ix off q).run PC σ (fun R ws => K (R0 ++ R) ws)) : o.wp P a w (Sim F0 B nt w0 σ K) Q := by
 have hti := hT t i ht
 unfold storeX at h
 obtain ⟨xs, hs, h2⟩ := curRw_inv h
 clear h
 obtain ⟨x0, hx, h⟩ := h2
 obtain ⟨b, hu, hcur⟩ := hv
 have hb := hcur xs hs
 obtain ⟨N, hrow⟩ := (hI.boxes b tk hb).row hs
 obtain ⟨f1, f2, f3⟩ := row_facts hrow
 obtain ⟨cur, e, h0, _⟩ := id hrow
 obtain ⟨ti, zv, i1, i2, _⟩ := hti.info
 have hrunS : (a.eval y).cells.size = i.size → (∀ u ∈ (a.eval y).cells.toList, u.oneCell' = true) → ix * z + off + (a.eval y).cells.toList.length ≤ cur.size →
  (execOp a.eval o).run P w = .ok .skip (w.setRow b (spliceV cur (ix * z + off) (a.eval y).cells.toList)) := fun hsz hone hfit => by
  have hst := run_storeCells_at (P := P) b (ix * z + off) e (a.eval y).cells.toList 0 cur w h0 (by simpa using hfit) hone
  simp only [Nat.add_zero] at hst
  unfold execOp; rw [ho]; simp [Instr.storeAt, Instr.sureAddr, hu, storeVar, sizeOf, typeInfo, i1, hsz, i2, hst, spliceV]
 have plain : ∀ q' : PV, q' = q → (storeP i tk v z ix off xs x0 q').run PC σ (fun R ws => K (R0 ++ (3 * tk + 1) :: R) ws) → o.wp P a w (Sim F0 B nt w0 σ K) Q := by
  intro q' hqq hp
  subst hqq
  unfold storeP at hp
  cases hc : Nat.beq q'.cells.length i.size && Nat.ble (off + i.size) x0.cells.length && q'.cells.all cellable
  ·rw [hc] at hp; exact hp.elim
  rw [hc] at hp
  rw [Bool.and_eq_true, Bool.and_eq_true] at hc
  obtain ⟨⟨c1, c2⟩, c3⟩ := hc
  have c1' := Nat.eq_of_beq_eq_true c1
  have c2' := Nat.le_of_ble_eq_true c2
  obtain ⟨p, ep, hp⟩ := hp
  simp only [AM.run, forceW_eq] at hp
  obtain ⟨e1, e2⟩ := cells_rc hq c3
  obtain ⟨_, e3⟩ := cells_raw hq c3
  have hone : ∀ u ∈ (a.eval y).cells.toList, u.oneCell' = true := fun u hu => by
   obtain ⟨j, hj, rfl⟩ := List.getElem_of_mem hu
   have hj2 : j < q'.cells.length := by rw [e1]; simpa using hj
   exact (e3 j _ _ (List.getElem?_eq_getElem hj2) (by simp)).1
  obtain ⟨k1, k2⟩ := hI.setCells (cs := q'.cells.map PV.rc) (vs := (a.eval y).cells.toList) (off := off) hs hx hb (by simp; omega) (by simp [e1]) (fun c hc => by
   obtain ⟨q0, hq0, rfl⟩ := List.mem_map.1 hc
   exact rc_cells (List.all_eq_true.1 c3 q0 hq0))
   (fun j c u hc hu => CellX.of ((e2 j c u hc (by simpa using hu)).2.1 _)) hone h0
  refine wp_skipped (hrunS (by omega) hone k1) ⟨_, _, hp, ow, ?_⟩
  rw [hdst]
  cases ep
  exact k2
 replace h : (storeC i tk v z ix off xs x0 q).run PC σ (fun R ws => K (R0 ++ (3 * tk + 1) :: R) ws) := h
 unfold storeC at h
 split at h
 ·rename_i t2 v2 z2 lo hi
  cases hc : Nat.beq lo 0 && Nat.beq i.size 1 && Nat.ble (off + 1) x0.cells.length && !(Nat.beq t2 tk) && !i.agg
  ·rw [hc] at h; exact h.elim
  rw [hc] at h
  simp only [Bool.and_eq_true, Bool.not_eq_true'] at hc
  obtain ⟨⟨⟨⟨c1, c2⟩, c3⟩, c4⟩, c5⟩ := hc
  obtain rfl := Nat.eq_of_beq_eq_true c1
  have c2' := Nat.eq_of_beq_eq_true c2
  have c3' := Nat.le_of_ble_eq_true c3
  have hne : t2 ≠ tk := fun e => by subst e; simp at c4
  simp only [cond_true] at h
  obtain ⟨ys, hs2, h⟩ := curRw_inv h
  obtain ⟨p, ep, h⟩ := h
  cases ep
  simp only [] at h
  obtain ⟨hn, h⟩ := h
  obtain ⟨q, eq, h⟩ := h
  cases eq
  simp only [AM.run, forceW_eq] at h
  obtain ⟨u0, u1, hvw⟩ := view_cur hI (show RepV ow w σ (.vw t2 v2 z2 0 hi) (a.eval y) from hq) hs2
  have hz2 := rw_pos hI hs2
  have hoff : ix * z + off < 0 ∨ True := Or.inr trivial
  have hI1 := hI.give hs2 (some (2 * tk, ix * z + off + 1)) (fun c l e k => by cases e; exact fun e => by injection e with _ e; omega)
  have hs1 : ap [(3 * t2 + 1, PV.s undef)] σ (3 * tk + 1) = .rw v z xs := by rw [ap1_ne _ _ (by omega)]; exact hs
  have hb1 : (fun b => if ow b = some (2 * t2, 0) then some (2 * tk, ix * z + off + 1) else ow b) b = some (2 * tk, 0) := by
   show (if ow b = some (2 * t2, 0) then _ else ow b) = _
   rw [if_neg (by rw [hb]; exact fun e => by injection e with e; injection e with e _; omega)]; exact hb
  have hrep : ∀ p v, RepC (FF F0 ow) w p v → RepC (FF F0 fun b => if ow b = some (2 * t2, 0) then some (2 * tk, ix * z + off + 1) else ow b) w p v := fun p v h => h.mono fun b o u hc hf => ⟨hc, hf.1, fun c l hcl => by
   replace hcl : (if ow b = some (2 * t2, 0) then some (2 * tk, ix * z + off + 1) else ow b) = some (c, l) := hcl
   split at hcl
   ·rename_i hb
    have := (hf.2 _ _ hb).1
    omega
   ·exact hf.2 c l hcl⟩
  have hval : (a.eval y).cells = #[a.eval y] ∧ (a.eval y).oneCell' = true := by
   rcases hvw with ⟨_, _, A, e⟩ | ⟨b2, N2, _, e, _⟩ <;> (rw [e]; exact ⟨rfl, rfl⟩)
  have hnest : CellX F0 (fun b => if ow b = some (2 * t2, 0) then some (2 * tk, ix * z + off + 1) else ow b) w (2 * tk) (ix * z + off + 0) (.xo z2 (ys.take hi)) (a.eval y) := by
   refine ⟨?_, hz2⟩
   rcases hvw with ⟨e1, e2, A, e⟩ | ⟨b2, N2, g1, e, g2, g3⟩
   ·refine Or.inl ⟨?_, A, e⟩
    rw [← e1]; simp
   ·refine Or.inr ⟨b2, N2, if_pos g1, ?_, ?_⟩
    ·rw [e, List.length_take, Nat.min_eq_left u1]; simp
    ·obtain ⟨cur2, e2, m1, m2, m3, m4, m5, m6⟩ := g3
     refine ⟨cur2, e2, m1, m2, m3, by rw [List.length_take]; omega, fun x hx => m5 x (List.mem_of_mem_take hx), fun i j x p u hx hp hu => ?_⟩
     have hx' : ys[i]? = some x := by
      rw [List.getElem?_take] at hx
      split at hx
      ·exact hx
      ·cases hx
     obtain ⟨q1, q2⟩ := cellX_plain (m6 i j x p u hx' hp hu) (hn x (List.mem_of_getElem? hx) p (List.mem_of_getElem? hp))
     exact ⟨hrep _ _ q1, trivial, fun _ => q2⟩
  obtain ⟨k1, k2⟩ := hI1.setCells (cs := [.xo z2 (ys.take hi)]) (vs := [a.eval y]) (off := off) hs1 hx hb1 (by simpa using c3') rfl (fun c hc => by simp at hc; subst hc; rfl)
   (fun j c u hc hu => by
    cases j with
    | zero => simp at hc hu; subst hc; subst hu; exact hnest
    | succ j => simp at hc) (fun u hu => by simp at hu; subst hu; exact hval.2) h0
  have hlist : (a.eval y).cells.toList = [a.eval y] := by rw [hval.1]
  have := hrunS (by rw [hval.1]; simp [c2']) (by rw [hlist]; intro u hu; simp at hu; subst hu; exact hval.2) (by rw [hlist]; exact k1)
  rw [hlist] at this
  refine wp_skipped this ⟨_, _, h, (fun b => if ow b = some (2 * t2, 0) then some (2 * tk, ix * z + off + 1) else ow b), ?_⟩
  rw [hdst, ap_cons, ap_comm _ _ (show 3 * t2 + 1 ≠ 3 * tk + 1 by omega)]
  exact k2
 ·exact plain _ rfl h
end
section
variable {P : Program} {T : Tab} {PC : Orc} {Q : Exit → Act → World → Prop} {o : Oper} {a : Act} {w w' : World} {B nt : Nat} {w0 : W0} {F0 : Nat → Nat → Prop} {ow : Ow} {σ : St} {K : List Nat → List (Nat × PV) → Prop}
theorem grownBy_ext {w w' : World} (h : w.grownBy w' none) : Ext w w' := ⟨h.os, h.tape, h.output, h.size, fun k hk => h.block k hk (by simp)⟩
theorem view_bump {t v v' z lo hi : Nat} {u : Value} {xs : List PV} (hv : RepV ow w σ (.vw t v z lo hi) u) (hs : σ (3 * t + 1) = .rw v z xs) : RepV ow w (ap [(3 * t + 1, .rw v' z xs)] σ) (.vw t v' z lo hi) u := by
 obtain ⟨h0, h⟩ := hv
 refine ⟨h0, ?_⟩
 rcases h with ⟨a1, a2, a3⟩ | ⟨b, N, k1, k2, k3⟩
 ·refine Or.inl ⟨a1, a2, fun xs' hx => ?_⟩
  rw [ap1_self] at hx
  cases hx
  exact a3 _ hs
 ·refine Or.inr ⟨b, N, k1, k2, fun xs' hx => ?_⟩
  rw [ap1_self] at hx
  cases hx
  exact k3 _ hs
theorem vw_wf {t v z lo hi : Nat} {xs : List PV} : wfT (ap [(3 * t + 1, .rw v z xs)] σ) (.vw t v z lo hi) := by
 unfold wfT wf1
 simp only []
 unfold tokOk
 simp only [ap1_self]
 exact Nat.ble_eq_true_of_le (Nat.le_refl v)
theorem sim_appX {i : TyI} {e d tk v hi : Nat} {xs ys : List PV} {base : Value} {R0 : List Nat} (hI : InvO F0 B nt w0 ow σ a w) (hdst : o.dst = some d) (hdn : d < nt) (hs : σ (3 * tk + 1) = .rw v i.size xs) (hv : RepV ow w σ (.vw tk v i.size 0 hi) base)
 {news : List Value} (hn : News F0 ow w i.size ys news) (r0 : ys = [] → (execOp a.eval o).run P w = .ok (.value base) w)
 (rR : ∀ b n c cur e', base = .slice (some ⟨b, 0, none⟩) n c → w.heap[b]? = some (.cells cur e' (0, 0)) → n + ys.length ≤ c → n * i.size + news.length ≤ cur.size → (execOp a.eval o).run P w = .ok (.value (.slice (some ⟨b, 0, none⟩) (n + ys.length) c)) (w.setRow b (spliceV cur (n * i.size) news)))
 (rG : ∀ A n c olds, base = .slice A n c → c < n + ys.length → olds.length = n * i.size → (∀ a0, A = some a0 → ∀ j u, olds[j]? = some u → w.cell? (a0.add j) = some u) → n + ys.length ≤ maxLen → (n + ys.length) * i.bytes ≤ 140737488355328 →
  ∃ v' w', (execOp a.eval o).run P w = .ok (.value v') w' ∧ w'.ownsRow w.heap.size e i.size v' (n + ys.length) (olds ++ news) ∧ w.grownBy w' none)
 (hev : v % 2 = 0) (h : (appX i d tk v hi xs ys).run PC σ fun R ws => K (R0 ++ R) ws) : o.wp P a w (Sim F0 B nt w0 σ K) Q := by
 unfold appX at h
 obtain ⟨⟨l1, l2⟩, q, eq, h⟩ := h
 simp only [AM.run, forceW_eq] at h
 cases eq
 have hz := rw_pos hI hs
 obtain ⟨h0, h1, hvw⟩ := view_cur hI hv hs
 have hspl : xs.take hi ++ ys ++ xs.drop (hi + ys.length) = spliceE xs hi ys := rfl
 rw [hspl] at h
 have fin : ∀ {ow' : Ow} {w' : World} {v' : Value}, (execOp a.eval o).run P w = .ok (.value v') w' → InvO F0 B nt w0 ow' (ap [(3 * tk + 1, .rw (v + 2) i.size (spliceE xs hi ys))] σ) a w' → RepV ow' w' (ap [(3 * tk + 1, .rw (v + 2) i.size (spliceE xs hi ys))] σ) (.vw tk (v + 2) i.size 0 (hi + ys.length)) v' → o.wp P a w (Sim F0 B nt w0 σ K) Q := by
  intro ow' w' v' hr hI' hr'
  refine wp_value hr ⟨_, _, h, ow', ?_⟩
  rw [hdst, ap_2 _ _ (by omega)]
  exact hI'.put (dst := some d) (fun d' e => by cases e; exact hdn) (p := .vw tk (v + 2) i.size 0 (hi + ys.length)) hr' vw_wf
 by_cases hy : ys = []
 ·subst hy
  have hb := hI.bump (v' := v + 2) hs (by omega) (fun e g N hg hr => hI.fullN hs hg (by omega) hr)
  rw [← spliceE_nil (xs := xs) (k := hi)] at hb
  refine fin (r0 rfl) hb ?_
  rw [spliceE_nil]
  exact view_bump hv hs
 have hm : 0 < ys.length := List.length_pos_iff.2 hy
 obtain ⟨n1, n2, n3, n4⟩ := id hn
 have grow : ∀ (A : Option Addr) (c : Nat) (olds : List Value), base = .slice A hi c → c < hi + ys.length → olds.length = hi * i.size → (∀ a0, A = some a0 → ∀ j u, olds[j]? = some u → w.cell? (a0.add j) = some u) → xs.length ≤ hi + ys.length → (∀ x ∈ xs, x.cells.length = i.size) →
  (∀ (i' j : Nat) (x p : PV), i' < hi → xs[i']? = some x → x.cells[j]? = some p → ∃ u, olds[i' * i.size + j]? = some u ∧ CellX F0 ow w (2 * tk) (i' * i.size + j) p u) → o.wp P a w (Sim F0 B nt w0 σ K) Q := by
  intro A c olds hbase hc hol holds hxl hxz hcells
  obtain ⟨v', w', g1, g2, g3⟩ := rG A hi c olds hbase hc hol holds l1 l2
  have he := grownBy_ext g3
  rcases g2.2 with ⟨_, hz0⟩ | ⟨g, cap, cur, rfl, hgB, hgg, hnc, hcm, hcs, htake⟩
  ·omega
  ·have hgw : g < w'.heap.size := (Array.getElem?_eq_some_iff.1 hgg).1
   have hxs' : ∀ (i' : Nat) (x : PV), (spliceE xs hi ys)[i']? = some x → (i' < hi ∧ xs[i']? = some x) ∨ (hi ≤ i' ∧ i' < hi + ys.length ∧ ys[i' - hi]? = some x) := fun i' x hx => by
    rw [spliceE_get h1] at hx
    split at hx
    ·exact Or.inl ⟨by assumption, hx⟩
    ·split at hx
     ·exact Or.inr ⟨by omega, by assumption, hx⟩
     ·have := (List.getElem?_eq_some_iff.1 hx).1; omega
   have hlen : (spliceE xs hi ys).length = hi + ys.length := by rw [spliceE_len h1]; omega
   have hzx : ∀ x ∈ spliceE xs hi ys, x.cells.length = i.size := fun x hx => by
    obtain ⟨i', hi', rfl⟩ := List.getElem_of_mem hx
    rcases hxs' i' _ (List.getElem?_eq_getElem hi') with ⟨_, e1⟩ | ⟨_, _, e1⟩
    ·exact hxz _ (List.mem_of_getElem? e1)
    ·exact n2 _ (List.mem_of_getElem? e1)
   obtain ⟨ow', hI', hob⟩ := hI.move (xs' := spliceE xs hi ys) (g := g) (N := cap) (v' := v + 2) hs (by omega) (by omega) he hgB hgw (fun ow' hrep hnest => by
    refine ⟨cur, e, hgg, hz, hcs, by omega, hzx, fun i' j x p u hx hp hu => ?_⟩
    have hj : j < i.size := by rw [← hzx x (List.mem_of_getElem? hx)]; exact (List.getElem?_eq_some_iff.1 hp).1
    have hi' : i' < hi + ys.length := by rw [← hlen]; exact (List.getElem?_eq_some_iff.1 hx).1
    have hq : (olds ++ news)[i' * i.size + j]? = some u := by
     rw [← htake, List.getElem?_take, if_pos (mulLt hi' hj)]
     simpa using hu
    rcases hxs' i' x hx with ⟨g4, g5⟩ | ⟨g4, g5, g6⟩
    ·obtain ⟨u', k1, k2⟩ := hcells i' j x p g4 g5 hp
     rw [List.getElem?_append_left (by rw [hol]; exact mulLt g4 hj), k1] at hq
     cases hq
     exact k2.map hrep hnest
    ·have hle : hi * i.size ≤ i' * i.size := Nat.mul_le_mul_right _ g4
     rw [List.getElem?_append_right (by omega), hol, show i' * i.size + j - hi * i.size = (i' - hi) * i.size + j by rw [Nat.sub_mul]; omega] at hq
     exact .news (hrep _ _ (n4 _ j x p u g6 hp hq)) (n3 u (List.mem_of_getElem? hq)))
   refine fin g1 hI' ⟨Nat.zero_le _, Or.inr ⟨g, cap, hnc, by simp, fun xs1 hx => ?_⟩⟩
   rw [ap1_self] at hx
   cases hx
   exact ⟨hob, by omega, cur, e, hgg, hcs⟩
 rcases hvw with ⟨e1, e2, A, hbase⟩ | ⟨b, N, g1, hbase, g2, g3⟩
 ·subst e1
  have hx0 : xs = [] := List.eq_nil_of_length_eq_zero e2
  subst hx0
  exact grow A 0 [] hbase (by omega) (by simp) (fun a0 _ j u hj => by simp at hj) (by simp) (fun x hx => by cases hx) (fun i' j x p hi' _ _ => by omega)
 ·obtain ⟨cur, e', b1, b2, b3, b4, b5, b6⟩ := id g3
  simp only [Nat.zero_mul, Nat.sub_zero] at hbase
  by_cases hfit : hi + ys.length ≤ N
  ·obtain ⟨k1, k2⟩ := hI.write (ys := ys) (k := hi) (v' := v + 2) hs g1 (by omega) b1 g3 h1 hfit hn (by omega)
   refine fin (rR b hi N cur e' hbase b1 hfit k1) k2 ⟨Nat.zero_le _, Or.inr ⟨b, N, hfit, by simp, fun xs1 hx => ?_⟩⟩
   rw [ap1_self] at hx
   cases hx
   refine ⟨g1, by rw [spliceE_len h1]; omega, spliceV cur (hi * i.size) news, e', setRow_heap w b cur _ e' (0, 0) b1, by rw [spliceV_size k1, b3]⟩
  ·refine grow (some ⟨b, 0, none⟩) N (cur.toList.take (hi * i.size)) hbase (by omega) ?_ (fun a0 ha j u hj => ?_) (by omega) b5 (fun i' j x p hi' hx hp => ?_)
   ·rw [List.length_take, Nat.min_eq_left]
    have : hi * i.size ≤ N * i.size := Nat.mul_le_mul_right _ g2
    simpa [b3] using this
   ·cases ha
    rw [List.getElem?_take] at hj
    split at hj
    ·rw [Addr.add_lit, Nat.zero_add]
     exact (cell_of_row w b j cur e' (0, 0) b1).trans (by simpa using hj)
    ·cases hj
   ·obtain ⟨u, k1, k2⟩ := g3.cell hx hp
    have hj : j < i.size := by rw [← b5 x (List.mem_of_getElem? hx)]; exact (List.getElem?_eq_some_iff.1 hp).1
    refine ⟨u, ?_, k2⟩
    rw [List.getElem?_take, if_pos (mulLt hi' hj)]
    have := (cell_of_row w b (i' * i.size + j) cur e' (0, 0) b1).symm.trans k1
    simpa using this
theorem sim_appF {i : TyI} {e d tk v hi : Nat} {xs ys : List PV} {base : Value} {R0 : List Nat} (hI : InvO F0 B nt w0 ow σ a w) (hdst : o.dst = some d) (hdn : d < nt) (hs : σ (3 * tk + 1) = .rw v i.size xs) (hv : RepV ow w σ (.vw tk v i.size 0 hi) base)
 {news : List Value} (hn : News F0 ow w i.size ys news) (r0 : ys = [] → (execOp a.eval o).run P w = .ok (.value base) w)
 (rR : ∀ b n c cur e', base = .slice (some ⟨b, 0, none⟩) n c → w.heap[b]? = some (.cells cur e' (0, 0)) → n + ys.length ≤ c → n * i.size + news.length ≤ cur.size → (execOp a.eval o).run P w = .ok (.value (.slice (some ⟨b, 0, none⟩) (n + ys.length) c)) (w.setRow b (spliceV cur (n * i.size) news)))
 (rG : ∀ A n c olds, base = .slice A n c → c < n + ys.length → olds.length = n * i.size → (∀ a0, A = some a0 → ∀ j u, olds[j]? = some u → w.cell? (a0.add j) = some u) → n + ys.length ≤ maxLen → (n + ys.length) * i.bytes ≤ 140737488355328 →
  ∃ v' w', (execOp a.eval o).run P w = .ok (.value v') w' ∧ w'.ownsRow w.heap.size e i.size v' (n + ys.length) (olds ++ news) ∧ w.grownBy w' none)
 (hodd : v % 2 = 1) (h : (appF T i d tk v hi xs ys).run PC σ fun R ws => K (R0 ++ R) ws) : o.wp P a w (Sim F0 B nt w0 σ K) Q := by
 unfold appF at h
 obtain ⟨⟨l1, l2⟩, h⟩ := h
 have hz := rw_pos hI hs
 obtain ⟨h0, h1, hvw⟩ := view_cur hI hv hs
 obtain ⟨n1, n2, n3, n4⟩ := id hn
 cases hfit : Nat.ble (hi + ys.length) xs.length
 ·have hbig : xs.length < hi + ys.length := Nat.lt_of_not_le (fun hle => by rw [Nat.ble_eq_true_of_le hle] at hfit; cases hfit)
  replace h := h.2 hfit
  cases hx : T.isX d
  ·rw [hx] at h; exact h.elim
  rw [hx] at h
  simp only [cond_true, AM.run, force_eq] at h
  split at h
  rotate_left
  ·exact h.elim
  rename_i hany
  obtain ⟨hno, q, eq, h⟩ := h
  simp only [AM.run, forceW_eq] at h
  cases eq
  have hm : 0 < ys.length := by omega
  have new : ∀ (A : Option Addr) (c : Nat) (olds : List Value), base = .slice A hi c → c < hi + ys.length → olds.length = hi * i.size → (∀ a0, A = some a0 → ∀ j u, olds[j]? = some u → w.cell? (a0.add j) = some u) → (∀ x ∈ xs, x.cells.length = i.size) →
   (∀ (i' j : Nat) (x p : PV), i' < hi → xs[i']? = some x → x.cells[j]? = some p → ∃ u, olds[i' * i.size + j]? = some u ∧ CellX F0 ow w (2 * tk) (i' * i.size + j) p u) → o.wp P a w (Sim F0 B nt w0 σ K) Q := by
   intro A c olds hbase hc hol holds hxz hcells
   obtain ⟨v', w', g1, g2, g3⟩ := rG A hi c olds hbase hc hol holds l1 l2
   have he := grownBy_ext g3
   rcases g2.2 with ⟨_, hz0⟩ | ⟨g, cap, cur, rfl, hgB, hgg, hnc, hcm, hcs, htake⟩
   ·omega
   ·have hgw : g < w'.heap.size := (Array.getElem?_eq_some_iff.1 hgg).1
    have htl : (xs.take hi).length = hi := by rw [List.length_take]; omega
    have hlen : (xs.take hi ++ ys).length = hi + ys.length := by rw [List.length_append, htl]
    refine wp_value g1 ⟨_, _, h, ?_⟩
    rw [hdst]
    have hzx : ∀ x ∈ xs.take hi ++ ys, x.cells.length = i.size := fun x hx => by
     rcases List.mem_append.1 hx with hx | hx
     ·exact hxz x (List.mem_of_mem_take hx)
     ·exact n2 x hx
    refine hI.mkRow hdn hany he (N := cap) hgB hgw hz (by rw [hlen]; exact Nat.le_refl _) (fun ow' ho => ⟨cur, e, hgg, hz, hcs, by omega, hzx, fun i' j x p u hx hp hu => ?_⟩)
    have hj : j < i.size := by rw [← hzx x (List.mem_of_getElem? hx)]; exact (List.getElem?_eq_some_iff.1 hp).1
    have hi' : i' < hi + ys.length := by rw [← hlen]; exact (List.getElem?_eq_some_iff.1 hx).1
    have hq : (olds ++ news)[i' * i.size + j]? = some u := by
     rw [← htake, List.getElem?_take, if_pos (mulLt hi' hj)]
     simpa using hu
    by_cases hi2 : i' < hi
    ·rw [List.getElem?_append_left (by rw [hol]; exact mulLt hi2 hj)] at hq
     rw [List.getElem?_append_left (by omega)] at hx
     have hx2 : xs[i']? = some x := by rw [List.getElem?_take, if_pos hi2] at hx; exact hx
     obtain ⟨u', k1, k2⟩ := hcells i' j x p hi2 hx2 hp
     rw [hq] at k1
     cases k1
     obtain ⟨k3, k4⟩ := cellX_plain k2 (hno x (List.mem_of_getElem? hx) p (List.mem_of_getElem? hp))
     exact .news (k3.ext he ho) k4
    ·have hle : hi * i.size ≤ i' * i.size := Nat.mul_le_mul_right _ (by omega)
     rw [List.getElem?_append_right (by omega), hol, show i' * i.size + j - hi * i.size = (i' - hi) * i.size + j by rw [Nat.sub_mul]; omega] at hq
     rw [List.getElem?_append_right (by omega), htl] at hx
     exact .news ((n4 _ j x p u hx hp hq).ext he ho) (n3 u (List.mem_of_getElem? hq))
  rcases hvw with ⟨e1, e2, A, hbase⟩ | ⟨b, N, g1, hbase, g2, g3⟩
  ·subst e1
   have hx0 : xs = [] := List.eq_nil_of_length_eq_zero e2
   subst hx0
   exact new A 0 [] hbase (by omega) (by simp) (fun a0 _ j u hj => by simp at hj) (fun x hx => by cases hx) (fun i' j x p hi' _ _ => by omega)
  ·have hN := hI.fullN hs g1 hodd g3
   obtain ⟨cur, e', b1, b2, b3, b4, b5, b6⟩ := id g3
   simp only [Nat.zero_mul, Nat.sub_zero] at hbase
   refine new (some ⟨b, 0, none⟩) N (cur.toList.take (hi * i.size)) hbase (by omega) ?_ (fun a0 ha j u hj => ?_) b5 (fun i' j x p hi' hx hp => ?_)
   ·rw [List.length_take, Nat.min_eq_left]
    have : hi * i.size ≤ N * i.size := Nat.mul_le_mul_right _ g2
    simpa [b3] using this
   ·cases ha
    rw [List.getElem?_take] at hj
    split at hj
    ·rw [Addr.add_lit, Nat.zero_add]
     exact (cell_of_row w b j cur e' (0, 0) b1).trans (by simpa using hj)
    ·cases hj
   ·obtain ⟨u, k1, k2⟩ := g3.cell hx hp
    have hj : j < i.size := by rw [← b5 x (List.mem_of_getElem? hx)]; exact (List.getElem?_eq_some_iff.1 hp).1
    refine ⟨u, ?_, k2⟩
    rw [List.getElem?_take, if_pos (mulLt hi' hj)]
    have := (cell_of_row w b (i' * i.size + j) cur e' (0, 0) b1).symm.trans k1
    simpa using this
 ·have hle := Nat.le_of_ble_eq_true hfit
  obtain ⟨q, eq, h⟩ := h.1 hfit
  simp only [AM.run, forceW_eq] at h
  cases eq
  have hspl : xs.take hi ++ ys ++ xs.drop (hi + ys.length) = spliceE xs hi ys := rfl
  rw [hspl] at h
  have fin : ∀ {w' : World} {v' : Value}, (execOp a.eval o).run P w = .ok (.value v') w' → InvO F0 B nt w0 ow (ap [(3 * tk + 1, .rw (v + 2) i.size (spliceE xs hi ys))] σ) a w' → RepV ow w' (ap [(3 * tk + 1, .rw (v + 2) i.size (spliceE xs hi ys))] σ) (.vw tk (v + 2) i.size 0 (hi + ys.length)) v' → o.wp P a w (Sim F0 B nt w0 σ K) Q := by
   intro w' v' hr hI' hr'
   refine wp_value hr ⟨_, _, h, ow, ?_⟩
   rw [hdst, ap_2 _ _ (by omega)]
   exact hI'.put (dst := some d) (fun d' e => by cases e; exact hdn) (p := .vw tk (v + 2) i.size 0 (hi + ys.length)) hr' vw_wf
  by_cases hy : ys = []
  ·subst hy
   have hb := hI.bump (v' := v + 2) hs (by omega) (fun e g N hg hr => hI.fullN hs hg (by omega) hr)
   rw [← spliceE_nil (xs := xs) (k := hi)] at hb
   refine fin (r0 rfl) hb ?_
   rw [spliceE_nil]
   exact view_bump hv hs
  have hm : 0 < ys.length := List.length_pos_iff.2 hy
  rcases hvw with ⟨e1, e2, A, hbase⟩ | ⟨b, N, g1, hbase, g2, g3⟩
  ·omega
  ·have hN := hI.fullN hs g1 hodd g3
   obtain ⟨cur, e', b1, b2, b3, b4, b5, b6⟩ := id g3
   simp only [Nat.zero_mul, Nat.sub_zero] at hbase
   have hfitN : hi + ys.length ≤ N := by omega
   obtain ⟨k1, k2⟩ := hI.write (ys := ys) (k := hi) (v' := v + 2) hs g1 (by omega) b1 g3 h1 hfitN hn (by omega)
   refine fin (rR b hi N cur e' hbase b1 hfitN k1) k2 ⟨Nat.zero_le _, Or.inr ⟨b, N, hfitN, by simp, fun xs1 hx => ?_⟩⟩
   rw [ap1_self] at hx
   cases hx
   refine ⟨g1, by rw [spliceE_len h1]; omega, spliceV cur (hi * i.size) news, e', setRow_heap w b cur _ e' (0, 0) b1, by rw [spliceV_size k1, b3]⟩
theorem appXF_need {i : TyI} {d t v hi : Nat} {xs ys : List PV} {K : List Nat → List (Nat × PV) → Prop} (h : (appXF T i d t v hi xs ys).run PC σ K) : hi + ys.length ≤ maxLen ∧ (hi + ys.length) * i.bytes ≤ 140737488355328 := by
 unfold appXF at h
 cases hb : Nat.beq (v % 2) 0
 ·rw [hb] at h; exact h.1
 ·rw [hb] at h; exact h.1
theorem sim_appXF {i : TyI} {e d tk v hi : Nat} {xs ys : List PV} {base : Value} {R0 : List Nat} (hI : InvO F0 B nt w0 ow σ a w) (hdst : o.dst = some d) (hdn : d < nt) (hs : σ (3 * tk + 1) = .rw v i.size xs) (hv : RepV ow w σ (.vw tk v i.size 0 hi) base)
 {news : List Value} (hn : News F0 ow w i.size ys news) (r0 : ys = [] → (execOp a.eval o).run P w = .ok (.value base) w)
 (rR : ∀ b n c cur e', base = .slice (some ⟨b, 0, none⟩) n c → w.heap[b]? = some (.cells cur e' (0, 0)) → n + ys.length ≤ c → n * i.size + news.length ≤ cur.size → (execOp a.eval o).run P w = .ok (.value (.slice (some ⟨b, 0, none⟩) (n + ys.length) c)) (w.setRow b (spliceV cur (n * i.size) news)))
 (rG : ∀ A n c olds, base = .slice A n c → c < n + ys.length → olds.length = n * i.size → (∀ a0, A = some a0 → ∀ j u, olds[j]? = some u → w.cell? (a0.add j) = some u) → n + ys.length ≤ maxLen → (n + ys.length) * i.bytes ≤ 140737488355328 →
  ∃ v' w', (execOp a.eval o).run P w = .ok (.value v') w' ∧ w'.ownsRow w.heap.size e i.size v' (n + ys.length) (olds ++ news) ∧ w.grownBy w' none)
 (h : (appXF T i d tk v hi xs ys).run PC σ fun R ws => K (R0 ++ R) ws) : o.wp P a w (Sim F0 B nt w0 σ K) Q := by
 unfold appXF at h
 cases hb : Nat.beq (v % 2) 0
 ·rw [hb] at h
  have : v % 2 ≠ 0 := fun e => by rw [e] at hb; cases hb
  exact sim_appF hI hdst hdn hs hv hn r0 rR rG (by omega) h
 ·rw [hb] at h
  exact sim_appX hI hdst hdn hs hv hn r0 rR rG (Nat.eq_of_beq_eq_true hb) h
theorem sim_appN {i : TyI} {e d : Nat} {xs ys : List PV} {base : Value} {R2 : List Nat} (hI : InvO F0 B nt w0 ow σ a w) (hdst : o.dst = some d) (hdn : d < nt) (hany : σ (3 * d + 1) = .any) (hz : 0 < i.size) (hx : RepC (FF F0 ow) w (.sl 1 i.size xs) base)
 {news : List Value} (hn : News F0 ow w i.size ys news) (hxy : xs = [] ∨ ys ≠ [])
 (r0 : ys = [] → (execOp a.eval o).run P w = .ok (.value base) w)
 (rG : ∀ A n c olds, base = .slice A n c → c < n + ys.length → olds.length = n * i.size → (∀ a0, A = some a0 → ∀ j u, olds[j]? = some u → w.cell? (a0.add j) = some u) → n + ys.length ≤ maxLen → (n + ys.length) * i.bytes ≤ 140737488355328 →
  ∃ v' w', (execOp a.eval o).run P w = .ok (.value v') w' ∧ w'.ownsRow w.heap.size e i.size v' (n + ys.length) (olds ++ news) ∧ w.grownBy w' none)
 (l1 : xs.length + ys.length ≤ maxLen) (l2 : (xs.length + ys.length) * i.bytes ≤ 140737488355328)
 (h : K R2 [(3 * d + 1, .rw 0 i.size (xs ++ ys)), (3 * d, .vw d 0 i.size 0 (xs.length + ys.length))]) : o.wp P a w (Sim F0 B nt w0 σ K) Q := by
 obtain ⟨n1, n2, n3, n4⟩ := id hn
 by_cases hy : ys = []
 ·subst hy
  obtain rfl : xs = [] := hxy.resolve_right (fun h => h rfl)
  obtain ⟨A, hA⟩ := hx.full
  refine wp_value (r0 rfl) ⟨_, _, h, ?_⟩
  rw [hdst, hA]
  exact hI.mkNil hdn hany hz A
 have hm : 0 < ys.length := List.length_pos_iff.2 hy
 obtain ⟨A, hA⟩ := hx.full
 have hlen : (xs ++ ys).length = xs.length + ys.length := List.length_append
 obtain ⟨olds, o1, o2, o3, o4⟩ : ∃ olds : List Value, olds.length = xs.length * i.size ∧ (∀ a0, A = some a0 → ∀ j u, olds[j]? = some u → w.cell? (a0.add j) = some u) ∧ (∀ x ∈ xs, x.cells.length = i.size) ∧
  ∀ (i' j : Nat) (x p : PV) (u : Value), xs[i']? = some x → x.cells[j]? = some p → j < i.size → olds[i' * i.size + j]? = some u → RepC (FF F0 ow) w p u ∧ u.oneCell' = true := by
  rcases hx.parts with ⟨_, hx0⟩ | ⟨_, _, _, hx0⟩ | ⟨b, o', cap, u, e1, hc, hzz, hcell, hr⟩
  ·subst hx0; exact ⟨[], by simp, (fun a0 _ j u hj => by simp at hj), (fun x hx => by cases hx), (fun i' j x p u hx => by simp at hx)⟩
  ·subst hx0; exact ⟨[], by simp, (fun a0 _ j u hj => by simp at hj), (fun x hx => by cases hx), (fun i' j x p u hx => by simp at hx)⟩
  ·rw [hA] at e1
   injection e1 with e1
   refine ⟨rowOf xs.length i.size u, rowOf_len _ _ _, fun a0 ha j v hj => ?_, hzz, fun i' j x p v hx hp hj hv => ?_⟩
   ·rw [e1] at ha
    cases ha
    obtain ⟨g1, g2, g3, g4, rfl⟩ := rowOf_get hj
    rw [Addr.add_lit, show o' + j = o' + (j / i.size) * i.size + j % i.size by omega]
    exact (hcell _ _ g2 g3).1
   ·have hi' := (List.getElem?_eq_some_iff.1 hx).1
    rw [rowOf_at hi' hj] at hv
    cases hv
    exact ⟨hr i' x j p hx hp, (hcell i' j hi' hj).2.2⟩
 obtain ⟨v', w', g1, g2, g3⟩ := rG A xs.length xs.length olds hA (by omega) o1 o2 l1 l2
 have he := grownBy_ext g3
 rcases g2.2 with ⟨_, hz0⟩ | ⟨g, cap, cur, rfl, hgB, hgg, hnc, hcm, hcs, htake⟩
 ·omega
 ·have hgw : g < w'.heap.size := (Array.getElem?_eq_some_iff.1 hgg).1
  refine wp_value g1 ⟨_, _, h, ?_⟩
  rw [hdst]
  have hzx : ∀ x ∈ xs ++ ys, x.cells.length = i.size := fun x hx => by
   rcases List.mem_append.1 hx with hx | hx
   ·exact o3 x hx
   ·exact n2 x hx
  refine hI.mkRow hdn hany he (N := cap) hgB hgw hz (by rw [hlen]; exact Nat.le_refl _) (fun ow' ho => ⟨cur, e, hgg, hz, hcs, by omega, hzx, fun i' j x p u hx hp hu => ?_⟩)
  have hj : j < i.size := by rw [← hzx x (List.mem_of_getElem? hx)]; exact (List.getElem?_eq_some_iff.1 hp).1
  have hi' : i' < xs.length + ys.length := by rw [← hlen]; exact (List.getElem?_eq_some_iff.1 hx).1
  have hq : (olds ++ news)[i' * i.size + j]? = some u := by
   rw [← htake, List.getElem?_take, if_pos (mulLt hi' hj)]
   simpa using hu
  by_cases hi2 : i' < xs.length
  ·rw [List.getElem?_append_left (by rw [o1]; exact mulLt hi2 hj)] at hq
   rw [List.getElem?_append_left hi2] at hx
   obtain ⟨k1, k2⟩ := o4 i' j x p u hx hp hj hq
   exact .news (k1.ext he ho) k2
  ·have hle : xs.length * i.size ≤ i' * i.size := Nat.mul_le_mul_right _ (by omega)
   rw [List.getElem?_append_right (by omega), o1, show i' * i.size + j - xs.length * i.size = (i' - xs.length) * i.size + j by rw [Nat.sub_mul]; omega] at hq
   rw [List.getElem?_append_right (by omega)] at hx
   exact .news ((n4 _ j x p u hx hp hq).ext he ho) (n3 u (List.mem_of_getElem? hq))
theorem append_runs {t e : TypeId} {i : TyI} {ys : List PV} {base u : Value} (hu : P.underlying t = some (.slice e)) (hti : TyOk P e i) (hz : 0 < i.size) (hsrc : SrcAt F0 ow w i.size none ys u) (ty : TypeId)
 (hbase : ∃ A n c, base = .slice A n c ∧ n ≤ c ∧ (A = none → c = 0)) :
 ∃ news, News F0 ow w i.size ys news ∧ (ys = [] → (Builtin.append_ #[t, t] ty #[base, u]).run P w = .ok base w) ∧
  (∀ b n c cur e', base = .slice (some ⟨b, 0, none⟩) n c → w.heap[b]? = some (.cells cur e' (0, 0)) → n + ys.length ≤ c → n * i.size + news.length ≤ cur.size → ys ≠ [] → (Builtin.append_ #[t, t] ty #[base, u]).run P w = .ok (.slice (some ⟨b, 0, none⟩) (n + ys.length) c) (w.setRow b (spliceV cur (n * i.size) news))) ∧
  (∀ A n c olds, base = .slice A n c → c < n + ys.length → olds.length = n * i.size → (∀ a0, A = some a0 → ∀ j u, olds[j]? = some u → w.cell? (a0.add j) = some u) → n + ys.length ≤ maxLen → (n + ys.length) * i.bytes ≤ 140737488355328 →
   ∃ v' w', (Builtin.append_ #[t, t] ty #[base, u]).run P w = .ok v' w' ∧ w'.ownsRow w.heap.size e i.size v' (n + ys.length) (olds ++ news) ∧ w.grownBy w' none) := by
 obtain ⟨A', n', c', news, rfl, hnc', hyl, hn, hA', hmem⟩ := hsrc
 obtain ⟨ti, zv, i1, i2, i3, i4, i5⟩ := hti.info
 have hzs : zv.cells.size = i.size := by
  have e1 : zv.cells.toList.length = i.size := by rw [i5, hti.len]
  simpa using e1
 have hyl' : ys.length = n' := hyl
 refine ⟨news, hn, fun hy => ?_, fun b n c cur e' hb hcur hfit hle hy => ?_, fun A n c olds hb hc hol holds l1 l2 => ?_⟩
 ·subst hy
  obtain rfl : n' = 0 := hyl'.symm
  obtain ⟨A, n, c, rfl, hnc, _⟩ := hbase
  exact run_append_zero hu ⟨e, hu⟩ (sizeOf_run hti) A n c hnc A' c'
 ·obtain ⟨b', s', rfl⟩ := hA' hy
  subst hb
  have := run_append_roomE (P := P) (w := w) (ty := ty) (e' := e') hu i1 b n c cur hcur ⟨b', s', none⟩ n' c' news (by rw [i2, hn.1, hyl']) (fun j v hj => by rw [Addr.add_lit]; exact hmem b' s' rfl j v hj) hn.2.2.1 (by omega) (by rw [i2]; exact hle)
  rw [i2] at this
  rw [hyl']
  exact this
 ·have hy : ys ≠ [] := fun e => by
   subst e
   obtain ⟨A2, n2, c2, e2, hnc, hn2⟩ := hbase
   rw [hb] at e2
   injection e2 with _ e3 e4
   simp at hc
   omega
  obtain ⟨b', s', rfl⟩ := hA' hy
  subst hb
  rw [hyl'] at hc l1 l2 ⊢
  cases A with
  | none =>
   have hn0 : n = 0 ∧ c = 0 := by
    obtain ⟨A2, n2, c2, e2, hnc, hn2⟩ := hbase
    injection e2 with e1 e3 e4
    have := hn2 e1.symm
    omega
   obtain ⟨rfl, rfl⟩ := hn0
   have hol0 : olds = [] := List.eq_nil_of_length_eq_zero (by simpa using hol)
   subst hol0
   obtain ⟨v', w', r1, r2, r3, _⟩ := run_append_own (P := P) w w.heap.size t ty e ti zv i.size ti.bytes hu i1 i4 i2 rfl hzs hz (.slice none 0 0) 0 [] (World.ownsRow_nil _ _ _ _) ⟨b', s', none⟩ n' c' news (by rw [hn.1, hyl']) (fun j v hj => by rw [Addr.add_lit]; exact hmem b' s' rfl j v hj) hn.2.2.1 (by simpa using l1) (by rw [i3]; simpa using l2) (Nat.le_refl _)
   exact ⟨v', w', r1, r2, r3⟩
  | some a0 =>
   exact run_append_arg_grows (P := P) w t ty e ti zv i.size ti.bytes hu i1 i4 i2 rfl hzs hz a0 n c olds hol (holds a0 rfl) ⟨b', s', none⟩ n' c' news (by rw [hn.1, hyl']) (fun j v hj => by rw [Addr.add_lit]; exact hmem b' s' rfl j v hj) hc l1 (by rw [i3]; exact l2)
theorem zero_cells {i : TyI} {e : Nat} (hti : TyOk P e i) (hl : Nat.beq (zeroE i).cells.length i.size = true) : (zeroE i).cells = i.zero.map cellPV := by
 have hl' := Nat.eq_of_beq_eq_true hl
 have hzl := hti.len
 unfold zeroE at *
 cases hag : i.agg
 ·rw [hag] at hl'
  simp only [cond_false] at hl' ⊢
  cases hz : i.zero with
  | nil =>
   rw [hz] at hl' hzl
   simp [PV.cells] at hl' hzl
   omega
  | cons v r =>
   rw [hz] at hl' hzl
   have h1 : ((v :: r).map cellPV).headD .any = cellPV v := rfl
   rw [h1] at hl' ⊢
   have hc : (cellPV v).cells = [cellPV v] := by unfold cellPV; split <;> rfl
   rw [hc] at hl' ⊢
   have : r = [] := List.eq_nil_of_length_eq_zero (by simp at hl' hzl; omega)
   subst this
   rfl
 ·rfl
theorem zero_news {i : TyI} {e m : Nat} (hti : TyOk P e i) (hl : Nat.beq (zeroE i).cells.length i.size = true) {zv : Value} (hzv : zv.cells.toList = i.zero) {news : List Value} (hnl : news.length = m * i.size) (hnews : ∀ q, q < m * i.size → news[q]? = zv.cells[q % i.size]?) : News F0 ow w i.size (List.replicate m (zeroE i)) news := by
 have hzc := zero_cells hti hl
 have hzs : zv.cells.size = i.size := by
  have e1 : zv.cells.toList.length = i.size := by rw [hzv, hti.len]
  simpa using e1
 refine ⟨by rw [hnl]; simp, fun x hx => ?_, fun u hu => ?_, fun i' j x p u hx hp hu => ?_⟩
 ·rw [List.eq_of_mem_replicate hx, hzc, List.length_map, hti.len]
 ·obtain ⟨q, hq, rfl⟩ := List.getElem_of_mem hu
  have hq' : q < m * i.size := by rw [← hnl]; exact hq
  have h1 := hnews q hq'
  rw [List.getElem?_eq_getElem hq] at h1
  exact hti.one _ (hzv ▸ List.mem_of_getElem? (by simpa using h1.symm))
 ·have hx' := List.mem_of_getElem? hx
  rw [List.eq_of_mem_replicate hx', hzc, List.getElem?_map] at hp
  obtain ⟨v, hv, rfl⟩ := Option.map_eq_some_iff.1 hp
  have hj : j < i.size := by rw [← hti.len]; exact (List.getElem?_eq_some_iff.1 hv).1
  have hi' : i' < m := by have := (List.getElem?_eq_some_iff.1 hx).1; simpa using this
  rw [hnews _ (mulLt hi' hj), Nat.add_comm, Nat.add_mul_mod_self_right, Nat.mod_eq_of_lt hj] at hu
  have : zv.cells.toList[j]? = some u := by simpa using hu
  rw [hzv, hv] at this
  cases this
  exact cellPV_rep _
theorem zeroCells_get (z : Array Value) (n q : Nat) (hq : q < n * z.size) : (Builtin.zeroCells z n).toList[q]? = z[q % z.size]? := by
 have hz : 0 < z.size := Nat.pos_of_ne_zero (fun e => by rw [e] at hq; simp at hq)
 have hm := Nat.mod_lt q hz
 simp [Builtin.zeroCells, hq, hm]
theorem zeroCells_len (z : Array Value) (n : Nat) : (Builtin.zeroCells z n).toList.length = n * z.size := by simp [Builtin.zeroCells]
theorem madeCells_get (z : Array Value) (n q : Nat) (hz : 0 < z.size) (hq : q < n) : (madeCells z n).toList[q]? = z[q % z.size]? := by
 have hm := Nat.mod_lt q hz
 simp [madeCells, hq, hm]
theorem ap_same {k : Nat} {p : PV} (h : σ k = p) : ap [(k, p)] σ = σ := by
 funext l
 by_cases hl : l = k
 ·subst hl; rw [ap1_self, h]
 ·exact ap1_ne _ _ hl
theorem sim_copy {c : Call} {t : TypeId} {x y : Operand} {p q : PV} {R0 : List Nat} (hT : TabOk P T) (ho : o.op = .call c) (hc : c.callee = .builtin .copy) (hty : c.argTypes.toList = [t, t]) (hargs : c.args.toList = [x, y]) (hI : InvO F0 B nt w0 ow σ a w) (hd : ∀ d, o.dst = some d → d < nt)
 (hp : RepT F0 B ow w σ p (a.eval x)) (hq : RepT F0 B ow w σ q (a.eval y)) (h : (copyA T o.dst t p q).run PC σ fun R ws => K (R0 ++ R) ws) : o.wp P a w (Sim F0 B nt w0 σ K) Q := by
 have hrun : ∀ r w', (Builtin.copy_ #[t, t] o.type #[a.eval x, a.eval y]).run P w = .ok r w' → (execOp a.eval o).run P w = .ok (.value r) w' := fun r w' hr => by
  have e1 : c.args.map a.eval = #[a.eval x, a.eval y] := by
   apply Array.toList_inj.1; rw [Array.toList_map, hargs]; rfl
  have e2 : c.argTypes = #[t, t] := by apply Array.toList_inj.1; rw [hty]
  unfold execOp; rw [ho]; simp [resolve, hc, invoke, builtin, e1, e2, hr]
 unfold copyA at h
 split at h
 ·rename_i e n' by_ zz tk v z lo hi ht
  obtain ⟨d', hu, hk⟩ := (hT _ _ ht).und
  obtain rfl : d' = .slice e := hk
  split at h
  ·rename_i i hte
   have hti := hT _ _ hte
   cases hz : Nat.beq z i.size
   ·rw [hz] at h; exact h.elim
   rw [hz] at h
   obtain rfl := Nat.eq_of_beq_eq_true hz
   simp only [cond_true] at h
   obtain ⟨xs, hs, h'⟩ := curRw_inv h
   clear h
   obtain ⟨ys, R1, hsrc, h''⟩ := srcA_inv hI hq h'
   clear h'
   obtain ⟨qq, eq, h⟩ := h''
   cases eq
   simp only [AM.run, forceW_eq] at h
   obtain ⟨h0, h1, hvw⟩ := view_cur hI (show RepV ow w σ (.vw tk v i.size lo hi) (a.eval x) from hp) hs
   obtain ⟨A', n', c', news, hu', hnc', hyl, hn, hA', hmem⟩ := hsrc
   simp only [lenV_eq, limL] at hyl
   obtain ⟨n1, n2, n3, n4⟩ := id hn
   have hdst : ∃ A c0, a.eval x = .slice A (hi - lo) c0 := by
    rcases hvw with ⟨e1, e2, A, hb⟩ | ⟨b, N, g1, hb, g2, g3⟩
    ·exact ⟨A, 0, by rw [hb, show hi - lo = 0 by omega]⟩
    ·exact ⟨_, _, hb⟩
   obtain ⟨A, c0, hx⟩ := hdst
   have hfc : (Builtin.firstCells i.size (min n' (hi - lo)) (.slice A' n' c')).run P w = .ok news.toArray w := by
    have hnn : news.length = min n' (hi - lo) * i.size := by rw [n1, hyl, Nat.min_comm]
    cases A' with
    | none =>
     have : ys = [] := Classical.byContradiction fun e => by obtain ⟨b, s, e⟩ := hA' e; cases e
     subst this
     have : news = [] := List.eq_nil_of_length_eq_zero (by rw [n1]; simp)
     subst this
     simp [Builtin.firstCells]
    | some a0 =>
     by_cases hy : ys = []
     ·subst hy
      have : news = [] := List.eq_nil_of_length_eq_zero (by rw [n1]; simp)
      subst this
      simp at hnn
      have h00 : min n' (hi - lo) * i.size = 0 := by omega
      simp [Builtin.firstCells, h00, loadCells, loadCellsFrom]
     ·obtain ⟨b, s, e⟩ := hA' hy
      cases e
      exact run_firstCells_some w i.size (min n' (hi - lo)) ⟨b, s, none⟩ n' c' news hnn (fun j v hj => by rw [Addr.add_lit]; exact hmem b s rfl j v hj)
   have hput : ∀ {σ' : St} {w' : World}, InvO F0 B nt w0 ow σ' a w' → InvO F0 B nt w0 ow (ap (asgn o.dst (.s (.int .i64 ys.length))) σ') (a.put o.dst (.int .i64 ys.length)) w' := fun hI' => hI'.put hd ⟨.s _, trivial⟩ trivial
   have hap : ap ((3 * tk + 1, PV.rw v i.size (spliceE xs lo ys)) :: asgn o.dst (.s (.int .i64 ys.length))) σ = ap (asgn o.dst (.s (.int .i64 ys.length))) (ap [(3 * tk + 1, PV.rw v i.size (spliceE xs lo ys))] σ) := by
    cases hdd : o.dst with
    | none => rfl
    | some d => exact ap_2 _ _ (by omega)
   have hys : goInt ((Nat.min n' (hi - lo) : Nat) : Int) = .int .i64 (ys.length : Nat) := by rw [hyl, Nat.min_comm]; rfl
   have hsz := fun w => sizeOf_run (P := P) hti w
   by_cases hy : ys = []
   ·subst hy
    have hne : news = [] := List.eq_nil_of_length_eq_zero (by rw [n1]; simp)
    subst hne
    refine wp_value (hrun (.int .i64 (([] : List PV).length : Nat)) w ?_) ⟨_, _, h, ow, ?_⟩
    ·rw [hx, hu', ← hys]
     cases A with
     | none => simp [Builtin.copy_, run_underlying hu, Builtin.lenOf, hsz, hfc]
     | some a0 => simp [Builtin.copy_, run_underlying hu, Builtin.lenOf, hsz, hfc, storeCells]
    ·rw [hap, spliceE_nil, ap_same hs]
     exact hput hI
   ·have hm : 0 < ys.length := List.length_pos_iff.2 hy
    rcases hvw with ⟨e1, e2, _, _⟩ | ⟨b, N, g1, hb, g2, g3⟩
    ·have : ys.length = 0 := by rw [hyl]; omega
     omega
    ·obtain ⟨cur, e', b1, b2, b3, b4, b5, b6⟩ := id g3
     obtain ⟨k1, k2⟩ := hI.write (ys := ys) (k := lo) (v' := v) hs g1 (Nat.le_refl v) b1 g3 (by omega) (by omega) hn rfl
     have hst := run_storeCells_at (P := P) b (lo * i.size) e' news 0 cur w b1 (by simpa using k1) n3
     simp only [Nat.add_zero] at hst
     refine wp_value (hrun (.int .i64 (ys.length : Nat)) (w.setRow b (spliceV cur (lo * i.size) news)) ?_) ⟨_, _, h, ow, ?_⟩
     ·rw [hb, hu', ← hys]
      simp [Builtin.copy_, run_underlying hu, Builtin.lenOf, hsz, hfc, hst, spliceV]
     ·rw [hap]
      exact hput k2
  ·exact h.elim
 ·exact h.elim
theorem sim_clear {c : Call} {t : TypeId} {x : Operand} {p : PV} {R0 : List Nat} (hT : TabOk P T) (ho : o.op = .call c) (hc : c.callee = .builtin .clear) (hty : c.argTypes.toList = [t]) (hargs : c.args.toList = [x]) (hI : InvO F0 B nt w0 ow σ a w)
 (hp : RepT F0 B ow w σ p (a.eval x)) (h : (clearA T o.dst t p).run PC σ fun R ws => K (R0 ++ R) ws) : o.wp P a w (Sim F0 B nt w0 σ K) Q := by
 have hrun : ∀ r w', (Builtin.clear_ #[t] o.type #[a.eval x]).run P w = .ok r w' → (execOp a.eval o).run P w = .ok (.value r) w' := fun r w' hr => by
  have e1 : c.args.map a.eval = #[a.eval x] := by
   apply Array.toList_inj.1; rw [Array.toList_map, hargs]; rfl
  have e2 : c.argTypes = #[t] := by apply Array.toList_inj.1; rw [hty]
  unfold execOp; rw [ho]; simp [resolve, hc, invoke, builtin, e1, e2, hr]
 unfold clearA at h
 split at h
 ·rename_i e n' by_ zz tk v z lo hi ht hdst
  obtain ⟨d', hu, hk⟩ := (hT _ _ ht).und
  obtain rfl : d' = .slice e := hk
  split at h
  ·rename_i i hte
   have hti := hT _ _ hte
   cases hz : Nat.beq z i.size && Nat.beq (zeroE i).cells.length i.size
   ·rw [hz] at h; exact h.elim
   rw [hz] at h
   rw [Bool.and_eq_true] at hz
   obtain ⟨hz, hzl⟩ := hz
   obtain rfl := Nat.eq_of_beq_eq_true hz
   simp only [cond_true] at h
   obtain ⟨xs, hs, h'⟩ := curRw_inv h
   clear h
   obtain ⟨hle, qq, eq, h⟩ := h'
   cases eq
   simp only [AM.run, forceW_eq, lenV_eq] at h
   obtain ⟨h0, h1, hvw⟩ := view_cur hI (show RepV ow w σ (.vw tk v i.size lo hi) (a.eval x) from hp) hs
   obtain ⟨ti, zv, i1, i2, i3, i4, i5⟩ := hti.info
   have hzs : zv.cells.size = i.size := by
    have e1 : zv.cells.toList.length = i.size := by rw [i5, hti.len]
    simpa using e1
   have hzp := rw_pos hI hs
   by_cases hlh : hi - lo = 0
   ·refine wp_value (hrun (.tuple #[]) w ?_) ⟨_, _, h, ow, ?_⟩
    ·rcases hvw with ⟨e1, e2, A, hb⟩ | ⟨b, N, g1, hb, g2, g3⟩
     ·rw [hb]
      cases A <;> simp [Builtin.clear_, run_underlying hu]
     ·rw [hb, hlh]; simp [Builtin.clear_, run_underlying hu]
    ·rw [hdst, hlh, List.replicate_zero, spliceE_nil, ap_same hs]; exact hI
   ·rcases hvw with ⟨e1, e2, _, _⟩ | ⟨b, N, g1, hb, g2, g3⟩
    ·omega
    ·obtain ⟨cur, e', b1, b2, b3, b4, b5, b6⟩ := id g3
     have hn : News F0 ow w i.size (List.replicate (hi - lo) (zeroE i)) (Builtin.zeroCells zv.cells (hi - lo)).toList := zero_news hti hzl i5 (by rw [zeroCells_len, hzs]) (fun q hq => by rw [zeroCells_get _ _ _ (by rw [hzs]; exact hq), hzs])
     obtain ⟨k1, k2⟩ := hI.write (ys := List.replicate (hi - lo) (zeroE i)) (k := lo) (v' := v) hs g1 (Nat.le_refl v) b1 g3 (by omega) (by simp; omega) hn rfl
     have hst := run_storeCells_at (P := P) b (lo * i.size) e' (Builtin.zeroCells zv.cells (hi - lo)).toList 0 cur w b1 (by simpa using k1) hn.2.2.1
     simp only [Nat.add_zero] at hst
     refine wp_value (hrun (.tuple #[]) (w.setRow b (spliceV cur (lo * i.size) (Builtin.zeroCells zv.cells (hi - lo)).toList)) ?_) ⟨_, _, h, ow, ?_⟩
     ·rw [hb]
      obtain ⟨m, hm⟩ : ∃ m, hi - lo = m + 1 := ⟨hi - lo - 1, by omega⟩
      rw [hm] at hst ⊢
      simp [Builtin.clear_, run_underlying hu, zeroValue, typeInfo, i1, i4, hst, spliceV]
     ·rw [hdst]; exact k2
  ·exact h.elim
 ·exact h.elim
theorem InvO.reveal (hI : InvO F0 B nt w0 ow σ a w) {t v z : Nat} {xs J : List PV} (hs : σ (3 * t + 1) = .rw v z xs) (hev : v % 2 = 0) (hJ : ∀ y ∈ J, y.cells = List.replicate z .any)
 (hN : ∀ g N, ow g = some (2 * t, 0) → RowBlk (CellX F0 ow w (2 * t)) w z xs g N → xs.length + J.length ≤ N) (hno : (∀ g, ow g ≠ some (2 * t, 0)) → J = []) : InvO F0 B nt w0 ow (ap [(3 * t + 1, .rw v z (xs ++ J))] σ) a w := by
 by_cases hg : ∃ g, ow g = some (2 * t, 0)
 ·obtain ⟨g, hg⟩ := hg
  obtain ⟨N, hrow⟩ := (hI.boxes g t hg).row hs
  have hJN := hN g N hg hrow
  obtain ⟨cur, e, b1, b2, b3, b4, b5, b6⟩ := hrow
  have := hI.rowSet (xs' := xs ++ J) (cur' := cur) hs hg (Nat.le_refl v) (by simp) b1 rfl b3 (by simpa using hJN) (fun x hx => ?_) (fun i j x p u hx hp hu => ?_) (fun e => by omega)
  ·rwa [setRow_self w g cur e (0, 0) b1] at this
  ·rcases List.mem_append.1 hx with hx | hx
   ·exact b5 x hx
   ·rw [hJ x hx]; simp
  ·by_cases hi : i < xs.length
   ·rw [List.getElem?_append_left hi] at hx
    exact b6 i j x p u hx hp hu
   ·rw [List.getElem?_append_right (by omega)] at hx
    rw [hJ x (List.mem_of_getElem? hx)] at hp
    have := List.eq_of_mem_replicate (List.mem_of_getElem? hp)
    subst this
    exact ⟨.any _, trivial, fun e => absurd rfl e⟩
 ·have : J = [] := hno fun g h => hg ⟨g, h⟩
  subst this
  rw [List.append_nil, ap_same hs]; exact hI
theorem sim_cap {c : Call} {t : TypeId} {x : Operand} {p : PV} {R0 : List Nat} (hT : TabOk P T) (ho : o.op = .call c) (hc : c.callee = .builtin .cap) (hty : c.argTypes.toList = [t]) (hargs : c.args.toList = [x]) (hsl : T.isSl t = true) (hI : InvO F0 B nt w0 ow σ a w) (hd : ∀ d, o.dst = some d → d < nt)
 (hp : RepT F0 B ow w σ p (a.eval x)) (h : (capA o.dst p).run PC σ fun R ws => K (R0 ++ R) ws) : o.wp P a w (Sim F0 B nt w0 σ K) Q := by
 obtain ⟨e, hu⟩ := isSl_und hT hsl
 have hrun : ∀ A n k, a.eval x = .slice A n k → (execOp a.eval o).run P w = .ok (.value (.int .i64 (k : Nat))) w := fun A n k hr => by
  have e1 : c.args.map a.eval = #[a.eval x] := by
   apply Array.toList_inj.1; rw [Array.toList_map, hargs]; rfl
  have e2 : c.argTypes = #[t] := by apply Array.toList_inj.1; rw [hty]
  unfold execOp; rw [ho]; simp [resolve, hc, invoke, builtin, e1, e2, hr, Builtin.cap_, run_underlying hu, goInt]
 unfold capA at h
 split at h
 ·rename_i tk v z lo hi d hdst
  obtain ⟨xs, hs, h'⟩ := curRw_inv h
  clear h
  obtain ⟨h0, h1, hvw⟩ := view_cur hI (show RepV ow w σ (.vw tk v z lo hi) (a.eval x) from hp) hs
  have hz := rw_pos hI hs
  cases hpar : Nat.beq (v % 2) 0
  ·rw [hpar] at h'
   simp only [cond_false, AM.run, forceW_eq] at h'
   have hodd : v % 2 = 1 := by
    have : v % 2 ≠ 0 := fun e => by rw [e] at hpar; cases hpar
    omega
   obtain ⟨A, n, hx⟩ : ∃ A n, a.eval x = .slice A n (xs.length - lo) := by
    rcases hvw with ⟨e1, e2, A, hb⟩ | ⟨b, N, g1, hb, g2, g3⟩
    ·exact ⟨A, 0, by rw [hb]; congr 1; omega⟩
    ·exact ⟨_, _, by rw [hb, hI.fullN hs g1 hodd g3]⟩
   refine wp_value (hrun A n _ hx) ⟨_, _, h', ow, ?_⟩
   rw [hdst]
   exact hI.put (dst := some d) (fun d' e => by cases e; exact hd d hdst) (p := .s (.int .i64 ((xs.length - lo : Nat) : Int))) ⟨.s _, trivial⟩ trivial
  rw [hpar] at h'
  have hev := Nat.eq_of_beq_eq_true hpar
  obtain ⟨k, hk, hkN, hkno, A, n, hx⟩ : ∃ k : Nat, lo ≤ xs.length + k ∧ (∀ g N, ow g = some (2 * tk, 0) → RowBlk (CellX F0 ow w (2 * tk)) w z xs g N → xs.length + k ≤ N) ∧ ((∀ g, ow g ≠ some (2 * tk, 0)) → k = 0) ∧ ∃ A n, a.eval x = .slice A n (xs.length + k - lo) := by
   rcases hvw with ⟨e1, e2, A, hb⟩ | ⟨b, N, g1, hb, g2, g3⟩
   ·exact ⟨0, by omega, fun g N hg hr => by obtain ⟨f1, _⟩ := row_facts hr; omega, fun _ => rfl, A, 0, by rw [hb]; congr 1; omega⟩
   ·obtain ⟨f1, f2, _⟩ := row_facts g3
    refine ⟨N - xs.length, by omega, fun g N' hg hr => ?_, fun hno => absurd g1 (hno b), _, _, by rw [hb]; congr 1; omega⟩
    obtain rfl := hI.uniq _ _ _ hg g1
    obtain ⟨cur, e, b1, _, b3, _⟩ := g3
    obtain ⟨cur', e', c1, _, c3, _⟩ := hr
    rw [b1] at c1
    cases c1
    have : N = N' := Nat.eq_of_mul_eq_mul_right hz (by omega)
    omega
  have h2 := h' (.rw v z (List.replicate k (.ag (List.replicate z .any)))) ⟨_, rfl, fun y hy => by rw [List.eq_of_mem_replicate hy]; rfl⟩
  simp only [AM.run, forceW_eq] at h2
  have hI' := hI.reveal (J := List.replicate k (.ag (List.replicate z .any))) hs hev (fun y hy => by rw [List.eq_of_mem_replicate hy]; rfl) (fun g N hg hr => by simpa using hkN g N hg hr) (fun hno => by rw [hkno hno]; rfl)
  refine wp_value (hrun A n _ hx) ⟨_, _, h2, ow, ?_⟩
  rw [hdst, ap_2 _ _ (by omega)]
  have he : ((xs.length + (List.replicate k (PV.ag (List.replicate z .any))).length - lo : Nat) : Int) = ((xs.length + k - lo : Nat) : Int) := by rw [List.length_replicate]
  rw [he]
  exact hI'.put (dst := some d) (fun d' e => by cases e; exact hd d hdst) (p := .s (.int .i64 ((xs.length + k - lo : Nat) : Int))) ⟨.s _, trivial⟩ trivial
 ·exact h.elim
theorem sim_make {t : TypeId} {x y : Operand} {n c : PV} {R0 : List Nat} (hT : TabOk P T) (ho : o.op = .makeSlice t x y) (hI : InvO F0 B nt w0 ow σ a w) (hd : ∀ d, o.dst = some d → d < nt)
 (hn : RepT F0 B ow w σ n (a.eval x)) (hc : RepT F0 B ow w σ c (a.eval y)) (h : (makeA T o.dst t n c).run PC σ fun R ws => K (R0 ++ R) ws) : o.wp P a w (Sim F0 B nt w0 σ K) Q := by
 unfold makeA at h
 split at h
 ·rename_i e n' by_ zz kn nn kc cc d ht hdst
  obtain ⟨d', hu, hk⟩ := (hT _ _ ht).und
  obtain rfl : d' = .slice e := hk
  have ex := (hn.rep rfl).s_eq
  have ey := (hc.rep rfl).s_eq
  split at h
  ·rename_i i hte
   have hti := hT _ _ hte
   cases hz : Nat.blt 0 i.size && Nat.beq (zeroE i).cells.length i.size
   ·rw [hz] at h; exact h.elim
   rw [hz] at h
   rw [Bool.and_eq_true] at hz
   obtain ⟨hzp, hzl⟩ := hz
   have hzp' : 0 < i.size := Nat.le_of_ble_eq_true hzp
   simp only [cond_true, AM.run, force_eq] at h
   split at h
   ·rename_i hany
    obtain ⟨⟨u1, u2, u3, u4⟩, q, eq, h⟩ := h
    simp only [AM.run, forceW_eq] at h
    cases eq
    obtain ⟨ti, zv, i1, i2, i3, i4, i5⟩ := hti.info
    have hzs : zv.cells.size = i.size := by
     have e1 : zv.cells.toList.length = i.size := by rw [i5, hti.len]
     simpa using e1
    have hr := run_make (P := P) w t e ti zv hu i1 i4 kn kc nn cc u1 u2 (by rw [i3]; exact u4) u3
    rw [i2] at hr
    have hrun : (execOp a.eval o).run P w = .ok (.value (.slice (some ⟨w.heap.size, 0, none⟩) nn.toNat cc.toNat)) (w.alloc (.cells (madeCells zv.cells (cc.toNat * i.size)) e)) := by
     unfold execOp; rw [ho]; simp [ex, ey, hr]
    refine wp_value hrun ⟨_, _, h, ?_⟩
    rw [hdst]
    have hN : News F0 ow w i.size (List.replicate cc.toNat (zeroE i)) (madeCells zv.cells (cc.toNat * i.size)).toList := zero_news hti hzl i5 (by simp [madeCells]) (fun q hq => by rw [madeCells_get _ _ _ (by omega) hq, hzs])
    refine hI.mkRow (hd d hdst) hany (ext_alloc w _) (g := w.heap.size) (hi := nn.toNat) (N := cc.toNat) (Nat.le_refl _) (by simp) hzp' (by simp; omega) (fun ow' ho' => ⟨_, e, heap_alloc_new w _, hzp', by simp [madeCells], by simp, hN.2.1, fun i' j x p u hx hp hu => ?_⟩)
    exact .news ((hN.2.2.2 i' j x p u hx hp (by simpa using hu)).ext (ext_alloc w _) ho') (hN.2.2.1 u (List.mem_of_getElem? (show (madeCells zv.cells (cc.toNat * i.size)).toList[i' * i.size + j]? = some u by simpa using hu)))
   ·exact h.elim
  ·exact h.elim
 ·exact h.elim
theorem append_zero_runs {t tn e : TypeId} {i : TyI} {m : Int} {kq kn : IntKind} {base : Value} (hu : P.underlying t = some (.slice e)) (hn : P.underlying tn = some (.int kn)) (hti : TyOk P e i) (hz : 0 < i.size) (ty : TypeId) (hm0 : 0 ≤ m) (hm1 : m ≤ 9223372036854775807) (hmb : m.toNat * i.bytes ≤ 140737488355328)
 (hl : Nat.beq (zeroE i).cells.length i.size = true) (hbase : ∃ A n c, base = .slice A n c ∧ n ≤ c ∧ (A = none → c = 0)) :
 ∃ news, News F0 ow w i.size (List.replicate m.toNat (zeroE i)) news ∧ (m.toNat = 0 → (Builtin.append_ #[t, tn] ty #[base, .int kq m]).run P w = .ok base w) ∧
  (∀ b n c cur e', base = .slice (some ⟨b, 0, none⟩) n c → w.heap[b]? = some (.cells cur e' (0, 0)) → n + m.toNat ≤ c → n * i.size + news.length ≤ cur.size → m.toNat ≠ 0 → (Builtin.append_ #[t, tn] ty #[base, .int kq m]).run P w = .ok (.slice (some ⟨b, 0, none⟩) (n + m.toNat) c) (w.setRow b (spliceV cur (n * i.size) news))) ∧
  (∀ A n c olds, base = .slice A n c → c < n + m.toNat → olds.length = n * i.size → (∀ a0, A = some a0 → ∀ j u, olds[j]? = some u → w.cell? (a0.add j) = some u) → n + m.toNat ≤ maxLen → (n + m.toNat) * i.bytes ≤ 140737488355328 →
   ∃ v' w', (Builtin.append_ #[t, tn] ty #[base, .int kq m]).run P w = .ok v' w' ∧ w'.ownsRow w.heap.size e i.size v' (n + m.toNat) (olds ++ news) ∧ w.grownBy w' none) := by
 obtain ⟨k, rfl⟩ : ∃ k : Nat, m = k := ⟨m.toNat, (Int.toNat_of_nonneg hm0).symm⟩
 simp only [Int.toNat_natCast] at *
 obtain ⟨ti, zv, i1, i2, i3, i4, i5⟩ := hti.info
 have hzs : zv.cells.size = i.size := by
  have e1 : zv.cells.toList.length = i.size := by rw [i5, hti.len]
  simpa using e1
 have hN : News F0 ow w i.size (List.replicate k (zeroE i)) (Builtin.zeroCells zv.cells k).toList := zero_news hti hl i5 (by rw [zeroCells_len, hzs]) (fun q hq => by rw [zeroCells_get _ _ _ (by rw [hzs]; exact hq), hzs])
 have hw : IntKind.i64.wrap (k : Int) = k := by rw [IntKind.wrap_i64]; omega
 have hneg : ¬ ((k : Int) < 0) := by omega
 have h48i : ¬ (281474976710656 < (k : Int) * (ti.bytes : Int)) := by
  rw [i3, ← Int.natCast_mul]
  omega
 refine ⟨_, hN, fun hk => ?_, fun b n c cur e' hb hcur hfit hle hk => ?_, fun A n c olds hb hc hol holds l1 l2 => ?_⟩
 ·subst hk
  obtain ⟨A, n, c, rfl, hnc, _⟩ := hbase
  simp only [Int.natCast_zero] at hw h48i
  cases A <;> simp [Builtin.append_, run_underlying hu, run_underlying hn, sizeOf, typeInfo, i1, asInt, asIntOf, hw, hnc, storeCells]
 ·subst hb
  have hns : ¬ (k * i.size = 0) := Nat.mul_ne_zero hk (by omega)
  have hst := run_storeCells_at (P := P) b (n * i.size) e' (Builtin.zeroCells zv.cells k).toList 0 cur w hcur (by simpa using hle) hN.2.2.1
  simp only [Nat.add_zero] at hst
  simp [Builtin.append_, run_underlying hu, run_underlying hn, sizeOf, typeInfo, zeroValue, i1, i4, asInt, asIntOf, hw, hneg, h48i, hfit, hns, Addr.add_lit, i2]
  rw [hst]
  simp [spliceV]
 ·subst hb
  have hk : 0 < k := by
   obtain ⟨A2, n2, c2, e2, hnc, hn2⟩ := hbase
   injection e2 with e1 e3 e4
   omega
  have hold : (Builtin.firstCells ti.size n (.slice A n c)).run P w.drew = .ok olds.toArray w.drew := by
   cases A with
   | none =>
    obtain ⟨A2, n2, c2, e2, hnc, hn2⟩ := hbase
    injection e2 with e1 e3 e4
    have := hn2 e1.symm
    have hn0 : n = 0 := by omega
    subst hn0
    have : olds = [] := List.eq_nil_of_length_eq_zero (by simpa using hol)
    subst this
    simp [Builtin.firstCells]
   | some a0 => exact run_firstCells_some w.drew ti.size n a0 n c olds (by rw [hol, i2]) (fun j v hj => holds a0 rfl j v hj)
  have hr := Lib.run_append_grow_zeros w t tn ty e ti zv kq kn hu hn i1 i4 A n c olds hold k hk (by rw [i2]; exact hz) hc (by simp only [maxLen] at l1; omega) (by rw [i3]; omega) (growslice_fits hc (by rw [i3]; exact l2))
  refine ⟨_, _, hr, ⟨by rw [List.length_append, hol, zeroCells_len, hzs, Nat.add_mul], .inr ⟨w.heap.size, _, _, rfl, Nat.le_refl _, heap_alloc_new w.drew _, grownCap_ge _ _ _ _, grownCap_le_maxLen _ _ _ _ l1, ?_, ?_⟩⟩, ⟨rfl, rfl, rfl, by simp, fun k hk _ => heap_alloc_old w.drew _ hk⟩⟩
  ·have hge := grownCap_ge w (n + k) c e
   simp only [Array.size_append, List.size_toArray, size_zeroCells, hzs, hol, ← Nat.add_mul]
   congr 1
   omega
  ·simp only [Array.toList_append, List.append_assoc]
   rw [← List.append_assoc]
   have hlen : (olds ++ (Builtin.zeroCells zv.cells k).toList).length = (n + k) * i.size := by rw [List.length_append, hol, zeroCells_len, hzs, Nat.add_mul]
   rw [← hlen]
   exact List.take_left
end
end Go.Ev
end
