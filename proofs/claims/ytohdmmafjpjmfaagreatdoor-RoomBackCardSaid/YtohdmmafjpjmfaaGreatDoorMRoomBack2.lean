/- Part 2 of this claim: several texts one behind the other: EvAny, EvSnd, EvFun, EvTab, EvBr, EvLe, EvOpen, EvTy, OBump, PlainA, Base, Bel, DOct. What each shows stands in its theorems; conditions: sizes of texts and lists, as the functions' definitions say. -/
import Derived.Test.YtohdmmafjpjmfaaGreatDoorVRoomBack
import Derived.Test.YtohdmmafjpjmfaaGreatDoorMRoomBack1
import Derived.Deep.Slices
import Derived.ChangeArms
import Derived.WideShapes
import Derived.Carry
import Derived.Test.YtohdmmafjpjmfaaGreatDoorProg
import Derived.WideKeyEntry
import Derived.Maps.OwnOps
import Derived.MapFrom
import Derived.Sort.Grow
import Derived.Lib.OthersKept
import Derived.WalkKit
import Derived.ProofKit
import Derived.RegionTactic
import Derived.BigRegion
import Derived.ChangeAlike
import Derived.Shelf.SlicesQ.Load
import Derived.Laws.Cells
import Derived.Deep.WholeRow
import Derived.Laws.Rows
import Derived.Laws.Tables
section
namespace Go.Ev
open Go Go.RowKit
set_option linter.unusedVariables false
set_option linter.unusedSimpArgs false
theorem or_bits {i : Nat} (acc : List Nat) : ∀ (l : List Edge) (s : Nat), (l.foldl (fun s e => if Region.binds .any e then s ||| 2 ^ e.on ||| acc.getD e.on 0 else s) s).testBit i = true →
    s.testBit i = true ∨ ∃ e ∈ l, Region.binds .any e = true ∧ (e.on = i ∨ (acc.getD e.on 0).testBit i = true)
  | [], s, h => Or.inl h
  | e :: r, s, h => by
    rcases or_bits acc r _ h with h1 | ⟨e', he', h2⟩
    · replace h1 : (if Region.binds .any e = true then s ||| 2 ^ e.on ||| acc.getD e.on 0 else s).testBit i = true := h1
      by_cases hb : Region.binds .any e = true
      · rw [if_pos hb] at h1
        simp only [Nat.testBit_or, Bool.or_eq_true] at h1
        rcases h1 with (h1 | h1) | h1
        · exact Or.inl h1
        · refine Or.inr ⟨e, by simp, hb, Or.inl ?_⟩
          rw [Nat.testBit_two_pow] at h1
          simpa using h1
        · exact Or.inr ⟨e, by simp, hb, Or.inr h1⟩
      · rw [if_neg hb] at h1; exact Or.inl h1
    · exact Or.inr ⟨e', by simp [he'], h2⟩
def maskOf (acc : List Nat) (o : Oper) : Nat := o.after.toList.foldl (fun s e => if Region.binds .any e then s ||| 2 ^ e.on ||| acc.getD e.on 0 else s) 0
theorem masks_cons (o : Oper) (r : List Oper) (acc : List Nat) : masks (o :: r) acc = masks r (acc ++ [maskOf acc o]) := by
  unfold maskOf
  conv => lhs; unfold masks
theorem masks_pre : ∀ (r : List Oper) (acc : List Nat) (k : Nat), k < acc.length → (masks r acc)[k]? = acc[k]?
  | [], acc, k, _ => rfl
  | o :: r, acc, k, h => by
    rw [masks_cons, masks_pre r _ k (by simp; omega), List.getElem?_append_left h]
theorem masks_at (r : List Oper) : ∀ (acc : List Nat) (k : Nat) (o : Oper), r[k]? = some o → (masks r acc)[acc.length + k]? = some (maskOf ((masks r acc).take (acc.length + k)) o) := by
  induction r with
  | nil => intro acc k o h; simp at h
  | cons o r ih =>
    intro acc k o' h
    rw [masks_cons]
    generalize hm : maskOf acc o = m
    cases k with
    | zero =>
      have e : o = o' := Option.some.inj h
      have h1 := masks_pre r (acc ++ [m]) acc.length (by simp)
      have h2 : (masks r (acc ++ [m])).take acc.length = acc := by
        apply List.ext_getElem?
        intro q
        rw [List.getElem?_take]
        split
        · rename_i hq
          rw [masks_pre r _ q (by rw [List.length_append]; omega), List.getElem?_append_left hq]
        · rename_i hq
          rw [List.getElem?_eq_none (by omega)]
      rw [Nat.add_zero, h1, h2, List.getElem?_append_right (Nat.le_refl _), Nat.sub_self, ← e, hm]
      rfl
    | succ k =>
      have := ih (acc ++ [m]) k o' h
      rw [List.length_append, List.length_singleton] at this
      rw [show acc.length + (k + 1) = acc.length + 1 + k by omega]
      exact this
theorem masks_spec {ops : List Oper} {j : Nat} {o : Oper} (h : ops[j]? = some o) (i : Nat) (hb : ((masks ops []).getD j 0).testBit i = true) :
    ∃ e ∈ o.after, Region.binds .any e = true ∧ (e.on = i ∨ ((masks ops []).getD e.on 0).testBit i = true) := by
  have h1 := masks_at ops [] j o h
  simp only [List.length_nil, Nat.zero_add] at h1
  rw [List.getD_eq_getElem?_getD, h1] at hb
  simp only [Option.getD_some, maskOf] at hb
  rcases or_bits _ _ _ hb with h2 | ⟨e, he, h2, h3⟩
  · simp at h2
  · refine ⟨e, by simpa using he, h2, h3.imp id (fun h3 => ?_)⟩
    rw [List.getD_eq_getElem?_getD, List.getElem?_take] at h3
    rw [List.getD_eq_getElem?_getD]
    split at h3
    · exact h3
    · simp at h3
theorem disj_spec {a b : List Nat} (h : disj a b = true) : ∀ l ∈ a, l ∉ b := fun l hl hb => by
  have := List.all_eq_true.1 h l hl
  simp at this
  exact this hb
section
variable {P : Program} {T : Tab} {PC : Orc} {Q : Exit → Act → World → Prop} {o : Oper} {a : Act} {w : World} {B nt : Nat} {w0 : World} {F0 : Nat → Nat → Prop} {ow : Ow} {σ τ : St} {K : List Nat → List (Nat × PV) → Prop} {ops : Array Oper}
theorem okDraw_ok {f : Foot} (h : okDraw ops.toList ((List.range ops.size).map fun i => ((f i).1, keys f i)) = true) : OkF ops f ops.size fun i j => ((masks ops.toList []).getD j 0).testBit i = true := by
  unfold okDraw at h
  rw [Bool.and_eq_true] at h
  obtain ⟨h1, h2⟩ := h
  refine ⟨fun i j hij hj => ?_, fun j o ho e he hb => ?_, fun i j o ho hb => masks_spec (by simpa using ho) i hb⟩
  · unfold okAll at h2
    simp only [List.length_map, List.length_range] at h2
    have h3 := List.all_eq_true.1 (List.all_eq_true.1 h2 j (by simpa using hj)) i (by simpa using hij)
    rw [Bool.or_eq_true] at h3
    refine h3.imp id (fun h3 => ?_)
    have gi : ∀ k, k < ops.size → ((List.range ops.size).map fun i => ((f i).1, keys f i)).getD k ([], []) = ((f k).1, keys f k) := fun k hk => by
      rw [List.getD_eq_getElem?_getD, List.getElem?_map, List.getElem?_range hk]; rfl
    rw [gi i (by omega), gi j hj] at h3
    unfold okPair at h3
    rw [Bool.and_eq_true, Bool.and_eq_true] at h3
    exact ⟨disj_spec h3.1.1, disj_spec h3.1.2, disj_spec h3.2⟩
  · unfold edgesOk at h1
    have hj : j < ops.size := (Array.getElem?_eq_some_iff.1 ho).1
    have h3 := List.all_eq_true.1 h1 j (by simpa using hj)
    have ho' : ops.toList[j]? = some o := by simpa using ho
    rw [ho'] at h3
    have h4 := List.all_eq_true.1 h3 e (by simpa using he)
    rw [Bool.or_eq_true] at h4
    rcases h4 with h4 | h4
    · rw [hb] at h4; cases h4
    · simpa using h4
theorem runR_foot (Qp : List (Nat × PV) → Prop) : ∀ (rest : List Oper) (i : Nat) (acc : List (List Nat × List Nat)) (s : List (Nat × PV)), runR PC P T ops true Qp i rest acc s →
    ∃ (f : Foot) (s' : List (Nat × PV)), (∀ (k : Nat) (o : Oper), rest[k]? = some o → (opG P T ops (i + k) o).exec PC (V (lk s) f (fun _ => true) k) (f k).1 (f k).2) ∧ lk s' = V (lk s) f (fun _ => true) rest.length ∧
      okDraw ops.toList (acc.reverse ++ (List.range rest.length).map fun k => ((f k).1, keys f k)) = true ∧ Qp s'
  | [], i, acc, s, h => by
    exact ⟨fun _ => ([], []), s, (fun k o hk => by simp at hk), rfl, by simpa using h.1, h.2⟩
  | o :: r, i, acc, s, h => by
    have hn : nilT T true o = none := by unfold nilT; split <;> first | rfl | (rename_i hq _ _ _; cases hq)
    unfold runR at h
    rw [hn] at h
    obtain ⟨R, ws, h1, h2⟩ := run_exec _ h
    obtain ⟨f, s', g1, g2, g3, g4⟩ := runR_foot Qp r (i + 1) _ _ h2
    have hV : ∀ k, V (lk s) (fun k => match k with | 0 => (R, ws) | k + 1 => f k) (fun _ => true) (k + 1) = V (lk (ws ++ s)) f (fun _ => true) k := by
      intro k
      induction k with
      | zero => rw [lk_append]; rfl
      | succ k ih =>
        have : V (lk s) (fun k => match k with | 0 => (R, ws) | k + 1 => f k) (fun _ => true) (k + 1 + 1) = ap (f k).2 (V (lk s) (fun k => match k with | 0 => (R, ws) | k + 1 => f k) (fun _ => true) (k + 1)) := rfl
        rw [this, ih]; rfl
    refine ⟨fun k => match k with | 0 => (R, ws) | k + 1 => f k, s', fun k o' hk => ?_, ?_, ?_, g4⟩
    · cases k with
      | zero => simp at hk; subst hk; exact h1
      | succ k =>
        rw [hV k, show i + (k + 1) = i + 1 + k by omega]
        exact g1 k o' (by simpa using hk)
    · rw [List.length_cons, hV]; exact g2
    · have := g3
      rw [List.reverse_cons, List.append_assoc] at this
      rw [List.length_cons, List.range_succ_eq_map, List.map_cons, List.map_map]
      exact this
def unl (listed : Array Bool) : Nat := listed.toList.count false
theorem unl_set {listed : Array Bool} {j : Nat} (h : listed.getD j true = false) : unl listed = unl (listed.setIfInBounds j true) + 1 := by
  have hj : j < listed.size := by
    rcases Nat.lt_or_ge j listed.size with h' | h'
    · exact h'
    · rw [Array.getD_eq_getD_getElem?, Array.getElem?_eq_none h'] at h; cases h
  have hv : listed.toList[j]'(by simpa using hj) = false := by
    rw [Array.getD_eq_getD_getElem?, Array.getElem?_eq_getElem hj] at h; simpa using h
  unfold unl
  rw [Array.toList_setIfInBounds, List.count_set (by simpa using hj)]
  have hpos : 0 < listed.toList.count false := List.count_pos_iff.2 (by rw [← hv]; exact List.getElem_mem _)
  rw [hv]
  have e1 : (if (false == false) = true then 1 else 0) = 1 := rfl
  have e2 : (if (true == false) = true then 1 else 0) = 0 := rfl
  rw [e1, e2]
  omega
theorem any_sound (hT : TabOk P T) (hd : ∀ (i : Nat) (o : Oper), ops[i]? = some o → ∀ d, o.dst = some d → d < nt) {f : Foot} {bef : Nat → Nat → Prop} (hok : OkF ops f ops.size bef)
    (hex : ∀ (k : Nat) (o : Oper), ops[k]? = some o → (opG P T ops k o).exec (PCs P) (V σ f (fun _ => true) k) (f k).1 (f k).2)
    (hQ : ∀ a w, Inv F0 B nt w0 (V σ f (fun _ => true) ops.size) a w → Q .normal a w) :
    ∀ (fuel : Nat) (listed : Array Bool) (a : Act) (w : World), listed.size = ops.size → unl listed = fuel → (∀ d, listed.getD d false = true → ∀ i, bef i d → listed.getD i false = true) → Inv F0 B nt w0 (V σ f (fun i => listed.getD i false) ops.size) a w → wpAny P .any ops Q fuel listed a w := by
  have hall : ∀ (listed : Array Bool), listed.size = ops.size → Region.ready .any ops listed = [] → ∀ j, j < ops.size → listed.getD j false = true := by
    intro listed hs hr j
    induction j using Nat.strongRecOn with
    | _ j ih =>
      intro hj
      cases hl : listed.getD j false
      · exfalso
        have hm : j ∈ Region.ready .any ops listed := by
          refine mem_ready.2 ⟨?_, ops[j], Array.getElem?_eq_getElem hj, fun e he hb => ?_⟩
          · rw [Array.getD_eq_getD_getElem?, Array.getElem?_eq_getElem (by omega)] at hl ⊢; exact hl
          · have := hok.edge j ops[j] (Array.getElem?_eq_getElem hj) e he hb
            exact ih e.on this (by omega)
        rw [hr] at hm
        simp at hm
      · rfl
  have fin : ∀ (listed : Array Bool) (a : Act) (w : World), listed.size = ops.size → Region.ready .any ops listed = [] → Inv F0 B nt w0 (V σ f (fun i => listed.getD i false) ops.size) a w → Q .normal a w := fun listed a w hs hr hI => by
    refine hQ a w ?_
    have : V σ f (fun i => listed.getD i false) ops.size = V σ f (fun _ => true) ops.size := funext fun l => V_congr ops.size (fun i hi _ => hall listed hs hr i hi)
    rw [← this]; exact hI
  intro fuel
  induction fuel with
  | zero =>
    intro listed a w hs hu hcl hI
    have hr : Region.ready .any ops listed = [] := by
      cases hq : Region.ready .any ops listed with
      | nil => rfl
      | cons j r =>
        have hm : j ∈ Region.ready .any ops listed := by rw [hq]; simp
        have := (mem_ready.1 hm).1
        have := unl_set this
        omega
    exact ⟨hr, fin listed a w hs hr hI⟩
  | succ fuel ih =>
    intro listed a w hs hu hcl hI
    refine ⟨fun hr => fin listed a w hs hr hI, fun j hj => ?_⟩
    obtain ⟨j1, o, ho, hafter⟩ := mem_ready.1 hj
    have hjn : j < ops.size := (Array.getElem?_eq_some_iff.1 ho).1
    have hDj : listed.getD j false = false := by
      rw [Array.getD_eq_getD_getElem?, Array.getElem?_eq_getElem (by omega)] at j1 ⊢; exact j1
    have hclj : ∀ i, bef i j → listed.getD i false = true := fun i hb => by
      obtain ⟨e, he, hbi, h | h⟩ := hok.bef i j o ho hb
      · rw [← h]; exact hafter e he hbi
      · exact hcl e.on (hafter e he hbi) i h
    obtain ⟨hloc, hst⟩ := step_state (σ := σ) (f := f) hok (D := fun i => listed.getD i false) hjn hDj hclj (fun d hd _ i hb => hcl d hd i hb)
    have hex' := exec_local _ (hex j o ho) (τ := V σ f (fun i => listed.getD i false) ops.size) hloc
    obtain ⟨ow, hI⟩ := hI
    refine wpOp_mono (fun a' w' hs' => ?_) (sim_opG hT ho hI (hd j o ho) (exec_run _ hex'))
    obtain ⟨R, ws, ⟨rfl, rfl⟩, hI'⟩ := hs'
    have hgs : ∀ i, (listed.setIfInBounds j true).getD i false = (listed.getD i false || Nat.beq i j) := fun i => by
      by_cases hij : i = j
      · subst hij
        rw [Array.getD_eq_getD_getElem?, Array.getElem?_setIfInBounds_self_of_lt (by omega)]; simp
      · have hb : Nat.beq i j = false := by rw [Bool.eq_false_iff]; intro e; exact hij (Nat.eq_of_beq_eq_true e)
        rw [Array.getD_eq_getD_getElem?, Array.getElem?_setIfInBounds_ne (Ne.symm hij), ← Array.getD_eq_getD_getElem?, hb, Bool.or_false]
    refine ih _ a' w' (by simpa using hs) (by have := unl_set j1; omega) (fun d hd' i hb => ?_) ?_
    · rw [hgs] at hd' ⊢
      rw [Bool.or_eq_true] at hd' ⊢
      rcases hd' with hd' | hd'
      · exact Or.inl (hcl d hd' i hb)
      · obtain rfl := Nat.eq_of_beq_eq_true hd'
        exact Or.inl (hclj i hb)
    · have e : V σ f (fun i => (listed.setIfInBounds j true).getD i false) ops.size = ap (f j).2 (V σ f (fun i => listed.getD i false) ops.size) := by
        funext l
        rw [hst l]
        exact V_congr ops.size (fun i _ _ => hgs i)
      rw [e]; exact hI'
theorem reg_sound (hT : TabOk P T) (hm : P.follows .mixedOrders = true) {id : Nat} {draw : Bool} (hd : ∀ (i : Nat) (o : Oper), ops[i]? = some o → ∀ d, o.dst = some d → d < nt) (Qp : List (Nat × PV) → Prop) (hQ : ∀ s a w, Qp s → Inv F0 B nt w0 (lk s) a w → Q .normal a w)
    {s : List (Nat × PV)} (h : runR (PCs P) P T ops draw Qp 0 ops.toList [] s) (hI : Inv F0 B nt w0 (lk s) a w) : (Code.region id ops draw).wp P Q a w := by
  cases draw with
  | false =>
    refine wp_region ?_
    have := reg_text (Q := Q) hT hd Qp hQ ops.toList 0 [] s a w (fun k o hk => by rw [Nat.zero_add]; simpa using hk) h hI
    rw [List.range_eq_range']
    simpa using this
  | true =>
    obtain ⟨f, s', g1, g2, g3, g4⟩ := runR_foot Qp ops.toList 0 [] s h
    have hl : ops.toList.length = ops.size := by simp
    rw [hl] at g2 g3
    simp only [List.reverse_nil, List.nil_append] at g3
    refine wp_region_any hm (any_sound hT hd (okDraw_ok g3) (fun k o hk => by have := g1 k o (by simpa using hk); rw [Nat.zero_add] at this; exact this) (fun a w hI => hQ s' a w g4 (by rw [g2]; exact hI)) ops.size _ a _ (by simp) (by simp [unl]) (fun d hd' => ?_) ?_)
    · rw [Array.getD_eq_getD_getElem?] at hd'
      simp [Array.getElem?_replicate] at hd'
      split at hd' <;> simp at hd'
    · have e : V (lk s) f (fun i => (Array.replicate ops.size false).getD i false) ops.size = lk s := by
        have h0 : ∀ i, (Array.replicate ops.size false).getD i false = false := fun i => by
          rw [Array.getD_eq_getD_getElem?]
          by_cases hi : i < ops.size
          · simp [Array.getElem?_replicate, hi]
          · simp [Array.getElem?_replicate, hi]
        have : ∀ m, V (lk s) f (fun i => (Array.replicate ops.size false).getD i false) m = lk s := fun m => by
          induction m with
          | zero => rfl
          | succ m ih =>
            funext l
            rw [V_succ]
            simp only [h0, cond_false]
            have := congrFun ih l
            simp only [h0] at this
            exact this
        exact this _
      rw [e]
      obtain ⟨ow, hI⟩ := hI
      exact ⟨ow, hI.ext ⟨rfl, rfl, rfl, Nat.le_refl _, fun _ _ => rfl⟩⟩
end
section
variable {P : Program} {T : Tab} {PC : Orc} {Q : Exit → Act → World → Prop} {a : Act} {w : World} {F0 : Nat → Nat → Prop} {B nt : Nat} {w0 : World} {ow : Ow} {σ τ : St}
theorem nb_rep {F : Nat → Nat → Prop} {p p' : PV} {v : Value} (h : RepC F w p v) (e : p.nb = p'.nb) : RepC F w p' v := by
  cases p' with
  | tt =>
    have h1 := h.nb
    rw [e] at h1
    have := h1.s_eq
    subst this
    exact .tt
  | ff =>
    have h1 := h.nb
    rw [e] at h1
    have := h1.s_eq
    subst this
    exact .ff
  | _ => have h1 := h.nb; rw [e] at h1; exact h1
theorem le1_rep {F : Nat → Nat → Prop} {p p' : PV} {v : Value} (h : RepC F w p v) (e : le1 p p') : RepC F w p' v := by
  unfold le1 at e
  split at e
  · exact .any _
  · split at e
    · obtain ⟨rfl, e2, _⟩ := e
      rcases e2 with rfl | rfl
      · exact h.sl_of
      · exact h.sl_z
    · exact e.elim
  · exact nb_rep h e
theorem le1_own {ow' : Ow} {p p' : PV} {v : Value} (h : Own B ow w σ p v) (ht : tokOk σ p) (e : le1 p p') (hfr : ∀ k n z, τ (3 * k + 2) = .fr n z → σ (3 * k + 2) = .any ∨ σ (3 * k + 2) = .fr n z) (how : ∀ b k l, ow b = some (2 * k + 1, l) → ow' b = some (2 * k + 1, l)) : Own B ow' w τ p' v := by
  unfold le1 at e
  split at e
  · trivial
  · rename_i k' z' xs'
    split at e
    · rename_i k z xs
      obtain ⟨rfl, _, e3⟩ := e
      match k' with
      | 0 => trivial
      | 1 =>
        rcases e3 with e3 | rfl | rfl
        · cases e3
        · exact h
        · exact h
      | j + 2 =>
        intro z1 hz1
        rcases e3 with e3 | rfl | rfl
        · cases e3
        · have h2 : σ (3 * j + 2) = .fr xs.length z1 := by
            rcases hfr j _ _ hz1 with h3 | h3
            · unfold tokOk at ht
              simp only [h3] at ht
            · exact h3
          rcases h z1 h2 with h | ⟨e, cells, h3, h4⟩
          · exact Or.inl h
          · exact Or.inr ⟨e, cells, h3, fun g hg => how _ _ _ (h4 g hg)⟩
        · exact Or.inl h
    · exact e.elim
  · rename_i h1 h2
    cases p' with
    | sl k z xs => exact absurd rfl (h2 _ _ _)
    | _ => trivial
theorem leL_get : ∀ {cs cs' : List PV}, leL cs cs' → cs.length = cs'.length ∧ ∀ (j : Nat) (p p' : PV), cs[j]? = some p → cs'[j]? = some p' → le1 p p'
  | [], [], _ => ⟨rfl, fun j p p' h _ => by simp at h⟩
  | p :: r, p' :: r', h => by
    obtain ⟨h1, h2⟩ := leL_get h.2
    refine ⟨by simp [h1], fun j q q' hq hq' => ?_⟩
    cases j with
    | zero => simp at hq hq'; subst hq; subst hq'; exact h.1
    | succ j => exact h2 j q q' (by simpa using hq) (by simpa using hq')
  | [], _ :: _, h => h.elim
  | _ :: _, [], h => h.elim
theorem le1_refl (p : PV) : le1 p p := by
  unfold le1
  split
  · trivial
  · exact ⟨rfl, Or.inl rfl, Or.inr (Or.inl rfl)⟩
  · rfl
theorem leL_refl : ∀ l, leL l l
  | [] => trivial
  | p :: r => ⟨le1_refl p, leL_refl r⟩
theorem leP_refl (l : Nat) (p : PV) : leP l p p := by
  unfold leP
  split
  · trivial
  · cases Nat.beq (l % 3) 1
    · rfl
    · exact leL_refl _
  · cases Nat.beq (l % 3) 2
    · rfl
    · exact Or.inr rfl
  · exact le1_refl p
def PV.isAny : PV → Bool | .any => true | _ => false
theorem isAny_iff {p : PV} : p.isAny = true ↔ p = .any := by cases p <;> simp [PV.isAny]
theorem InvO.weak (hI : InvO F0 B nt w0 ow σ a w) (h : ∀ l, τ l = .any ∨ (leP l (σ l) (τ l) ∧ wf1 τ l (τ l))) : Inv F0 B nt w0 τ a w := by
  have hfr : ∀ k n z, τ (3 * k + 2) = .fr n z → σ (3 * k + 2) = .any ∨ σ (3 * k + 2) = .fr n z := fun k n z hk => by
    rcases h (3 * k + 2) with h1 | ⟨h1, _⟩
    · rw [h1] at hk; cases hk
    · rw [hk] at h1
      unfold leP at h1
      simp only [show Nat.beq ((3 * k + 2) % 3) 2 = true by rw [show (3 * k + 2) % 3 = 2 by omega]; rfl, cond_true] at h1
      exact h1
  let ow' : Ow := fun b => match ow b with
    | some (c, l) => if c % 2 = 0 ∧ (τ (3 * (c / 2) + 1)).isAny = true then none else some (c, l)
    | none => none
  have how : ∀ b k l, ow b = some (2 * k + 1, l) → ow' b = some (2 * k + 1, l) := fun b k l hb => by
    show (match ow b with | some (c, l) => if c % 2 = 0 ∧ (τ (3 * (c / 2) + 1)).isAny = true then none else some (c, l) | none => none) = _
    rw [hb]
    exact if_neg (fun e => by omega)
  have how2 : ∀ b k l, ow b = some (2 * k, l) → τ (3 * k + 1) ≠ .any → ow' b = some (2 * k, l) := fun b k l hb hne => by
    show (match ow b with | some (c, l) => if c % 2 = 0 ∧ (τ (3 * (c / 2) + 1)).isAny = true then none else some (c, l) | none => none) = _
    rw [hb]
    refine if_neg (fun e => hne ?_)
    rw [show 2 * k / 2 = k by omega] at e
    exact isAny_iff.1 e.2
  have hback : ∀ b c l, ow' b = some (c, l) → ow b = some (c, l) ∧ ∀ k, c = 2 * k → τ (3 * k + 1) ≠ .any := fun b c l hb => by
    have hb2 : (match ow b with | some (c, l) => if c % 2 = 0 ∧ (τ (3 * (c / 2) + 1)).isAny = true then none else some (c, l) | none => none) = some (c, l) := hb
    cases hq : ow b with
    | none => rw [hq] at hb2; cases hb2
    | some x =>
      obtain ⟨c', l'⟩ := x
      rw [hq] at hb2
      simp only [] at hb2
      split at hb2
      · cases hb2
      · rename_i hn
        cases hb2
        refine ⟨rfl, fun k hk e => hn ⟨by omega, ?_⟩⟩
        rw [hk, show 2 * k / 2 = k by omega]; exact isAny_iff.2 e
  have hFF : ∀ p v, RepC (FF F0 ow) w p v → RepC (FF F0 ow') w p v := fun p v hr => hr.mono fun b o u hc hf => ⟨hc, hf.1, fun c l hcl => hf.2 c l (hback b c l hcl).1⟩
  have hown : ∀ p p' v, Own B ow w σ p v → tokOk σ p → le1 p p' → Own B ow' w τ p' v := fun p p' v h1 h2 h3 => le1_own h1 h2 h3 hfr how
  refine ⟨ow', hI.defers, hI.size, hI.low, hI.newF, hI.below, fun t => ?_, fun b t l hb => ?_, fun b b' t l l' hb hb' => hI.uniq b b' t l l' (hback _ _ _ hb).1 (hback _ _ _ hb').1, fun b c l hb => hI.owB b c l (hback b c l hb).1, fun l => ?_⟩
  · have hr := hI.tms t
    have hw := hI.wf (3 * t)
    rcases h (3 * t) with h1 | ⟨h1, h2⟩
    · rw [h1]; exact ⟨.any _, trivial⟩
    · generalize τ (3 * t) = p' at h1 h2
      generalize σ (3 * t) = p at hr hw h1
      have m1 : Nat.beq (3 * t % 3) 1 = false := by rw [Nat.mul_mod_right]; rfl
      have m2 : Nat.beq (3 * t % 3) 2 = false := by rw [Nat.mul_mod_right]; rfl
      have hle : le1 p p' := by
        unfold leP at h1
        split at h1
        · trivial
        · rw [m1] at h1; obtain rfl := h1; exact le1_refl _
        · rw [m2] at h1; obtain rfl := h1; exact le1_refl _
        · exact h1
      cases p' with
      | pt t' o =>
        have e : p = .pt t' o := by
          have e1 : p.nb = .pt t' o := hle
          cases p <;> first | exact e1 | cases e1
        subst e
        obtain ⟨b, k1, k2⟩ := hr
        refine ⟨b, how2 b t' 0 k1 (fun e => ?_), k2⟩
        unfold wf1 at h2
        simp only [e] at h2
      | tu ps =>
        have e : p = .tu ps := by
          have e1 : p.nb = .tu ps := hle
          cases p <;> first | exact e1 | cases e1
        subst e
        exact ⟨hFF _ _ hr.1, fun vs i q u x y z => hown q q u (hr.2 vs i q u x y z) (allP_get hw y) (le1_refl q)⟩
      | sl k' z' xs' =>
        cases p with
        | sl k z xs => exact ⟨hFF _ _ (le1_rep hr.1 hle), hown _ _ _ hr.2 hw hle⟩
        | _ => exact hle.elim
      | any => exact ⟨.any _, trivial⟩
      | fr n z =>
        have e1 : p.nb = .fr n z := hle
        cases p <;> first | (cases e1; done) | (cases hr.1; done)
      | _ =>
        have hne : ∀ t o, p ≠ .pt t o := fun t o e => by subst e; cases hle
        exact ⟨hFF _ _ (le1_rep (hr.rep hne) hle), trivial⟩
  · obtain ⟨hb1, hb2⟩ := hback _ _ _ hb
    obtain ⟨e, cs, c, Ty, k1, k2, k3, k4⟩ := hI.boxes b t l hb1
    have hwf := hI.wf (3 * t + 1)
    rw [k1] at hwf
    simp only [wf1, mod_box, cond_true] at hwf
    refine ⟨e, ?_⟩
    rcases h (3 * t + 1) with h1 | ⟨h1, h2⟩
    · exact absurd h1 (hb2 t rfl)
    · rw [k1] at h1
      have : ∃ cs', τ (3 * t + 1) = .ag cs' ∧ leL cs cs' := by
        cases hp' : τ (3 * t + 1) with
        | ag cs' =>
          rw [hp'] at h1
          unfold leP at h1
          simp only [mod_box, cond_true] at h1
          exact ⟨cs', rfl, h1⟩
        | any => exact absurd hp' (hb2 t rfl)
        | fr n z =>
          rw [hp'] at h1
          unfold leP at h1
          simp only [show Nat.beq ((3 * t + 1) % 3) 2 = false by rw [show (3 * t + 1) % 3 = 1 by omega]; rfl, cond_false] at h1
          cases h1
        | sl => rw [hp'] at h1; exact h1.elim
        | _ => rw [hp'] at h1; cases h1
      obtain ⟨cs', hcs', hle⟩ := this
      obtain ⟨l1, l2⟩ := leL_get hle
      refine ⟨cs', c, Ty, hcs', k2, by omega, fun j p' v hp' hv => ?_⟩
      have hj : j < cs.length := by have := (List.getElem?_eq_some_iff.1 hp').1; omega
      have hp := List.getElem?_eq_getElem hj
      obtain ⟨q1, q2, q3⟩ := k4 j _ v hp hv
      have hle1 := l2 j _ p' hp hp'
      exact ⟨q1, hFF _ _ (le1_rep q2 hle1), hown _ _ _ q3 (allP_get hwf hp) hle1⟩
  · rcases h l with h1 | ⟨_, h2⟩
    · rw [h1]; trivial
    · exact h2
end
theorem lk_cases : ∀ (s : List (Nat × PV)) (l : Nat), lk s l = .any ∨ (l, lk s l) ∈ s
  | [], l => Or.inl rfl
  | (k, p) :: r, l => by
    show (bif Nat.beq l k then p else lk r l) = .any ∨ (l, bif Nat.beq l k then p else lk r l) ∈ _
    cases hb : Nat.beq l k
    · rcases lk_cases r l with h | h
      · exact Or.inl h
      · exact Or.inr (by simp only [cond_false]; exact List.mem_cons_of_mem _ h)
    · obtain rfl := Nat.eq_of_beq_eq_true hb
      exact Or.inr (by simp)
theorem goU_mem {σ τ : St} : ∀ {u : List (Nat × PV)} {l : Nat} {p : PV}, goU σ τ u → (l, p) ∈ u → leP l (σ l) p ∧ wf1 τ l p
  | (k, q) :: r, l, p, h, hm => by
    rcases List.mem_cons.1 hm with e | hm
    · cases e; exact ⟨h.1, h.2.1⟩
    · exact goU_mem h.2.2 hm
theorem goK_mem {σ σ0 τ : St} : ∀ {ks : List Nat} {l : Nat}, goK σ σ0 τ ks → l ∈ ks → σ l = σ0 l ∧ wf1 τ l (σ0 l)
  | k :: r, l, h, hm => by
    rcases List.mem_cons.1 hm with e | hm
    · subst e; exact ⟨h.1, h.2.1⟩
    · exact goK_mem h.2.2 hm
def cv : Ex → Exit
  | .normal => .normal
  | .exit i => .exit i
  | .ret => .ret
theorem wp_loopX {P : Program} {Q : Exit → Act → World → Prop} {c : Code} {X : Type} (I : X → Act → World → Prop) (μ : X → Nat) {x0 : X} {a : Act} {w : World} (h0 : I x0 a w)
    (round : ∀ x a w, I x a w → c.wp P (Exit.then (fun a' w' => ∃ x', I x' a' w' ∧ μ x' < μ x) Q) a w) : (Code.loop c).wp P Q a w := by
  intro b k cs
  have key : ∀ n x a w, μ x = n → I x a w → ∃ e a' w', Q e a' w' ∧ Arrives P (lone (b.at a (.code c :: .inLoop c :: k)) cs w) b k cs e a' w' := by
    intro n
    induction n using Nat.strongRecOn with
    | _ n ih =>
      intro x a w hn hI
      obtain ⟨e, a₁, w₁, hq, harr⟩ := round x a w hI b (.inLoop c :: k) cs
      cases e with
      | normal =>
        obtain ⟨x', hI₁, hlt⟩ := hq
        obtain ⟨e₂, a₂, w₂, hq₂, harr₂⟩ := ih (μ x') (hn ▸ hlt) x' a₁ w₁ rfl hI₁
        exact ⟨e₂, a₂, w₂, hq₂, .of_steps (Steps.trans harr (.one step_inLoop)) harr₂⟩
      | exit id => exact ⟨_, a₁, w₁, hq, .pass (x := .inLoop c) rfl (fun _ _ => .inl (by simp)) harr⟩
      | goto l => exact ⟨_, a₁, w₁, hq, .pass (x := .inLoop c) rfl (fun _ _ => .inl (by simp)) harr⟩
      | ret => exact ⟨_, a₁, w₁, hq, .pass (x := .inLoop c) rfl (fun _ _ => .inl (by simp)) harr⟩
      | panic ch => exact ⟨_, a₁, w₁, hq, .pass (x := .inLoop c) rfl (fun _ _ => .inl (by simp)) harr⟩
      | outgrown => exact ⟨_, a₁, w₁, hq, .pass (x := .inLoop c) rfl (fun _ _ => .inl (by simp)) harr⟩
  obtain ⟨e, a', w', hq, harr⟩ := key _ x0 a w rfl h0
  exact ⟨e, a', w', hq, .of_steps (.one step_loop) harr⟩
section
variable {P : Program} {T : Tab} {a : Act} {w : World} {F0 : Nat → Nat → Prop} {B nt : Nat} {w0 : World} {ow : Ow} {σ τ : St}
theorem wk_inv {s s' u : List (Nat × PV)} {ks : List Nat} (hI : Inv F0 B nt w0 (lk s') a w) (hk : wk s' s u ks) : Inv F0 B nt w0 (lk (headS u ks s)) a w := by
  obtain ⟨ow, hI⟩ := hI
  refine hI.weak fun l => ?_
  rcases lk_cases (headS u ks s) l with h | h
  · exact Or.inl h
  · refine Or.inr ?_
    rcases List.mem_append.1 h with h | h
    · exact goU_mem hk.1 h
    · obtain ⟨k, hkm, e⟩ := List.mem_map.1 h
      injection e with e1 e2
      subst e1
      obtain ⟨g1, g2⟩ := goK_mem hk.2 hkm
      rw [← e2]
      exact ⟨by rw [g1]; exact leP_refl _ _, g2⟩
theorem pw_sound (hT : TabOk P T) (hm : P.follows .mixedOrders = true) : ∀ (c : Code) (Qp : Ex → List (Nat × PV) → Prop) (s : List (Nat × PV)) (a : Act) (w : World) (Q : Exit → Act → World → Prop), dstOk nt c = true → PW (PCs P) P T c Qp s → Inv F0 B nt w0 (lk s) a w →
    (∀ ex s' a' w', Qp ex s' → Inv F0 B nt w0 (lk s') a' w' → Q (cv ex) a' w') → c.wp P Q a w
  | .skip, Qp, s, a, w, Q, _, h, hI, hQ => wp_skip (hQ .normal s a w h hI)
  | .region id ops draw, Qp, s, a, w, Q, hd, h, hI, hQ => by
    refine reg_sound hT hm (fun i o ho d hod => ?_) (Qp .normal) (fun s' a' w' h hI => hQ .normal s' a' w' h hI) h hI
    have := List.all_eq_true.1 hd o (by simpa using Array.mem_of_getElem? ho)
    rw [hod] at this
    simpa using this
  | .seq x y, Qp, s, a, w, Q, hd, h, hI, hQ => by
    simp only [dstOk, Bool.and_eq_true] at hd
    refine wp_seq (pw_sound hT hm x _ s a w _ hd.1 h hI (fun ex s' a' w' h' hI' => ?_))
    cases ex with
    | normal => exact pw_sound hT hm y Qp s' a' w' Q hd.2 h' hI' hQ
    | exit i => exact hQ (.exit i) s' a' w' h' hI'
    | ret => exact hQ .ret s' a' w' h' hI'
  | .cond c x y, Qp, s, a, w, Q, hd, h, hI, hQ => by
    simp only [dstOk, Bool.and_eq_true] at hd
    obtain ⟨ow, hI0⟩ := id hI
    have key : ∀ p, RepC (FF F0 ow) w p (a.eval c) → (match p with | .s (.bool b) => (b = true → PW (PCs P) P T x Qp s) ∧ (b = false → PW (PCs P) P T y Qp s) | .tt => PW (PCs P) P T x Qp s | .ff => PW (PCs P) P T y Qp s | _ => False) → (Code.cond c x y).wp P Q a w := by
      intro p hr hp
      split at hp
      · rename_i b
        exact wp_cond_split hr.s_eq (fun e => pw_sound hT hm x Qp s a w Q hd.1 (hp.1 e) hI hQ) (fun e => pw_sound hT hm y Qp s a w Q hd.2 (hp.2 e) hI hQ)
      · exact wp_cond_true hr.tt_eq (pw_sound hT hm x Qp s a w Q hd.1 hp hI hQ)
      · exact wp_cond_false hr.ff_eq (pw_sound hT hm y Qp s a w Q hd.2 hp hI hQ)
      · exact hp.elim
    unfold PW at h
    rw [force_eq] at h
    cases c with
    | tmp t =>
      have hr := hI0.tms t
      have h' := h
      simp only [] at h'
      refine key (lk s (3 * t)) (hr.rep (fun t' o e => ?_)) h'
      rw [e] at h'
      exact h'
    | const v => exact key (constPV v) ((constPV_rep (F0 := F0) (B := B) (ow := ow) (w := w) (σ := lk s) v).1.rep (fun t o e => by simp only [e] at h)) h
    | global g => exact h.elim
    | func f => exact h.elim
  | .block id c, Qp, s, a, w, Q, hd, h, hI, hQ => by
    refine wp_block (pw_sound hT hm c _ s a w _ hd h hI (fun ex s' a' w' h' hI' => ?_))
    cases ex with
    | normal => exact hQ .normal s' a' w' h' hI'
    | exit i =>
      show (if i = id then Q .normal a' w' else Q (.exit i) a' w')
      by_cases hi : i = id
      · rw [if_pos hi]
        have : Nat.beq i id = true := by rw [hi]; exact Nat.beq_refl id
        simp only [this, cond_true] at h'
        exact hQ .normal s' a' w' h' hI'
      · rw [if_neg hi]
        have : Nat.beq i id = false := by rw [Bool.eq_false_iff]; intro e; exact hi (Nat.eq_of_beq_eq_true e)
        simp only [this, cond_false] at h'
        exact hQ (.exit i) s' a' w' h' hI'
    | ret => exact hQ .ret s' a' w' h' hI'
  | .loop c, Qp, s, a, w, Q, hd, h, hI, hQ => by
    obtain ⟨X, C, u, ks, μ, x0, hC0, hk0, hround⟩ := h
    refine wp_loopX (I := fun x a w => C x ∧ Inv F0 B nt w0 (lk (headS (u x) ks s)) a w) μ (x0 := x0) ⟨hC0, wk_inv hI hk0⟩ (fun x a w ⟨hC, hI⟩ => ?_)
    refine pw_sound hT hm c _ _ a w _ hd (hround x hC) hI (fun ex s' a' w' h' hI' => ?_)
    cases ex with
    | normal =>
      obtain ⟨x', g1, g2, g3⟩ := h'
      exact ⟨x', ⟨g1, wk_inv hI' g3⟩, g2⟩
    | exit i => exact hQ (.exit i) s' a' w' h' hI'
    | ret => exact hQ .ret s' a' w' h' hI'
  | .exit id, Qp, s, a, w, Q, _, h, hI, hQ => wp_exit (hQ (.exit id) s a w h hI)
  | .ret, Qp, s, a, w, Q, _, h, hI, hQ => wp_ret (hQ .ret s a w h hI)
  | .rangeFunc .., _, _, _, _, _, _, h, _, _ => h.elim
  | .scope _, _, _, _, _, _, _, h, _, _ => h.elim
  | .label _, _, _, _, _, _, _, h, _, _ => h.elim
  | .goto _, _, _, _, _, _, _, h, _, _ => h.elim
  | .refuse _, _, _, _, _, _, _, h, _, _ => h.elim
def RepO (F0 : Nat → Nat → Prop) (B : Nat) (ow : Ow) (w : World) (σ : St) : List PV → List Value → Prop
  | [], [] => True
  | p :: ps, v :: vs => RepT F0 B ow w σ p v ∧ RepO F0 B ow w σ ps vs
  | _, _ => False
def outV (tmps : Array Value) : ResultVar → Sem Value
  | .tmp t => pure (tmps.getD t undef)
  | .cell c t => do loadVar t (← asAddr (tmps.getD c undef))
theorem results_eq (fn : Func) (tmps : Array Value) : results fn tmps = (do let vs ← fn.results.mapM (outV tmps); pure (if h : vs.size = 1 then vs[0] else .tuple vs)) := by
  unfold results
  congr 1
theorem out_sound {PC : Orc} (hT : TabOk P T) (hI : InvO F0 B nt w0 ow σ a w) : ∀ (rs : List ResultVar) (k : List PV → AM) (K : List Nat → List (Nat × PV) → Prop), (outA T rs k).run PC σ K →
    ∃ ps vs R0, RepO F0 B ow w σ ps vs ∧ (rs.mapM (outV a.tmps) : Sem (List Value)).run P w = .ok vs w ∧ (k ps).run PC σ fun R ws => K (R0 ++ R) ws
  | [], k, K, h => ⟨[], [], [], trivial, rfl, h⟩
  | .tmp t :: r, k, K, h => by
    simp only [outA, AM.run, force_eq] at h
    obtain ⟨ps, vs, R0, h1, h2, h3⟩ := out_sound hT hI r _ _ h
    refine ⟨_ :: ps, a.tmps.getD t undef :: vs, 3 * t :: R0, ⟨hI.tms t, h1⟩, ?_, h3⟩
    rw [List.mapM_cons]
    simp only [outV, Sem.run_bind, Sem.run_pure, Result.andThen_ok, h2]
  | .cell c t :: r, k, K, h => by
    simp only [outA, AM.run, force_eq] at h
    split at h
    · rename_i i b ht hp
      have hti := hT _ _ ht
      have hr := hI.tms c
      rw [hp] at hr
      obtain ⟨g, g1, g2⟩ := hr
      obtain ⟨_, cs, cc, Ty, b1, b2, b3, b4⟩ := hI.boxes g b 0 g1
      simp only [AM.run, force_eq, b1] at h
      have hcell : ∀ j v, cc[j]? = some v → w.cell? ⟨g, j, none⟩ = some v := fun j v hv => (cell_of_row w g j cc Ty (0, 0) b2).trans hv
      cases hl : Nat.beq cs.length i.size
      · rw [hl] at h; exact h.elim
      rw [hl] at h
      simp only [cond_true] at h
      have hl' := Nat.eq_of_beq_eq_true hl
      have hld : ∀ v, (Instr.loadAt t (.pointer (some ⟨g, 0, none⟩))).run P w = .ok v w → (do loadVar t (← asAddr (a.tmps.getD c undef)) : Sem Value).run P w = .ok v w := fun v hv => by
        rw [g2]
        simpa [Instr.loadAt, Instr.sureAddr, asAddr] using hv
      cases hag : i.agg
      · rw [hag] at h
        simp only [cond_false] at h
        split at h
        · rename_i c0
          obtain ⟨ps, vs, R0, h1, h2, h3⟩ := out_sound hT hI r _ _ h
          have hc1 : cc.size = 1 := by simpa using b3.symm
          have hv : cc[0]? = some cc[0] := Array.getElem?_eq_getElem (by omega)
          obtain ⟨o1, o2, o3⟩ := b4 0 c0 _ rfl hv
          refine ⟨c0 :: ps, cc[0] :: vs, 3 * c :: (3 * b + 1) :: R0, ⟨?_, h1⟩, ?_, h3⟩
          · cases c0 with
            | pt t o => cases o2
            | tu q =>
              generalize hvv : cc[0] = v at o1 o2
              cases o2
              simp [Value.oneCell'] at o1
            | _ => exact ⟨o2, o3⟩
          · rw [List.mapM_cons]
            simp only [outV, Sem.run_bind, hld _ (loadVar_sc hti hag g 0 _ (hcell 0 _ hv)), Result.andThen_ok, h2]
            rfl
        · exact h.elim
      · rw [hag] at h
        simp only [cond_true] at h
        obtain ⟨ps, vs, R0, h1, h2, h3⟩ := out_sound hT hI r _ _ h
        refine ⟨.ag (cs.map PV.ro) :: ps, .agg cc :: vs, 3 * c :: (3 * b + 1) :: R0, ⟨⟨.ag _ _ (by simp [b3]) (fun v hv => ?_) (fun j p v hp hv => ?_), trivial⟩, h1⟩, ?_, h3⟩
        · obtain ⟨j, hj, hjv⟩ := List.getElem_of_mem hv
          have hj' : j < cs.length := by rw [b3]; simpa using hj
          exact (b4 j cs[j] v (List.getElem?_eq_getElem hj') (by rw [← hjv]; simp)).1
        · rw [List.getElem?_map] at hp
          obtain ⟨q, hq, rfl⟩ := Option.map_eq_some_iff.1 hp
          exact (b4 j q v hq hv).2.1.ro
        · rw [List.mapM_cons]
          have := loadVar_agg hti hag g 0 cc.toList (by simp; omega) (fun j v hv => by rw [Nat.zero_add]; exact hcell j v (by simpa using hv))
          simp only [outV, Sem.run_bind, hld _ this, Result.andThen_ok, h2]
          rfl
    · exact h.elim
def owR (ow : Ow) : Nat → Option Nat := fun b => (ow b).map (·.2)
theorem okR_own {p r : PV} {v : Value} (h : RepT F0 B ow w σ p v) (hk : okR σ p r) : RepC (FF F0 ow) w r v ∧ OwnR (owR ow) w B r v ∧ (∀ ps, r ≠ .tu ps) := by
  cases r with
  | sl k' z' xs' =>
    cases p with
    | sl k z xs =>
      obtain ⟨rfl, e2, e3⟩ := hk
      refine ⟨?_, ?_, fun ps e => by cases e⟩
      · rcases e2 with rfl | rfl
        · exact h.1.sl_of
        · exact h.1.sl_z
      · match k' with
        | 0 => trivial
        | 1 => obtain rfl : k = 1 := e3; exact h.2
        | m + 2 =>
          rcases e3 with rfl | e3
          · exact Or.inl h.2
          · match k with
            | 0 => exact e3.elim
            | 1 => exact e3.elim
            | j + 2 =>
              rcases h.2 m e3 with h | ⟨e, cells, h1, h2⟩
              · exact Or.inl h
              · exact Or.inr ⟨e, cells, h1, fun g hg => by unfold owR; rw [h2 g hg]; rfl⟩
    | _ => exact hk.elim
  | any => exact ⟨.any _, trivial, fun ps e => by cases e⟩
  | tu ps => exact hk.elim
  | pt t o => exact hk.elim
  | fr n z => exact hk.elim
  | _ =>
    have hne : ∀ t o, p ≠ .pt t o := fun t o e => by subst e; cases hk
    exact ⟨nb_rep (h.rep hne) hk, trivial, fun ps e => by cases e⟩
theorem lk_argS_slot : ∀ (args : List PV) (i t : Nat), lk (argS i args) (3 * t) = if i ≤ t then (args[t - i]?).getD .any else .any
  | [], i, t => by simp [argS, lk]
  | p :: r, i, t => by
    show (bif Nat.beq (3 * t) (3 * i) then p else lk (argS (i + 1) r) (3 * t)) = _
    by_cases h : t = i
    · subst h; simp
    · have : Nat.beq (3 * t) (3 * i) = false := by rw [Bool.eq_false_iff]; intro e; have := Nat.eq_of_beq_eq_true e; omega
      rw [this, cond_false, lk_argS_slot r (i + 1) t]
      by_cases hi : i ≤ t
      · rw [if_pos (by omega), if_pos hi, show t - i = (t - (i + 1)) + 1 by omega]; simp
      · rw [if_neg (by omega), if_neg hi]
theorem lk_argS_mem : ∀ (args : List PV) (i l : Nat), lk (argS i args) l = .any ∨ ∃ t p, l = 3 * t ∧ p ∈ args ∧ lk (argS i args) l = p
  | [], i, l => Or.inl rfl
  | p :: r, i, l => by
    show (bif Nat.beq l (3 * i) then p else lk (argS (i + 1) r) l) = _ ∨ ∃ t q, l = 3 * t ∧ q ∈ _ ∧ (bif Nat.beq l (3 * i) then p else lk (argS (i + 1) r) l) = q
    cases hb : Nat.beq l (3 * i)
    · rcases lk_argS_mem r (i + 1) l with h | ⟨t, q, h1, h2, h3⟩
      · exact Or.inl h
      · exact Or.inr ⟨t, q, h1, by simp [h2], h3⟩
    · exact Or.inr ⟨i, p, Nat.eq_of_beq_eq_true hb, by simp, rfl⟩
theorem repA_get {F : Nat → Nat → Prop} : ∀ {args : List PV} {vs : List Value}, RepA F w args vs → args.length = vs.length ∧ ∀ (t : Nat) (p : PV), args[t]? = some p → ∃ v, vs[t]? = some v ∧ RepC F w p v
  | [], [], _ => ⟨rfl, fun t p h => by simp at h⟩
  | p :: ps, v :: vs, h => by
    obtain ⟨h1, h2⟩ := repA_get h.2
    refine ⟨by simp [h1], fun t q hq => ?_⟩
    cases t with
    | zero => simp at hq; subst hq; exact ⟨v, rfl, h.1⟩
    | succ t => simpa using h2 t q (by simpa using hq)
  | [], _ :: _, h => h.elim
  | _ :: _, [], h => h.elim
theorem argP_plain {p : PV} (h : argP p = true) : plainP p = true := by
  cases p with
  | sl k z xs => cases k with
    | zero => rfl
    | succ k => simp [argP] at h
  | pt => simp [argP] at h
  | tu => simp [argP] at h
  | fr => simp [argP] at h
  | _ => rfl
theorem pc_of {f : FuncId} {fn : Func} {c : Code} (hT : TabOk P T) (hm : P.follows .mixedOrders = true) (hf : P.funcs[f]? = some fn) (hb : fn.body = some c) (hn : (fn.name == "runtime.NumGoroutine") = false) (hdst : dstOk fn.ntmps c = true)
    {args : List PV} {r : PV} (hl : args.length ≤ fn.ntmps) (ha : args.all argP = true) (h : FW (PCs P) P T fn c args r) : PCs P f args r := by
  refine ⟨⟨fn, hf, hn, by rw [hb]; rfl⟩, fun w F vs hvs => ?_⟩
  obtain ⟨hlen, hget⟩ := repA_get hvs
  have hargs : ∀ p ∈ args, argP p = true := fun p hp => List.all_eq_true.1 ha p hp
  have hI : InvO (fun b o => F b o ∨ w.heap.size ≤ b) w.heap.size fn.ntmps w (fun _ => none) (lk (argS 0 args)) { tmps := vs.toArray ++ Array.replicate (fn.ntmps - vs.toArray.size) undef, defers := [] } w := by
    refine ⟨rfl, by simp; omega, Nat.le_refl _, fun b o hb => Or.inr hb, Below.refl _ _, fun t => ?_, (fun b t l h => by cases h), (fun b b' t l l' h _ => by cases h), (fun b c l h => by cases h), fun l => ?_⟩
    · rw [lk_argS_slot, if_pos (Nat.zero_le _), Nat.sub_zero]
      cases hq : args[t]? with
      | none => exact ⟨.any _, trivial⟩
      | some p =>
        obtain ⟨v, hv, hr⟩ := hget t p hq
        have hvt : (vs.toArray ++ Array.replicate (fn.ntmps - vs.toArray.size) undef).getD t undef = v := by
          have ht : t < vs.length := (List.getElem?_eq_some_iff.1 hv).1
          rw [Array.getD_eq_getD_getElem?, Array.getElem?_append_left (by simpa using ht)]
          simp [hv]
        show RepT _ _ _ _ _ p _
        rw [show ({ tmps := vs.toArray ++ Array.replicate (fn.ntmps - vs.toArray.size) undef, defers := [] } : Act).tmps.getD t undef = v from hvt]
        exact .of_plain (argP_plain (hargs p (List.mem_of_getElem? hq))) (hr.mono fun b o u hc hf => ⟨hc, Or.inl hf, (fun c l e => by cases e)⟩)
    · rcases lk_argS_mem args 0 l with h | ⟨t, p, rfl, h2, h3⟩
      · rw [h]; trivial
      · rw [h3]; exact wf1_slot (wfT_plain (argP_plain (hargs p h2)))
  refine calls_of_wp hf hb (pw_sound (nt := fn.ntmps) (B := w.heap.size) (w0 := w) hT hm c _ _ _ w _ hdst h ⟨_, hI⟩ (fun ex s a' w' hq hI' => ?_))
  obtain ⟨ow, hI'⟩ := hI'
  have fin : (outA T fn.results.toList fun ps => .ret (ps.map fun p => (0, p))).run (PCs P) (lk s) (fun _ ws => okRR (lk s) (ws.map (·.2)) r) →
      a'.defers = [] ∧ ∃ v, (results fn a'.tmps).run P w' = .ok v w' ∧ ∃ v', Ending.returned v = .returned v' ∧ Below w.heap.size w w' ∧ Res F w.heap.size w' r v' := fun h => by
    refine ⟨hI'.defers, ?_⟩
    obtain ⟨ps, us, R0, h1, h2, h3⟩ := out_sound hT hI' _ _ _ h
    simp only [AM.run, forceW_eq, List.map_map] at h3
    have h3' : okRR (lk s) ps r := by
      have : (ps.map ((fun x : Nat × PV => x.2) ∘ fun p => (0, p))) = ps := by
        rw [show ((fun x : Nat × PV => x.2) ∘ fun p => ((0, p) : Nat × PV)) = id from rfl, List.map_id]
      rw [this] at h3; exact h3
    have hmap : (fn.results.mapM (outV a'.tmps) : Sem (Array Value)).run P w' = .ok us.toArray w' := by
      rw [Array.mapM_eq_mapM_toList]
      simp [h2]
    have hres : (results fn a'.tmps).run P w' = .ok (if h : us.toArray.size = 1 then us.toArray[0] else .tuple us.toArray) w' := by
      rw [results_eq, Sem.run_bind, hmap]
      rfl
    refine ⟨_, hres, _, rfl, hI'.below, owR ow, fun b l hb => ?_, ?_, ?_⟩
    · obtain ⟨⟨c, l'⟩, hc, rfl⟩ := Option.map_eq_some_iff.1 hb
      exact hI'.owB b c l' hc
    all_goals
      have hmono : ∀ p v, RepC (FF (fun b o => F b o ∨ w.heap.size ≤ b) ow) w' p v → RepC (fun b o => (F b o ∨ w.heap.size ≤ b) ∧ ∀ l, owR ow b = some l → o < l) w' p v := fun p v hr => hr.mono fun b o u hc hf => ⟨hc, hf.1, fun l hl => by
        obtain ⟨⟨c, l'⟩, hc', rfl⟩ := Option.map_eq_some_iff.1 hl
        exact hf.2 c l' hc'⟩
      match ps, us, h1, h3' with
      | [p], [u], h1, h3' =>
        obtain ⟨k1, k2, k3⟩ := okR_own h1.1 h3'
        first
          | exact hmono _ _ k1
          | (show OwnRR _ _ _ r u
             cases r with
             | tu q => exact absurd rfl (k3 q)
             | _ => exact k2)
      | [], [], _, h3' =>
        cases r with
        | tu rs =>
          cases rs with
          | nil => first
            | exact hmono _ _ (.tu _ _ rfl (fun j p v hp _ => by simp at hp))
            | (intro vs i p u hv hp hu; simp at hp)
          | cons => exact h3'.elim
        | _ => exact h3'.elim
      | p :: p2 :: ps, u :: u2 :: us, h1, h3' =>
        cases r with
        | tu rs =>
          have hall : ∀ (ps : List PV) (us : List Value) (rs : List PV), RepO (fun b o => F b o ∨ w.heap.size ≤ b) w.heap.size ow w' (lk s) ps us → okRs (lk s) ps rs → rs.length = us.length ∧ ∀ (j : Nat) (q : PV) (v : Value), rs[j]? = some q → us[j]? = some v → RepC (FF (fun b o => F b o ∨ w.heap.size ≤ b) ow) w' q v ∧ OwnR (owR ow) w' w.heap.size q v := by
            intro ps
            induction ps with
            | nil =>
              intro us rs h1 h2
              cases us with
              | nil => cases rs with
                | nil => exact ⟨rfl, fun j q v h _ => by simp at h⟩
                | cons => exact h2.elim
              | cons => exact h1.elim
            | cons p r ih =>
              intro us rs h1 h2
              cases us with
              | nil => exact h1.elim
              | cons u us => cases rs with
                | nil => exact h2.elim
                | cons q rs =>
                  obtain ⟨g1, g2⟩ := ih us rs h1.2 h2.2
                  refine ⟨by simp [g1], fun j q' v hq hv => ?_⟩
                  cases j with
                  | zero =>
                    simp at hq hv
                    subst hq
                    subst hv
                    obtain ⟨k1, k2, _⟩ := okR_own h1.1 h2.1
                    exact ⟨k1, k2⟩
                  | succ j => exact g2 j q' v (by simpa using hq) (by simpa using hv)
          obtain ⟨g1, g2⟩ := hall _ _ rs h1 h3'
          have hsz : ¬ (u :: u2 :: us).toArray.size = 1 := by simp
          rw [dif_neg hsz]
          first
            | exact hmono _ _ (.tu _ _ (by simpa using g1) (fun j q v hq hv => (g2 j q v hq (by simpa using hv)).1))
            | (intro vs i q v hv hq hu
               cases hv
               have := (g2 i q v hq (by simpa using hu)).2
               refine ⟨fun _ => this, ?_⟩
               unfold PV.dem
               split
               · trivial
               · exact this)
        | _ => exact h3'.elim
      | [p], [], h1, _ => exact h1.elim
      | [p], _ :: _ :: _, h1, _ => exact h1.2.elim
      | [], _ :: _, h1, _ => exact h1.elim
      | _ :: _ :: _, [], h1, _ => exact h1.elim
      | _ :: _ :: _, [_], h1, _ => exact h1.2.elim
  cases ex with
  | normal => exact fin hq
  | ret => exact fin hq
  | exit i => exact hq.elim
end
end Go.Ev
end
section
namespace Go.Ev
open Go Go.RowKit
set_option linter.unusedVariables false
def vB : Value → Value → Bool
  | .int k n, .int k' n' => (match decEq k k' with | .isTrue _ => true | .isFalse _ => false) && n == n'
  | .bool b, .bool b' => b == b'
  | .string s, .string s' => decide (s.data = s'.data)
  | .slice none 0 0, .slice none 0 0 => true
  | .map none, .map none => true
  | .nilFunc, .nilFunc => true
  | .pointer none, .pointer none => true
  | _, _ => false
theorem vB_eq {a b : Value} (h : vB a b = true) : a = b ∧ a.oneCell' = true := by
  unfold vB at h
  split at h
  · rename_i k n k' n'
    rw [Bool.and_eq_true] at h
    have h2 : n = n' := by simpa using h.2
    have h1 : k = k' := by
      have := h.1
      split at this
      · assumption
      · cases this
    rw [h1, h2]; exact ⟨rfl, rfl⟩
  · rename_i b b'
    have h2 : b = b' := by simpa using h
    rw [h2]; exact ⟨rfl, rfl⟩
  · rename_i s s'
    have h2 : s.data = s'.data := by simpa using h
    have : s = s' := by cases s; cases s'; simp_all
    rw [this]; exact ⟨rfl, rfl⟩
  · exact ⟨rfl, rfl⟩
  · exact ⟨rfl, rfl⟩
  · exact ⟨rfl, rfl⟩
  · exact ⟨rfl, rfl⟩
  · cases h
def vBs : List Value → List Value → Bool
  | [], [] => true
  | a :: r, b :: q => vB a b && vBs r q
  | _, _ => false
theorem vBs_eq : ∀ {l m : List Value}, vBs l m = true → l = m ∧ ∀ v ∈ m, v.oneCell' = true
  | [], [], _ => ⟨rfl, fun v h => by cases h⟩
  | a :: r, b :: q, h => by
    unfold vBs at h
    rw [Bool.and_eq_true] at h
    obtain ⟨h1, h2⟩ := vB_eq h.1
    obtain ⟨h3, h4⟩ := vBs_eq h.2
    subst h1
    subst h3
    refine ⟨rfl, fun v hv => ?_⟩
    rcases List.mem_cons.1 hv with rfl | hv
    · exact h2
    · exact h4 v hv
  | [], _ :: _, h => by cases h
  | _ :: _, [], h => by cases h
def fB (P : Program) : List Field → List (Nat × Bool × Nat) → Bool
  | [], [] => true
  | f :: r, (o, ag, n) :: q => Nat.beq f.offset o && (match P.info? f.type with | some ti => Nat.beq ti.size n && Nat.blt 0 n | none => false) && (match P.underlying f.type with | some d => d.isRow == ag | none => false) && fB P r q
  | _, _ => false
theorem fB_ok {P : Program} : ∀ {l : List Field} {m : List (Nat × Bool × Nat)}, fB P l m = true → l.length = m.length ∧ ∀ (f o : Nat) (ag : Bool) (n : Nat), m[f]? = some (o, ag, n) → ∃ fd, l[f]? = some fd ∧ fd.offset = o ∧ (∃ ti, P.info? fd.type = some ti ∧ ti.size = n ∧ 0 < n) ∧ ∃ d', P.underlying fd.type = some d' ∧ d'.isRow = ag
  | [], [], _ => ⟨rfl, fun f o ag n h => by simp at h⟩
  | g :: r, (o, ag, n) :: q, h => by
    unfold fB at h
    rw [Bool.and_eq_true, Bool.and_eq_true, Bool.and_eq_true] at h
    obtain ⟨⟨⟨h1, h2⟩, h3⟩, h4⟩ := h
    obtain ⟨g1, g2⟩ := fB_ok h4
    refine ⟨by simp [g1], fun f o' ag' n' hf => ?_⟩
    cases f with
    | zero =>
      simp at hf
      obtain ⟨rfl, rfl, rfl⟩ := hf
      refine ⟨g, rfl, Nat.eq_of_beq_eq_true h1, ?_, ?_⟩
      · split at h2
        · rename_i ti hti
          rw [Bool.and_eq_true] at h2
          exact ⟨ti, hti, Nat.eq_of_beq_eq_true h2.1, Nat.le_of_ble_eq_true h2.2⟩
        · cases h2
      · split at h3
        · rename_i d hd
          exact ⟨d, hd, by simpa using h3⟩
        · cases h3
    | succ f => exact g2 f o' ag' n' (by simpa using hf)
  | [], _ :: _, h => by cases h
  | _ :: _, [], h => by cases h
def kB (P : Program) (d : TypeDesc) : TyK → Bool
  | .sc => !d.isRow
  | .str => (match d with | .string => true | _ => false)
  | .bo => (match d with | .bool => true | _ => false)
  | .it k => (match d with | .int k' => (match decEq k' k with | .isTrue _ => true | .isFalse _ => false) | _ => false)
  | .sl e => (match d with | .slice e' => Nat.beq e' e | _ => false)
  | .st fs => (match d with | .struct fields => fB P fields.toList fs | _ => false)
  | .ar n e => (match d with | .array n' e' => Nat.beq n' n && Nat.beq e' e | _ => false)
def tyB (P : Program) (t : Nat) (i : TyI) : Bool :=
  match P.info? t, P.underlying t with
  | some ti, some d => Nat.beq ti.size i.size && Nat.beq ti.bytes i.bytes && (match ti.zero with | some z => vBs z.cells.toList i.zero | none => false) && Nat.beq i.zero.length i.size && kB P d i.k
  | _, _ => false
theorem tyB_ok {P : Program} {t : Nat} {i : TyI} (h : tyB P t i = true) : TyOk P t i := by
  unfold tyB at h
  split at h
  · rename_i ti d hti hd
    rw [Bool.and_eq_true, Bool.and_eq_true, Bool.and_eq_true, Bool.and_eq_true] at h
    obtain ⟨⟨⟨⟨h1, h2⟩, h3⟩, h4⟩, h5⟩ := h
    split at h3
    · rename_i z hz
      obtain ⟨z1, z2⟩ := vBs_eq h3
      refine ⟨⟨ti, z, hti, Nat.eq_of_beq_eq_true h1, Nat.eq_of_beq_eq_true h2, hz, z1⟩, Nat.eq_of_beq_eq_true h4, z2, d, hd, ?_⟩
      unfold kB at h5
      cases hk : i.k with
      | sc => rw [hk] at h5; simpa [kOk] using h5
      | str => rw [hk] at h5; cases d <;> first | rfl | cases h5
      | bo => rw [hk] at h5; cases d <;> first | rfl | cases h5
      | it k =>
        rw [hk] at h5
        cases d with
        | int k' =>
          simp only [] at h5
          split at h5
          · rename_i e _; subst e; rfl
          · cases h5
        | _ => cases h5
      | sl e =>
        rw [hk] at h5
        cases d with
        | slice e' => obtain rfl := Nat.eq_of_beq_eq_true h5; rfl
        | _ => cases h5
      | st fs =>
        rw [hk] at h5
        cases d with
        | struct fields =>
          obtain ⟨g1, g2⟩ := fB_ok h5
          exact ⟨fields, rfl, by simpa using g1, fun f o ag n hf => by
            obtain ⟨fd, k1, k2⟩ := g2 f o ag n hf
            exact ⟨fd, by simpa using k1, k2⟩⟩
        | _ => cases h5
      | ar n e =>
        rw [hk] at h5
        cases d with
        | array n' e' =>
          simp only [Bool.and_eq_true] at h5
          obtain rfl := Nat.eq_of_beq_eq_true h5.1
          obtain rfl := Nat.eq_of_beq_eq_true h5.2
          rfl
        | _ => cases h5
    · cases h3
  · cases h
def tabB (P : Program) : Tab → Bool
  | [] => true
  | (t, i) :: r => tyB P t i && tabB P r
theorem tab_ok {P : Program} : ∀ {T : Tab}, tabB P T = true → TabOk P T
  | [], _, t, i, h => by cases h
  | (k, i0) :: r, h, t, i, ht => by
    unfold tabB at h
    rw [Bool.and_eq_true] at h
    have ht2 : (bif Nat.beq t k then some i0 else Tab.get r t) = some i := ht
    cases hb : Nat.beq t k
    · rw [hb] at ht2; exact tab_ok h.2 t i ht2
    · rw [hb] at ht2
      cases ht2
      obtain rfl := Nat.eq_of_beq_eq_true hb
      exact tyB_ok h.1
end Go.Ev
end
section
namespace Go.Ev
open Go Go.RowKit Go.Proofs.YtohdmmafjpjmfaaGreatDoorW.PrintWords
set_option linter.unusedVariables false
set_option linter.unusedSimpArgs false
structure Flat {α : Type} (d : Kd α) (raw : α → List Value) (enc : α → PV) : Prop where
  K : ∀ w x, d.K w x (raw x)
  Kinv : ∀ {w x cs}, d.K w x cs → cs = raw x
  cells : ∀ x, (enc x).cells = (raw x).map PV.s
section
variable {α : Type} {d : Kd α} {raw : α → List Value} {enc : α → PV} {F : Nat → Nat → Prop} {w : World} {xs : List α} {v : Value} {k e B : Nat}
theorem Flat.len (hf : Flat d raw enc) (w : World) (x : α) : (raw x).length = d.sz := d.K_len (hf.K w x)
theorem Flat.one (hf : Flat d raw enc) (w : World) (x : α) : ∀ u ∈ raw x, u.oneCell' = true := d.K_one (hf.K w x)
theorem Flat.toC (hf : Flat d raw enc) {z : Nat} (h : RepC F w (.sl k z (xs.map enc)) v) (hz : z = d.sz) (hl : xs.length ≤ 9223372036854775807) : ∃ A c, v = .slice A xs.length c ∧ xs.length ≤ c ∧ d.C w A xs.length xs := by
  subst hz
  rcases h.parts with ⟨rfl, h0⟩ | ⟨a0, c0, rfl, h0⟩ | ⟨b, o, cap, u, rfl, hc, hzz, hcell, hr⟩
  · obtain rfl : xs = [] := by simpa using h0
    exact ⟨none, 0, rfl, Nat.le_refl _, rfl, Nat.zero_le _, fun h => absurd h (Nat.lt_irrefl 0)⟩
  · obtain rfl : xs = [] := by simpa using h0
    exact ⟨some a0, c0, rfl, Nat.zero_le _, rfl, Nat.zero_le _, fun h => absurd h (Nat.lt_irrefl 0)⟩
  · rw [List.length_map] at hc hcell ⊢
    refine ⟨_, cap, rfl, hc, rfl, hl, fun _ => ⟨_, rfl, fun j p hp => ⟨raw p, hf.len w p, hf.K w p, fun i u' hu => ?_⟩⟩⟩
    have hj : j < xs.length := (List.getElem?_eq_some_iff.1 hp).1
    have hi : i < d.sz := by have := (List.getElem?_eq_some_iff.1 hu).1; rw [hf.len w p] at this; exact this
    have h1 := (hcell j i hj hi).1
    have h2 := hr j (enc p) i (.s u') (by rw [List.getElem?_map, hp]; rfl) (by rw [hf.cells, List.getElem?_map, hu]; rfl)
    rw [Addr.add_lit, ← Nat.add_assoc, h1, h2.s_eq]
theorem Flat.res (hf : Flat d raw enc) {ok : Nat → Prop} (h : d.R e w B ok v xs) : Res F B w (.sl (d.sz + 2) d.sz (xs.map enc)) v := by
  obtain ⟨_, inner, ho, hr⟩ := h
  have hlen : (xs.map enc).length = xs.length := List.length_map _
  refine ⟨fun b => if v.ownBlock = some b then some (xs.length * d.sz) else none, fun b l hb => ?_, ?_, Or.inr ⟨e, inner, by rw [hlen]; exact ho, fun g hg => by rw [hlen]; exact if_pos hg⟩⟩
  · by_cases hg : v.ownBlock = some b
    · exact ho.lt b hg
    · simp only [if_neg hg] at hb; cases hb
  · refine rep_row ho hlen.symm (fun x hx => ?_) (fun i j => ((xs[i]?.map raw).bind fun r => r[j]?).getD undef) (fun i j hi hj => ?_) (fun g hg o hlo => ⟨Or.inr (ho.lt g hg).1, fun l hl => ?_⟩) (fun i x j p hx hp => ?_)
    · obtain ⟨y, _, rfl⟩ := List.mem_map.1 hx
      rw [hf.cells, List.length_map, hf.len w]
    · have hx := List.getElem?_eq_getElem hi
      have hq := hf.Kinv (d.K_of_M (hr.2 i _ hx))
      have hj2 : j < (raw xs[i]).length := by rw [hf.len w]; exact hj
      have h1 : ((inner.drop (i * d.sz)).take d.sz)[j]? = some ((raw xs[i])[j]'hj2) := by rw [hq]; exact List.getElem?_eq_getElem hj2
      rw [List.getElem?_take, if_pos hj, List.getElem?_drop] at h1
      refine ⟨?_, ?_⟩
      · rw [h1, hx]; simp [List.getElem?_eq_getElem hj2]
      · rw [hx]; simp only [Option.map_some, Option.bind_some, List.getElem?_eq_getElem hj2, Option.getD_some]
        exact hf.one w xs[i] _ (List.getElem_mem hj2)
    · simp only [if_pos hg] at hl; cases hl; exact hlo
    · rw [List.getElem?_map] at hx
      obtain ⟨y, hy, rfl⟩ := Option.map_eq_some_iff.1 hx
      rw [hf.cells, List.getElem?_map] at hp
      obtain ⟨u, hu, rfl⟩ := Option.map_eq_some_iff.1 hp
      rw [hy]
      simp only [Option.map_some, Option.bind_some, hu, Option.getD_some]
      exact .s u
theorem res_s (x : Value) : Res F B w (.s x) x := ⟨fun _ => none, (fun b l h => by cases h), .s x, trivial⟩
theorem Res.pair {r : PV} {x : Value} (h : Res F B w r v) (hr : ∀ ps, r ≠ .tu ps) : Res F B w (.tu [r, .s x]) (.tuple #[v, x]) := by
  obtain ⟨ow, h1, h2, h3⟩ := h
  refine ⟨ow, h1, .tu _ _ rfl (fun j p u hp hu => ?_), fun vs i p u hv hp hu => ?_⟩
  · match j with
    | 0 => simp at hp hu; subst hp; subst hu; exact h2
    | 1 => simp at hp hu; subst hp; subst hu; exact .s _
    | j + 2 => simp at hp
  · cases hv
    match i with
    | 0 =>
      simp at hp hu
      subst hp
      subst hu
      have h4 : OwnR ow w B r v := by cases r <;> first | exact h3 | exact absurd rfl (hr _)
      refine ⟨fun _ => h4, ?_⟩
      unfold PV.dem
      split
      · trivial
      · exact h4
    | 1 => simp at hp hu; subst hp; subst hu; exact ⟨fun _ => trivial, trivial⟩
    | i + 2 => simp at hp
theorem ag_eq {l : List Value} (h : RepC F w (.ag (l.map PV.s)) v) : v = .agg l.toArray := by
  generalize hp : PV.ag (l.map PV.s) = p at h
  cases h with
  | ag cs vs hl h1 hh =>
    cases hp
    congr 1
    apply Array.ext'
    apply List.ext_getElem?
    intro j
    cases hj : l[j]? with
    | none =>
      have : ¬ j < vs.size := fun h => by rw [← hl, List.length_map] at h; rw [List.getElem?_eq_getElem h] at hj; cases hj
      simp [hj, this]
    | some u =>
      have hj2 : j < vs.size := by rw [← hl, List.length_map]; exact (List.getElem?_eq_some_iff.1 hj).1
      have := (hh j (.s u) vs[j] (by rw [List.getElem?_map, hj]; rfl) (Array.getElem?_eq_getElem hj2)).s_eq
      simp [hj, hj2, this]
  | _ => cases hp
end
end Go.Ev
end
section
namespace Go.Ev
open Go Go.RowKit
set_option linter.unusedVariables false
def leA1 (p p' : PV) : Prop := match p' with | .ag cs' => (match p with | .ag cs => leL cs cs' | _ => False) | p' => le1 p p'
def leA : List PV → List PV → Prop
  | [], [] => True
  | p :: r, p' :: r' => leA1 p p' ∧ leA r r'
  | _, _ => False
theorem leA1_rep {F : Nat → Nat → Prop} {w : World} {p p' : PV} {v : Value} (h : RepC F w p v) (e : leA1 p p') : RepC F w p' v := by
  unfold leA1 at e
  split at e
  · split at e
    · obtain ⟨e1, e2⟩ := leL_get e
      cases h with
      | ag cs vs hl h1 h =>
        refine .ag _ vs (by rw [← e1]; exact hl) h1 (fun j p v hp hv => ?_)
        obtain ⟨q, hq⟩ : ∃ q, _ = some q := ⟨_, List.getElem?_eq_getElem (by
          have := (List.getElem?_eq_some_iff.1 hp).1
          rw [e1]; exact this)⟩
        exact le1_rep (h j q v hq hv) (e2 j q p hq hp)
    · exact e.elim
  · exact le1_rep h e
theorem leA_rep {F : Nat → Nat → Prop} {w : World} : ∀ {ps ps' : List PV} {vs : List Value}, RepA F w ps vs → leA ps ps' → RepA F w ps' vs
  | [], [], [], _, _ => trivial
  | p :: ps, p' :: ps', v :: vs, h, e => ⟨leA1_rep h.1 e.1, leA_rep h.2 e.2⟩
  | [], [], _ :: _, h, _ => h.elim
  | _ :: _, _, [], h, _ => h.elim
  | [], _ :: _, _, _, e => e.elim
  | _ :: _, [], _, _, e => e.elim
theorem pc_le {P : Program} {f : FuncId} {args args' : List PV} {r : PV} (h : PCs P f args' r) (e : leA args args') : PCs P f args r :=
  ⟨h.1, fun w F vs hv => h.2 w F vs (leA_rep hv e)⟩
end Go.Ev
end
section
namespace Go.Ev
open Go Go.RowKit Go.ChangeShapes Go.WideShapes
set_option linter.unusedVariables false
abbrev FT : Nat → Nat → Prop := fun _ _ => True
def CellsR (w : World) (ps : List PV) (cs : List Value) : Prop := ps.length = cs.length ∧ ∀ (j : Nat) (p : PV) (v : Value), ps[j]? = some p → cs[j]? = some v → RepC FT w p v ∧ v.oneCell' = true
theorem cellsR1 {w : World} {p : PV} {v : Value} (h : RepC FT w p v) (h1 : v.oneCell' = true) : CellsR w [p] [v] :=
  ⟨rfl, fun j q u hq hu => by
    match j, hq, hu with
    | 0, hq, hu => cases hq; cases hu; exact ⟨h, h1⟩⟩
theorem CellsR.append {w : World} {ps qs : List PV} {cs ds : List Value} (h : CellsR w ps cs) (g : CellsR w qs ds) : CellsR w (ps ++ qs) (cs ++ ds) := by
  refine ⟨by rw [List.length_append, List.length_append, h.1, g.1], fun j p v hp hv => ?_⟩
  by_cases hj : j < ps.length
  · rw [List.getElem?_append_left hj] at hp
    rw [List.getElem?_append_left (h.1 ▸ hj)] at hv
    exact h.2 j p v hp hv
  · rw [List.getElem?_append_right (by omega)] at hp
    rw [List.getElem?_append_right (by rw [← h.1]; omega), ← h.1] at hv
    exact g.2 _ p v hp hv
theorem cell_spot {w : World} {a : Addr} {u : Value} (h : w.cell? (a.add 0) = some u) : a.spot = none := by
  have h : w.cell? a = some u := h
  unfold World.cell? at h
  split at h
  · split at h
    · cases h
    · rename_i hn; simpa using hn
  · cases h
structure OpE {α : Type} (P : Program) (t : TypeId) (ev : α → PV) (good : α → Prop) : Prop where
  o : ∀ {H : Type} {enc : TypeId × Value → H} {w : World} {base fuel : Nat} {held : Bool} {cs : List Value} {x : DataW H × List MemPlace},
    DataW.trod enc P w base (fun _ => true) held fuel t cs = some x → ∃ y, CellsR w (ev y).cells cs ∧ good y
theorem opE_string {P : Program} {t : TypeId} (h : P.underlying t = some .string) : OpE P t (fun s => .s (.string s)) (fun s => s.size ≤ maxLen) := by
  refine ⟨fun {H enc w base fuel held cs x} hx => ?_⟩
  obtain ⟨s, rfl, _, hs⟩ := DataW.trod_string h hx
  exact ⟨s, cellsR1 (.s _) rfl, hs⟩
def goodE {α : Type} (good : α → Prop) (l : List α) : Prop := l.length ≤ maxLen ∧ ∀ x ∈ l, good x
theorem opE_slice {α : Type} [Inhabited α] {P : Program} {t e : TypeId} {ev : α → PV} {good : α → Prop} (z : Nat) (hz0 : 0 < z) (h : P.underlying t = some (.slice e)) (hc : P.cellsOf e = z) (hz : ∀ y, (ev y).cells.length = z) (hd : OpE P e ev good) :
    OpE P t (fun l => .sl 0 z (l.map ev)) (goodE good) := by
  refine ⟨fun {H enc w base fuel held cs x} hx => ?_⟩
  rcases Go.Deep.open_slice h hx with ⟨rfl, _⟩ | ⟨a, len, cap, m, n, D, Pl, rfl, hb, hl, hm, hmm, rfl, hall⟩
  · exact ⟨[], cellsR1 (.nil _ _) rfl, by simp [goodE]⟩
  have each : ∀ i, i < m → ∃ y : α, (∃ c, CellsR w (ev y).cells c ∧ c.length = z ∧ ∀ (j : Nat) u, c[j]? = some u → w.cell? (a.add (i * z + j)) = some u) ∧ good y := by
    intro i hi
    obtain ⟨cs', h1, h2⟩ := hall i hi
    obtain ⟨y, hy, hg⟩ := hd.o h2
    obtain ⟨_, hlen, hcell⟩ := World.cells?_some h1
    refine ⟨y, ⟨cs', hy, by rw [hlen, hc], fun j u hu => ?_⟩, hg⟩
    have hj : j < P.cellsOf e := by
      rw [← hlen]
      exact (List.getElem?_eq_some_iff.1 hu).1
    have e1 := hcell j hj
    rw [Go.Deep.add_add, hu, hc] at e1
    exact e1
  obtain ⟨f, hf⟩ := Go.Deep.choose_lt each
  have hlm : len ≤ m := by simp at hmm; omega
  refine ⟨(List.range len).map f, ?_, by simp; omega, ?_⟩
  · refine cellsR1 ?_ rfl
    by_cases h0 : len = 0
    · subst h0; exact .emp _ _ _ _
    have hel : ∀ i, i < len → ∃ c : List Value, CellsR w (ev (f i)).cells c ∧ c.length = z ∧ ∀ (j : Nat) u, c[j]? = some u → w.cell? (a.add (i * z + j)) = some u := fun i hi => (hf i (by omega)).1
    obtain ⟨g, hg⟩ := Go.Deep.choose_lt hel
    have hs : a.spot = none := by
      obtain ⟨c1, c2, c3⟩ := hg 0 (by omega)
      have hjc : 0 < (g 0).length := by omega
      have := c3 0 _ (List.getElem?_eq_getElem hjc)
      rw [Nat.zero_mul] at this
      exact cell_spot this
    have hadd : ∀ i j, a.add (i * z + j) = ⟨a.block, a.off + i * z + j, none⟩ := fun i j => by
      obtain ⟨b, o, s⟩ := a
      simp only at hs
      subst hs
      rw [Addr.add_lit, Nat.add_assoc]
    have hlen : ((List.range len).map f |>.map ev).length = len := by simp
    have hget : ∀ i (x : PV), ((List.range len).map f |>.map ev)[i]? = some x → i < len ∧ x = ev (f i) := fun i x hx => by
      simp only [List.map_map, List.getElem?_map] at hx
      obtain ⟨k, hk, rfl⟩ := Option.map_eq_some_iff.1 hx
      obtain ⟨hi, rfl⟩ := List.getElem?_eq_some_iff.1 hk
      simp at hi
      simp [hi]
    have hcellg : ∀ i j, i < len → j < z → w.cell? ⟨a.block, a.off + i * z + j, none⟩ = some ((g i).getD j undef) ∧ FT a.block (a.off + i * z + j) ∧ ((g i).getD j undef).oneCell' = true := fun i j hi hj => by
      obtain ⟨c1, c2, c3⟩ := hg i hi
      have hjc : j < (g i).length := by omega
      have e1 := c3 j _ (List.getElem?_eq_getElem hjc)
      rw [hadd i j] at e1
      have hjp : j < (ev (f i)).cells.length := by rw [hz]; exact hj
      have := c1.2 j _ _ (List.getElem?_eq_getElem hjp) (List.getElem?_eq_getElem hjc)
      rw [List.getD_eq_getElem?_getD, List.getElem?_eq_getElem hjc]
      exact ⟨e1, trivial, this.2⟩
    have hrep : ∀ (i : Nat) (x : PV) (j : Nat) (p : PV), ((List.range len).map f |>.map ev)[i]? = some x → x.cells[j]? = some p → RepC FT w p ((g i).getD j undef) := fun i x j p hx hp => by
      obtain ⟨hi, rfl⟩ := hget i x hx
      obtain ⟨c1, c2, c3⟩ := hg i hi
      have hjp : j < (ev (f i)).cells.length := (List.getElem?_eq_some_iff.1 hp).1
      have hjc : j < (g i).length := by rw [hz] at hjp; omega
      rw [List.getD_eq_getElem?_getD, List.getElem?_eq_getElem hjc]
      exact (c1.2 j p _ hp (List.getElem?_eq_getElem hjc)).1
    obtain ⟨b, o, s⟩ := a
    simp only at hs
    subst hs
    have := RepC.sl (F := FT) (w := w) 0 z ((List.range len).map f |>.map ev) b o cap (fun i j => (g i).getD j undef) (by rw [hlen]; exact hl) (fun x hx => by
      obtain ⟨i, hi⟩ := List.getElem?_of_mem hx
      rw [(hget i x hi).2]; exact hz _) (fun i j hi hj => hcellg i j (by rwa [hlen] at hi) hj) hrep
    rwa [hlen] at this
  · intro x hx
    obtain ⟨i, hi, rfl⟩ := List.mem_map.1 hx
    exact (hf i (by have := List.mem_range.1 hi; omega)).2
structure OpEF {α : Type} (P : Program) (fs : List Field) (off sz : Nat) (ec : α → List PV) (good : α → Prop) : Prop where
  o : ∀ {H : Type} {enc : TypeId × Value → H} {w : World} {base fuel : Nat} {held : Bool} {cs : List Value}, cs.length = sz →
    (∀ f ∈ fs, ∃ z, DataW.trod enc P w base (fun _ => true) held fuel f.type ((cs.drop (f.offset - off)).take (P.cellsOf f.type)) = some z) → (∀ f ∈ fs, off ≤ f.offset) → ∃ y, CellsR w (ec y) cs ∧ good y
theorem opEF_one {α : Type} {P : Program} {f : Field} {off sz : Nat} {ev : α → PV} {good : α → Prop} (ho : f.offset = off) (hc : P.cellsOf f.type = sz) (h : OpE P f.type ev good) : OpEF P [f] off sz (fun y => (ev y).cells) good := by
  refine ⟨fun {H enc w base fuel held cs} hl hf _ => ?_⟩
  obtain ⟨z, hz⟩ := hf f (by simp)
  rw [ho, Nat.sub_self, List.drop_zero, hc, ← hl, List.take_length] at hz
  exact h.o hz
theorem opEF_cons {α β : Type} {P : Program} {f : Field} {fs : List Field} {off sz sz' : Nat} {ev : α → PV} {ec : β → List PV} {good : α → Prop} {good' : β → Prop} (ho : f.offset = off) (hc : P.cellsOf f.type = sz) (h : OpE P f.type ev good)
    (hr : OpEF P fs (off + sz) sz' ec good') (hfs : ∀ g ∈ fs, off + sz ≤ g.offset) : OpEF P (f :: fs) off (sz + sz') (fun x : α × β => (ev x.1).cells ++ ec x.2) (fun x => good x.1 ∧ good' x.2) := by
  refine ⟨fun {H enc w base fuel held cs} hl hf _ => ?_⟩
  obtain ⟨z, hz⟩ := hf f (by simp)
  rw [ho, Nat.sub_self, List.drop_zero, hc] at hz
  obtain ⟨y, hy, g1⟩ := h.o hz
  obtain ⟨y', hy', g2⟩ := hr.o (cs := cs.drop sz) (by rw [List.length_drop]; omega) (fun g hg => by
    obtain ⟨z, hz⟩ := hf g (List.mem_cons_of_mem _ hg)
    have := hfs g hg
    rw [List.drop_drop]
    have e : sz + (g.offset - (off + sz)) = g.offset - off := by omega
    rw [e]
    exact ⟨z, hz⟩) hfs
  refine ⟨(y, y'), ?_, g1, g2⟩
  have := hy.append hy'
  rwa [List.take_append_drop] at this
theorem opE_struct {α β : Type} {P : Program} {t : TypeId} {fs : Array Field} {ec : α → List PV} {good : α → Prop} (n : Nat) (f : β → α) (g : α → β) (hfg : ∀ x, f (g x) = x) (h : P.underlying t = some (.struct fs)) (hn : P.cellsOf t = n)
    (hF : OpEF P fs.toList 0 n ec good) : OpE P t (fun x => .ag (ec (f x))) (fun x => good (f x)) := by
  refine ⟨fun {H enc w base fuel held cs x} hx => ?_⟩
  obtain ⟨xs, n, rfl, rfl, hl, hxl, hall⟩ := DataW.trod_struct h hx
  obtain ⟨y, hy, hg⟩ := hF.o (cs := cs) (by rw [hl, hn]) (fun q hq => by
    obtain ⟨i, hi, rfl⟩ := List.mem_iff_getElem.1 hq
    have e := hall i fs[i] (by simp)
    have hi' : i < xs.length := by rw [hxl]; simpa using hi
    rw [List.getElem?_eq_getElem hi'] at e
    exact ⟨_, by simp only [Nat.sub_zero]; exact e⟩) (fun _ _ => Nat.zero_le _)
  refine ⟨g y, ?_, ?_⟩
  · show CellsR w (ec (f (g y))) cs
    rw [hfg]; exact hy
  · show good (f (g y))
    rw [hfg]; exact hg
theorem par_one {α : Type} {P : Program} {t : TypeId} {ev : α → PV} {good : α → Prop} (hc : ∀ {w r b0 v}, Value.okWide P w r b0 t v → v.cells = #[v]) (he : ∀ y, (ev y).cells = [ev y]) (hO : OpE P t ev good) {H : Type} {enc : TypeId × Value → H} {w : World} {base b0 : Nat} {r : Reach} {held : Bool} {v : Value} {dt : DataW H} {ps : List MemPlace}
    (hv : Value.okWide P w r b0 t v) (h : DataW.Trod enc P w base (fun _ => true) held t v dt ps) : ∃ y, RepC FT w (ev y) v ∧ good y := by
  obtain ⟨fuel, hf⟩ := h
  obtain ⟨y, hy, hg⟩ := hO.o hf
  rw [he, hc hv] at hy
  exact ⟨y, (hy.2 0 _ _ rfl rfl).1, hg⟩
theorem one_slice {P : Program} {t e : TypeId} (ht : P.underlying t = some (.slice e)) {w r b0 v} (hv : Value.okWide P w r b0 t v) : v.cells = #[v] := by
  obtain ⟨_, _, _, rfl⟩ := okWide_slice ht hv; rfl
theorem pc_calls {P : Program} {f : FuncId} {args : List PV} {b : Bool} (h : PCs P f args (.s (.bool b))) {w : World} {vs : List Value} (hv : RepA FT w args vs) : Calls P f vs.toArray w fun e w' => e = .returned (.bool b) ∧ Below w.heap.size w w' :=
  (h.2 w FT vs hv).mono fun e w' ⟨v, he, hb, hr⟩ => by
    obtain ⟨_, _, hr, _⟩ := hr
    rw [hr.s_eq] at he
    exact ⟨he, hb⟩
end Go.Ev
end
section
namespace Go.Proofs.YtohdmmafjpjmfaaGreatDoor.Q
open Go Go.Ev
def TT : Tab := [(2, ⟨(.it .i64), 1, 8, [(.int .i64 0)]⟩),
  (3, ⟨(.it .i64), 1, 8, [(.int .i64 0)]⟩),
  (4, ⟨.bo, 1, 1, [(.bool false)]⟩),
  (5, ⟨(.it .u8), 1, 1, [(.int .u8 0)]⟩),
  (9, ⟨.str, 1, 16, [(.string ⟨#[]⟩)]⟩),
  (21, ⟨(.it .i32), 1, 4, [(.int .i32 0)]⟩),
  (22, ⟨(.sl 48), 1, 24, [(.slice none 0 0)]⟩),
  (24, ⟨(.st [(0, false, 1), (1, false, 1), (2, false, 1)]), 3, 40, [(.int .i64 0), (.int .i64 0), (.slice none 0 0)]⟩),
  (26, ⟨(.st [(0, false, 1), (1, false, 1), (2, false, 1), (3, false, 1)]), 4, 32, [(.int .i64 0), (.int .i64 0), (.int .i64 0), (.int .i64 0)]⟩),
  (28, ⟨(.it .i64), 1, 8, [(.int .i64 0)]⟩),
  (34, ⟨(.st [(0, false, 1), (1, false, 1)]), 2, 32, [(.string ⟨#[]⟩), (.string ⟨#[]⟩)]⟩),
  (44, ⟨(.sl 34), 1, 24, [(.slice none 0 0)]⟩),
  (48, ⟨(.st [(0, true, 2), (2, false, 1)]), 3, 40, [(.string ⟨#[]⟩), (.string ⟨#[]⟩), (.int .i64 0)]⟩),
  (49, ⟨(.sl 44), 1, 24, [(.slice none 0 0)]⟩),
  (78, ⟨(.sl 9), 1, 24, [(.slice none 0 0)]⟩),
  (81, ⟨(.st [(0, false, 1), (1, false, 1), (2, false, 1), (3, false, 1)]), 4, 72, [(.string ⟨#[]⟩), (.string ⟨#[]⟩), (.string ⟨#[]⟩), (.slice none 0 0)]⟩),
  (103, ⟨(.sl 22), 1, 24, [(.slice none 0 0)]⟩),
  (118, ⟨(.sl 5), 1, 24, [(.slice none 0 0)]⟩),
  (121, ⟨(.ar 3 9), 3, 48, [(.string ⟨#[]⟩), (.string ⟨#[]⟩), (.string ⟨#[]⟩)]⟩),
  (123, ⟨(.sl 3), 1, 24, [(.slice none 0 0)]⟩)]
theorem tt_ok : TabOk Tryz.prog TT := tab_ok (by kernel_rfl)
theorem tt_follows : Tryz.prog.follows .mixedOrders = true := by kernel_rfl
end Go.Proofs.YtohdmmafjpjmfaaGreatDoor.Q
end
section
namespace Go.Proofs.YtohdmmafjpjmfaaGreatDoor.Q
open Go Go.WideElems Go.WideMaps
section
variable {H : Type} {P : Program} {k : TypeId} {R : Value → Option (DataW H × List MemPlace)} {w : World} {b n : Nat} {D : DataW H}
theorem look_own {t e : TypeId} (K : KeyLaw P k) (ht : P.underlying t = some (.map k e)) {es : Array MapEntry} {clock : Nat} (hb : w.heap[b]? = some (.map es clock)) {key v : Value} {kl : Lit} (hkey : keyOf P k key = some kl)
    (hks : ∀ x ∈ es.toList, ∃ l, keyOf P k x.key = some l) (hex : ∃ x ∈ es.toList, x.key = key) (hall : ∀ x ∈ es.toList, x.key = key → x.val = v) :
    (Instr.lookup t (.map (some b)) key false).run P w = .ok v w := by
  rcases K.find w hkey es.toList hks with ⟨_, h2⟩ | ⟨j, e0, h1, h2, h3⟩
  · obtain ⟨x, hx, he⟩ := hex
    exact absurd he (h2 x hx)
  · rw [← hall e0 (List.mem_of_getElem? h2) h3]
    simp [Instr.lookup, run_underlying ht, MapKept.run_getObj_map hb, K.check w _ hkey, h1, Result.andThen]
theorem own_bump {t e : TypeId} (h : w.ownsMap P k R b n D) (K : KeyLaw P k) (ht : P.underlying t = some (.map k e)) (hn : n < maxLen) {z : Value} (hz : ∀ u : World, (zeroValue e).run P u = .ok z u)
    {key : Value} {kl : Lit} (hkey : keyOf P k key = some kl) :
    ∃ (v0 : Value) (st : Nat) (w1 : World), (Instr.mapEntry t (.map (some b)) key).run P w = .ok (.tuple #[v0, goInt st]) w1 ∧ w.grownBy w1 (some b) ∧
      (Instr.lookup t (.map (some b)) key false).run P w = .ok v0 w ∧ (Instr.lookup t (.map (some b)) key false).run P w1 = .ok v0 w1 ∧
      ∀ (w2 : World) (val : Value) (d : DataW H) (ps : List MemPlace), w2.heap[b]? = w1.heap[b]? → R val = some (d, ps) →
        ∃ w3, (Instr.entryStore t (.map (some b)) (goInt st) val).run P w2 = .ok () w3 ∧ w3.ownsMap P k R b (n + 1) (D.put kl d) ∧ w2.grownBy w3 (some b) := by
  obtain ⟨es, clock, hb, F, hs, rfl⟩ := h
  obtain ⟨v0, st, es1, clock1, h1, h2, h3⟩ := entry_then_store K ht hz hb F hkey
  have hb1 : (ChangeMaps.setBlock w b (.map es1 clock1)).heap[b]? = some (.map es1 clock1) := ChangeMaps.heap_setBlock_same hb _
  have hks := F.keys
  have hlook : (Instr.lookup t (.map (some b)) key false).run P w = .ok v0 w ∧ (∀ x ∈ es1.toList, ∃ l, keyOf P k x.key = some l) ∧ (∃ x ∈ es1.toList, x.key = key) ∧ (∀ x ∈ es1.toList, x.key = key → x.val = v0) := by
    rcases K.find w hkey es.toList F.keys with ⟨g1, g2⟩ | ⟨j, e0, g1, g2, g3⟩
    · have hv : v0 = z := by
        rcases h2 with ⟨e0, hm, he, _⟩ | ⟨_, h⟩
        · exact absurd he (g2 e0 hm)
        · exact h
      have r : (Instr.mapEntry t (.map (some b)) key).run P w = .ok (.tuple #[z, goInt clock]) (ChangeMaps.setBlock w b (.map (es.push ⟨key, z, clock⟩) (clock + 1))) := by
        simp [Instr.mapEntry, run_underlying ht, MapKept.run_getObj_map hb, K.check w false hkey, g1, hz, MapKept.run_setObj_map _ hb, Result.andThen, ChangeMaps.setBlock]
      rw [h1] at r
      injection r with _ r
      have r2 := ChangeMaps.heap_setBlock_same hb (.map (es.push ⟨key, z, clock⟩) (clock + 1))
      rw [← r, hb1] at r2
      injection r2 with r2
      injection r2 with r2 _
      subst r2 hv
      refine ⟨by simp [Instr.lookup, run_underlying ht, MapKept.run_getObj_map hb, K.check w _ hkey, g1, hz, Result.andThen], fun x hx => ?_, ⟨⟨key, v0, clock⟩, by simp, rfl⟩, fun x hx he => ?_⟩
      · rw [Array.toList_push, List.mem_append, List.mem_singleton] at hx
        rcases hx with hx | rfl
        · exact hks x hx
        · exact ⟨kl, hkey⟩
      · rw [Array.toList_push, List.mem_append, List.mem_singleton] at hx
        rcases hx with hx | rfl
        · exact absurd he (g2 x hx)
        · rfl
    · have huniq : ∀ x ∈ es.toList, x.key = key → x = e0 := fun x hx he => by
        obtain ⟨i, hi, hxi⟩ := List.getElem_of_mem hx
        obtain ⟨hj, hej⟩ := List.getElem?_eq_some_iff.1 g2
        have pw := List.pairwise_iff_getElem.1 ((MapKept.stamped_iff _ _).1 F.stamped).2.2
        rcases Nat.lt_trichotomy i j with hlt | heq | hgt
        · exact absurd (by rw [hxi, hej, he, g3]) (pw i j hi hj hlt)
        · subst heq; rw [← hxi, ← hej]
        · exact absurd (by rw [hxi, hej, he, g3]) (pw j i hj hi hgt)
      have hv : v0 = e0.val := by
        rcases h2 with ⟨e1, hm, he, h⟩ | ⟨h, _⟩
        · rw [h, huniq e1 hm he]
        · exact absurd g3 (h e0 (List.mem_of_getElem? g2))
      have hj : es[j]? = some e0 := by simpa using g2
      have r : (Instr.mapEntry t (.map (some b)) key).run P w = .ok (.tuple #[e0.val, goInt e0.born]) (ChangeMaps.setBlock w b (.map (es.modify j (fun e => { e with key := key })) clock)) := by
        simp [Instr.mapEntry, run_underlying ht, MapKept.run_getObj_map hb, K.check w false hkey, g1, hj, g3, K.stays w hkey, MapKept.run_setObj_map _ hb, Result.andThen, ChangeMaps.setBlock]
      rw [h1] at r
      injection r with _ r
      have r2 := ChangeMaps.heap_setBlock_same hb (.map (es.modify j (fun e => { e with key := key })) clock)
      rw [← r, hb1] at r2
      injection r2 with r2
      injection r2 with r2 _
      subst r2 hv
      have hsame : es.modify j (fun e => { e with key := key }) = es := by
        apply Array.ext'
        rw [Array.toList_modify, ChangeMaps.modify_eq_set _ _ _ _ g2]
        have : ({ e0 with key := key } : MapEntry) = e0 := by rw [← g3]
        rw [this]
        exact set_self _ _ _ g2
      rw [hsame]
      exact ⟨look_own K ht hb hkey hks ⟨e0, List.mem_of_getElem? g2, g3⟩ (fun x hx he => by rw [huniq x hx he]), hks, ⟨e0, List.mem_of_getElem? g2, g3⟩, fun x hx he => by rw [huniq x hx he]⟩
  refine ⟨v0, st, _, h1, ⟨rfl, rfl, rfl, by simp [ChangeMaps.setBlock], fun i _ hi => ChangeMaps.heap_setBlock_other hb _ (fun e => hi (by rw [e]))⟩, hlook.1, look_own K ht hb1 hkey hlook.2.1 hlook.2.2.1 hlook.2.2.2, fun w2 val d ps hw2 hv => ?_⟩
  have hw2' := hw2.trans hb1
  obtain ⟨es', clock', r1, r2⟩ := h3 w2 val hw2'
  have hown : w.ownsMap P k R b n (DataW.map ((es.toList.map (rg P k R)).foldr DataW.insert [])) := ⟨es, clock, hb, F, hs, rfl⟩
  obtain ⟨w', r3, r4, _⟩ := hown.update (Maps.Keyed.of_law K) ht hn hkey hv
  rw [r2] at r3
  injection r3 with _ r3
  subst r3
  obtain ⟨es3, clock3, hb3, F3, hs3, hD3⟩ := r4
  rw [ChangeMaps.heap_setBlock_same hb _] at hb3
  injection hb3 with hb3
  injection hb3 with e1 e2
  subst e1 e2
  exact ⟨_, r1, ⟨_, _, ChangeMaps.heap_setBlock_same hw2' _, F3, hs3, hD3⟩, ⟨rfl, rfl, rfl, by simp [ChangeMaps.setBlock], fun i _ hi => ChangeMaps.heap_setBlock_other hw2' _ (fun e => hi (by rw [e]))⟩⟩
end
end Go.Proofs.YtohdmmafjpjmfaaGreatDoor.Q
end
section
set_option linter.unusedVariables false
namespace Gw
abbrev B := List Nat
def dig (c : Nat) : Bool := 48 ≤ c && c ≤ 57
def let_ (c : Nat) : Bool := (65 ≤ c && c ≤ 90) || (97 ≤ c && c ≤ 122)
def inner (c : Nat) : Bool := dig c || let_ c || c == 45 || c == 95 || c == 126
def wch (c : Nat) : Bool := dig c || let_ c || c == 45
def parts (sep : Nat) : B → List B
  | [] => [[]]
  | c :: r => if c = sep then [] :: parts sep r else match parts sep r with
    | p :: ps => (c :: p) :: ps
    | [] => [[c]]
theorem parts_ne (sep : Nat) : ∀ s, parts sep s ≠ []
  | [] => by simp [parts]
  | c :: r => by
    unfold parts
    split
    · simp
    · split <;> simp
theorem parts_cons (sep : Nat) (s : B) : ∃ p ps, parts sep s = p :: ps := by
  cases h : parts sep s with
  | nil => exact absurd h (parts_ne sep s)
  | cons p ps => exact ⟨p, ps, rfl⟩
theorem parts_sep (sep : Nat) (r : B) : parts sep (sep :: r) = [] :: parts sep r := by simp [parts]
theorem parts_other {sep c : Nat} (h : c ≠ sep) {r p : B} {ps : List B} (hr : parts sep r = p :: ps) : parts sep (c :: r) = (c :: p) :: ps := by simp [parts, h, hr]
def isNum (s : B) : Bool := s.all dig && match s with | [] => false | c :: r => r.isEmpty || c != 48
def isElem (s : B) : Bool := match s with | [] => false | c :: r => c != 46 && (c :: r).getLast? != some 46 && (c :: r).all (fun c => inner c || c == 46)
def isPath (s : B) : Bool := (parts 47 s).all isElem
def isWord (s : B) : Bool := !s.isEmpty && s.all wch && (!s.all dig || isNum s)
def cutDash : B → B × Option B
  | [] => ([], none)
  | c :: r => if c = 45 then ([], some r) else ((c :: (cutDash r).1), (cutDash r).2)
def preOk : Option B → Bool
  | none => true
  | some r => (parts 46 r).all isWord
def coreOk (n : Nat) (core : B) : Bool := (parts 46 core).length == n && (parts 46 core).all isNum
def isVersion : B → Bool
  | 118 :: r => coreOk 3 (cutDash r).1 && preOk (cutDash r).2
  | _ => false
structure St where
  moves : List (B × Nat)
  ends : Bool
  rest : B
def z : St := ⟨[], false, []⟩
def Bsome : B := [49, 50, 51, 52, 53, 54, 55, 56, 57]
def Bdigits : B := 48 :: Bsome
def Bletters : B := [97, 98, 99, 100, 101, 102, 103, 104, 105, 106, 107, 108, 109, 110, 111, 112, 113, 114, 115, 116, 117, 118, 119, 120, 121, 122, 65, 66, 67, 68, 69, 70, 71, 72, 73, 74, 75, 76, 77, 78, 79, 80, 81, 82, 83, 84, 85, 86, 87, 88, 89, 90]
def Binner : B := Bdigits ++ Bletters ++ [45, 95, 126]
def Btail : B := Bletters ++ [45]
def pathT : List St := [⟨[(Binner, 1)], false, [97]⟩, ⟨[(Binner, 1), ([46], 2), ([47], 0)], true, []⟩, ⟨[(Binner, 1), ([46], 2)], false, [97]⟩]
def versionT : List St := [
  ⟨[([118], 1)], false, [118, 48, 46, 48, 46, 48]⟩,
  ⟨[([48], 2), (Bsome, 3)], false, [48, 46, 48, 46, 48]⟩,
  ⟨[([46], 4)], false, [46, 48, 46, 48]⟩,
  ⟨[(Bdigits, 3), ([46], 4)], false, [46, 48, 46, 48]⟩,
  ⟨[([48], 5), (Bsome, 6)], false, [48, 46, 48]⟩,
  ⟨[([46], 7)], false, [46, 48]⟩,
  ⟨[(Bdigits, 6), ([46], 7)], false, [46, 48]⟩,
  ⟨[([48], 8), (Bsome, 9)], false, [48]⟩,
  ⟨[([45], 10)], true, []⟩,
  ⟨[(Bdigits, 9), ([45], 10)], true, []⟩,
  ⟨[([48], 11), (Bsome, 12), (Btail, 13)], false, [48]⟩,
  ⟨[(Bdigits, 14), (Btail, 13), ([46], 10)], true, []⟩,
  ⟨[(Bdigits, 12), (Btail, 13), ([46], 10)], true, []⟩,
  ⟨[(Bdigits ++ Btail, 13), ([46], 10)], true, []⟩,
  ⟨[(Bdigits, 14), (Btail, 13)], false, [97]⟩]
def goT : List St := [
  ⟨[([48], 1), (Bsome, 2)], false, [48, 46, 48]⟩,
  ⟨[([46], 3)], false, [46, 48]⟩,
  ⟨[(Bdigits, 2), ([46], 3)], false, [46, 48]⟩,
  ⟨[([48], 4), (Bsome, 5)], false, [48]⟩,
  ⟨[([46], 6)], true, []⟩,
  ⟨[(Bdigits, 5), ([46], 6)], true, []⟩,
  ⟨[([48], 7), (Bsome, 8)], false, [48]⟩,
  ⟨[], true, []⟩,
  ⟨[(Bdigits, 8)], true, []⟩]
def tab (k : Nat) : List St := if k = 0 then pathT else if k = 1 then versionT else if k = 2 then goT else []
def stepM (l : List (B × Nat)) (c : Nat) : Option Nat := match l with
  | [] => none
  | m :: r => if m.1.contains c then some m.2 else stepM r c
def at_ (k q : Nat) : St := (tab k).getD q z
def next (k q c : Nat) : Option Nat := stepM (at_ k q).moves c
def run (k q : Nat) : B → Nat × Nat
  | [] => (0, q)
  | c :: r => match next k q c with
    | none => (0, q)
    | some q' => ((run k q' r).1 + 1, (run k q' r).2)
def goes (k q : Nat) : B → Option Nat
  | [] => some q
  | c :: r => match next k q c with
    | none => none
    | some q' => goes k q' r
def acc (k q : Nat) (s : B) : Bool := match goes k q s with | none => false | some q' => (at_ k q').ends
end Gw
end
section
namespace Go.Proofs.YtohdmmafjpjmfaaGreatDoor.Q
open Go.RowKit Go.Proofs.YtohdmmafjpjmfaaGreatDoorW.PrintWords Go.Proofs.YtohdmmafjpjmfaaGreatDoorW.PrintLast Go.Proofs.YtohdmmafjpjmfaaGreatDoorW.PrintMore Gw
set_option linter.unusedVariables false
set_option linter.unusedSimpArgs false
def bs (s : ByteArray) : List Nat := s.data.toList.map UInt8.toNat
def ofB (l : List Nat) : ByteArray := ⟨(l.map UInt8.ofNat).toArray⟩
theorem bs_length (s : ByteArray) : (bs s).length = s.size := by simp [bs]
theorem bs_oct (s : ByteArray) : ∀ c ∈ bs s, c < 256 := by
  intro c hc
  simp only [bs, List.mem_map] at hc
  obtain ⟨x, _, rfl⟩ := hc
  exact x.toNat_lt
theorem bs_inj {s t : ByteArray} (h : bs s = bs t) : s = t := by
  have h2 : s.data.toList = t.data.toList := by
    refine List.map_inj_right (f := UInt8.toNat) ?_ |>.1 h
    intro a b hab
    exact UInt8.toNat_inj.1 hab
  cases s; cases t; simp only [ByteArray.mk.injEq]; exact Array.toList_inj.1 h2
theorem bs_ofB {l : List Nat} (h : ∀ c ∈ l, c < 256) : bs (ofB l) = l := by
  simp only [bs, ofB, List.map_map]
  refine (List.map_congr_left fun c hc => ?_).trans (List.map_id _)
  simp [UInt8.toNat_ofNat, Nat.mod_eq_of_lt (h c hc)]
theorem ofB_bs (s : ByteArray) : ofB (bs s) = s := bs_inj (bs_ofB (bs_oct s))
theorem bs_extract (s : ByteArray) (i j : Nat) : bs (s.extract i j) = ((bs s).take j).drop i := by
  simp only [bs, ByteArray.data_extract, Array.toList_extract, List.extract_eq_take_drop, List.map_take, List.map_drop]
  rw [List.drop_take]
theorem bt_drop {s : ByteArray} {i c : Nat} {r : List Nat} (h : (bs s).drop i = c :: r) : i < s.size ∧ bt s (i : Int) = (c : Int) ∧ (bs s).drop (i + 1) = r ∧ c < 256 := by
  have hl : i < (bs s).length := by
    rcases Nat.lt_or_ge i (bs s).length with h1 | h1
    · exact h1
    · rw [List.drop_eq_nil_of_le h1] at h; cases h
  rw [List.drop_eq_getElem_cons hl] at h
  injection h with h1 h2
  rw [bs_length] at hl
  refine ⟨hl, ?_, h2, ?_⟩
  · unfold bt
    simp only [Int.toNat_natCast, dif_pos hl]
    rw [← h1]
    simp [bs]
    rfl
  · rw [← h1]; exact bs_oct s _ (List.getElem_mem _)
theorem w1 {i n : Nat} (h : i < n) (hn : n ≤ 4398046511104) : wrap64 ((i : Int) + 1) = ((i + 1 : Nat) : Int) := by
  unfold wrap64; omega
abbrev Small (s : ByteArray) : Prop := s.size ≤ 4398046511104
def cls (c : Nat) : Nat := if dig c then 1 else if let_ c then 2 else if c = 45 ∨ c = 46 ∨ c = 95 ∨ c = 126 then 3 else if c = 47 then 4 else if c = 32 ∨ c = 9 then 5 else if c = 10 then 6 else if c = 34 then 7 else if c = 40 then 8 else if c = 41 then 9 else 0
theorem ext_ofB (s : ByteArray) (f i : Nat) : s.extract f i = ofB (((bs s).take i).drop f) := by rw [← bs_extract, ofB_bs]
theorem parts_oct {sep : Nat} : ∀ {s : List Nat}, (∀ c ∈ s, c < 256) → ∀ p ∈ parts sep s, ∀ c ∈ p, c < 256
  | [], _, p, hp, c, hc => by simp [parts] at hp; subst hp; cases hc
  | x :: r, h, p, hp, c, hc => by
    obtain ⟨q, qs, hq⟩ := parts_cons sep r
    have ih := parts_oct (sep := sep) (s := r) (fun c hc => h c (List.mem_cons_of_mem _ hc))
    by_cases hx : x = sep
    · subst hx
      rw [parts_sep, List.mem_cons] at hp
      rcases hp with rfl | hp
      · cases hc
      · exact ih p hp c hc
    · rw [parts_other hx hq, List.mem_cons] at hp
      rw [hq] at ih
      rcases hp with rfl | hp
      · rcases List.mem_cons.1 hc with rfl | hc
        · exact h _ List.mem_cons_self
        · exact ih q List.mem_cons_self c hc
      · exact ih p (List.mem_cons_of_mem _ hp) c hc
theorem parts_le {sep : Nat} : ∀ (s : List Nat), (∀ p ∈ parts sep s, p.length ≤ s.length) ∧ (parts sep s).length ≤ s.length + 1
  | [] => by simp [parts]
  | x :: r => by
    obtain ⟨q, qs, hq⟩ := parts_cons sep r
    obtain ⟨ih, il⟩ := parts_le (sep := sep) r
    by_cases hx : x = sep
    · subst hx
      rw [parts_sep]
      refine ⟨fun p hp => ?_, by simp; omega⟩
      rcases List.mem_cons.1 hp with rfl | hp
      · simp
      · have := ih p hp; simp; omega
    · rw [parts_other hx hq]
      rw [hq] at ih il
      refine ⟨fun p hp => ?_, by simp at il ⊢; omega⟩
      rcases List.mem_cons.1 hp with rfl | hp
      · have := ih q List.mem_cons_self; simp; omega
      · have := ih p (List.mem_cons_of_mem _ hp); simp; omega
theorem parts_small {s : ByteArray} (hs : Small s) (sep : Nat) : ((parts sep (bs s)).map ofB).length ≤ s.size + 1 ∧ ∀ x ∈ (parts sep (bs s)).map ofB, Small x ∧ x.size ≤ s.size := by
  have h := parts_le (sep := sep) (bs s)
  rw [bs_length] at h
  refine ⟨by rw [List.length_map]; exact h.2, fun x hx => ?_⟩
  obtain ⟨p, hp, rfl⟩ := List.mem_map.1 hx
  have h2 := h.1 p hp
  have h3 : (ofB p).size = p.length := by rw [← bs_length, bs_ofB (parts_oct (bs_oct s) p hp)]
  unfold Small at *
  omega
theorem parts_all (s : ByteArray) (sep : Nat) (q : List Nat → Bool) : ((parts sep (bs s)).map ofB).all (fun x => q (bs x)) = (parts sep (bs s)).all q := by
  rw [List.all_map]
  have : ∀ p ∈ parts sep (bs s), q (bs (ofB p)) = q p := fun p hp => by rw [bs_ofB (parts_oct (bs_oct s) p hp)]
  rw [Bool.eq_iff_iff]
  simp only [List.all_eq_true, Function.comp]
  exact ⟨fun h p hp => by rw [← this p hp]; exact h p hp, fun h p hp => by rw [this p hp]; exact h p hp⟩
theorem less_irrefl : ∀ l : List UInt8, Op.bytesLess l l = false
  | [] => rfl
  | a :: r => by simp [Op.bytesLess, less_irrefl r]
theorem less_tri : ∀ x y : List UInt8, Op.bytesLess x y = false → Op.bytesLess y x = false → x = y
  | [], [], _, _ => rfl
  | [], b :: y, h, _ => by simp [Op.bytesLess] at h
  | a :: x, [], _, h => by simp [Op.bytesLess] at h
  | a :: x, b :: y, h, h2 => by
    simp only [Op.bytesLess, Bool.or_eq_false_iff, decide_eq_false_iff_not, Bool.and_eq_false_iff, beq_eq_false_iff_ne] at h h2
    have hab : a = b := UInt8.le_antisymm (UInt8.not_lt.1 h2.1) (UInt8.not_lt.1 h.1)
    subst hab
    rw [less_tri x y (h.2.resolve_left (fun e => e rfl)) (h2.2.resolve_left (fun e => e rfl))]
theorem bytes_ne {x y : List UInt8} (h : Op.bytesLess y x = true) : (x == y) = false := by
  rw [beq_eq_false_iff_ne]; intro e; subst e; rw [less_irrefl] at h; cases h
theorem bytes_eq {x y : List UInt8} (h : Op.bytesLess x y = false) (h2 : Op.bytesLess y x = false) : (x == y) = true := by
  rw [beq_iff_eq]; exact less_tri x y h h2
end Go.Proofs.YtohdmmafjpjmfaaGreatDoor.Q
end
section
namespace Go.Proofs.YtohdmmafjpjmfaaGreatDoor.QB
open Go Go.RowKit Go.Sort Go.Proofs.YtohdmmafjpjmfaaGreatDoorW.PrintWords Go.Proofs.YtohdmmafjpjmfaaGreatDoorW.PrintLast Go.Proofs.YtohdmmafjpjmfaaGreatDoorW.PrintMore
set_option linter.unusedVariables false
structure Below (B : Nat) (w w' : World) : Prop extends Go.RowKit.Below B w w' where
  drawn : w.drawn ≤ w'.drawn
theorem Below.refl (B : Nat) (w : World) : Below B w w := ⟨Go.RowKit.Below.refl B w, Nat.le_refl _⟩
theorem Below.trans {B : Nat} {a b c : World} (h : Below B a b) (k : Below B b c) : Below B a c := ⟨h.toBelow.trans k.toBelow, Nat.le_trans h.drawn k.drawn⟩
theorem Below.mono {B B' : Nat} {w w' : World} (h : Below B w w') (hB : B' ≤ B) : Below B' w w' := ⟨h.toBelow.mono hB, h.drawn⟩
theorem Below.alloc {B : Nat} {w w' : World} (h : Below B w w') (hB : B ≤ w'.heap.size) (o : Obj) : Below B w (w'.alloc o) := ⟨h.toBelow.alloc hB o, h.drawn⟩
theorem Below.drew {B : Nat} {w w' : World} (h : Below B w w') : Below B w w'.drew := ⟨h.toBelow.drew, Nat.le_trans h.drawn (Nat.le_succ _)⟩
theorem Below.drewN {B : Nat} {w w' : World} (h : Below B w w') (n : Nat) : Below B w (w'.drewN n) := ⟨Go.Proofs.YtohdmmafjpjmfaaGreatDoorW.PrintWords.pw_below_drewN h.toBelow n, Nat.le_trans h.drawn (Nat.le_add_right _ n)⟩
theorem below_alloc {w W : World} (h : Below w.heap.size w W) (o : Obj) : Below w.heap.size w (W.alloc o) := h.alloc h.size o
theorem below_drew {B : Nat} {w W : World} (h : Below B w W) : Below B w W.drew := h.drew
theorem below_drew1 {B : Nat} {w W : World} (h : Below B w W) : Below B w W.drew := h.drew
theorem pw_below_drewN {B : Nat} {w W : World} (h : Below B w W) (n : Nat) : Below B w (W.drewN n) := h.drewN n
theorem below_set {w W : World} {g j : Nat} {v : Value} (h : Below w.heap.size w W) (hg : w.heap.size ≤ g) : Below w.heap.size w (W.setCell ⟨g, j, none⟩ v) := ⟨Go.Proofs.YtohdmmafjpjmfaaGreatDoorW.PrintWords.below_set h.toBelow hg, h.drawn⟩
theorem below_size {w W : World} (h : Below w.heap.size w W) : w.heap.size ≤ W.heap.size := h.size
theorem below_step {w W w2 : World} (h : Below w.heap.size w W) (k : Below W.heap.size W w2) : Below w.heap.size w w2 := h.trans (k.mono h.size)
theorem blk_below {w w1 : World} {g : Nat} {o : Obj} (h : w.heap[g]? = some o) (hb : Below w.heap.size w w1) : w1.heap[g]? = some o := Go.Proofs.YtohdmmafjpjmfaaGreatDoorW.PrintWords.blk_below h hb.toBelow
theorem drawn_below {w w' : World} (h : Drawn0 w w') : Below w.heap.size w w' := by
  obtain ⟨n, rfl⟩ := h
  exact (Below.refl _ _).drewN n
theorem Kd.R_below {α : Type} {d : Kd α} {e : Nat} {w w1 : World} {base : Nat} {ok : Nat → Prop} {v : Value} {xs : List α} (h : d.R e w base ok v xs) (hb : Below w.heap.size w w1) : d.R e w1 base ok v xs := Go.Proofs.YtohdmmafjpjmfaaGreatDoorW.PrintWords.Kd.R_below h hb.toBelow
theorem Kd.C_below {α : Type} {d : Kd α} {w w1 : World} {xs : List α} {A : Option Addr} {n : Nat} (h : d.C w A n xs) (hb : Below w.heap.size w w1) : d.C w1 A n xs := Go.Proofs.YtohdmmafjpjmfaaGreatDoorW.PrintWords.Kd.C_below h hb.toBelow
theorem below_iterAt {B : Nat} {w W : World} (h : Below B w W) {k : Nat} (hk : B ≤ k) (s : ByteArray) (i : Nat) : Below B w (W.iterAt k s i) := ⟨Go.Lib.below_iterAt h.toBelow hk s i, h.drawn⟩
section
variable {α : Type} {P : Program} {ops : Array Oper} {rest : List Oper} {o : Oper} {a : Act} {Q : Exit → Act → World → Prop} {Kc : Act → World → Prop}
theorem Kd.lit_new (d : Kd α) {W : World} (base e : Nat) {xs : List α} {inner : List Value} {ok okp : Nat → Prop} (hrep : Reps (d.M W base okp) d.sz xs inner) (hok : ∀ k, okp k → ok k) (hfresh : ok W.heap.size) (hbase : base ≤ W.heap.size) (hm : xs.length ≤ 9223372036854775807) :
    d.R e (W.alloc (.cells inner.toArray e)) base ok (.slice (some ⟨W.heap.size, 0, none⟩) xs.length xs.length) xs := by
  refine ⟨fun k hk => ?_, inner, ?_, ?_⟩
  · have : W.heap.size = k := by simpa [Value.ownBlock] using hk
    subst this
    exact hfresh
  · have h2 := World.ownsRow_lit (base := base) (e := e) (size := d.sz) W inner.toArray xs.length hbase (by simpa [maxLen] using hm) (by simpa using hrep.1)
    simpa using h2
  · refine hrep.imp_ (fun p c hp => d.M_mono (fun k hk => ⟨hok k hk.1, fun he => ?_⟩) (Go.Proofs.YtohdmmafjpjmfaaGreatDoorW.PrintWords.Kd.M_below (d.M_bound hp) (Go.Proofs.YtohdmmafjpjmfaaGreatDoorW.PrintWords.below_alloc (Go.RowKit.Below.refl _ _) _)))
    have h3 : k = W.heap.size := by simpa [Value.ownBlock] using he
    have := hk.2.2.1
    omega
theorem Kd.R_lit (d : Kd α) {w0 W : World} (base e : Nat) (hgd : o.guard = none) {N : Tmp} (_hd : o.dst = some N) {xs : List α} {inner : List Value} {ok okp : Nat → Prop}
    (hrun : (execOp a.eval o).run P W = .ok (.value (.slice (some ⟨W.heap.size, 0, none⟩) xs.length xs.length)) (W.alloc (.cells inner.toArray e)))
    (hrep : Reps (d.M W base okp) d.sz xs inner) (hok : ∀ k, okp k → ok k) (hfresh : ok W.heap.size) (HB : Below base w0 W) (hbase : base ≤ W.heap.size) (hm : xs.length ≤ 9223372036854775807)
    (h : ∀ v1 w1, d.R e w1 base ok v1 xs → Below base w0 w1 → W.grownBy w1 none → (∃ b, v1.ownBlock = some b ∧ W.heap.size ≤ b) → wpList P ops Q rest (a.put o.dst v1) w1) : wpList P ops Q (o :: rest) a W :=
  Go.Proofs.YtohdmmafjpjmfaaGreatDoorW.PrintWords.Kd.event_run hgd hrun (h _ _ (Kd.lit_new d base e hrep hok hfresh hbase hm) (HB.alloc hbase _) (World.grownBy_alloc W _ none) ⟨W.heap.size, by simp [Value.ownBlock], Nat.le_refl _⟩)
theorem box_event {W : World} (hgd : o.guard = none) {N : Tmp} (_hd : o.dst = some N) {cs : Array Value} {t : TypeId}
    (hrun : (execOp a.eval o).run P W = .ok (.value (.pointer (some ⟨W.heap.size, 0, none⟩))) (W.alloc (.cells cs t (0, 0))))
    (h : ∀ g, g = W.heap.size → ∀ w1, w1.heap[g]? = some (.cells cs t (0, 0)) → Below W.heap.size W w1 → wpList P ops Q rest (a.put o.dst (.pointer (some ⟨g, 0, none⟩))) w1) : wpList P ops Q (o :: rest) a W :=
  Go.Proofs.YtohdmmafjpjmfaaGreatDoorW.PrintWords.Kd.event_run hgd hrun (h _ rfl _ (blk_new W _) (below_alloc (Below.refl _ _) _))
end
theorem Below.grows {w w' : World} (h : Below w.heap.size w w') : ∃ q os, w' = grow (w.drewN q) os := by
  refine ⟨w'.drawn - w.drawn, w'.heap.extract w.heap.size w'.heap.size, ?_⟩
  have hd := h.drawn
  have hh : w'.heap = w.heap ++ w'.heap.extract w.heap.size w'.heap.size := by
    apply Array.ext_getElem?
    intro i
    rw [Array.getElem?_append]
    split
    · exact h.block i (by assumption)
    · have := h.size
      by_cases hi : i < w'.heap.size
      · rw [Array.getElem?_extract]
        simp; rw [if_pos (by omega)]; congr 1; omega
      · rw [Array.getElem?_extract]
        simp; rw [if_neg (by omega), Array.getElem?_eq_none (by omega)]
  have h1 := h.os
  have h2 := h.tape
  have h3 := h.output
  cases w' with
  | mk heap tape drawn os output =>
    cases w with
    | mk heap0 tape0 drawn0 os0 output0 =>
      simp only at hh h1 h2 h3 hd
      simp only [grow, World.drewN, World.mk.injEq]
      subst h1 h2 h3
      exact ⟨hh, rfl, by omega, rfl, rfl⟩
end Go.Proofs.YtohdmmafjpjmfaaGreatDoor.QB
end
section
namespace Go.Proofs.YtohdmmafjpjmfaaGreatDoor.QB.D
open Go.Proofs.YtohdmmafjpjmfaaGreatDoor.Q
open Go.RowKit Go.Lib Go.Proofs.YtohdmmafjpjmfaaGreatDoorW.PrintWords Go.Proofs.YtohdmmafjpjmfaaGreatDoorW.PrintLast Go.Proofs.YtohdmmafjpjmfaaGreatDoorW.PrintMore
set_option linter.unusedVariables false
set_option linter.unusedSimpArgs false
abbrev Cat1 : ByteArray := ⟨#[48, 49, 50, 51, 52, 53, 54, 55, 56, 57]⟩
abbrev Cat2 : ByteArray := ⟨#[97, 98, 99, 100, 101, 102, 103, 104, 105, 106, 107, 108, 109, 110, 111, 112, 113, 114, 115, 116, 117, 118, 119, 120, 121, 122, 65, 66, 67, 68, 69, 70, 71, 72, 73, 74, 75, 76, 77, 78, 79, 80, 81, 82, 83, 84, 85, 86, 87, 88, 89, 90]⟩
abbrev Cat3 : ByteArray := ⟨#[45, 46, 95, 126]⟩
abbrev Cat4 : ByteArray := ⟨#[47]⟩
abbrev Cat5 : ByteArray := ⟨#[32, 9]⟩
abbrev Cat6 : ByteArray := ⟨#[10]⟩
abbrev Cat7 : ByteArray := ⟨#[34]⟩
abbrev Cat8 : ByteArray := ⟨#[40]⟩
abbrev Cat9 : ByteArray := ⟨#[41]⟩
def catS : Nat → ByteArray
  | 1 => Cat1
  | 2 => Cat2
  | 3 => Cat3
  | 4 => Cat4
  | 5 => Cat5
  | 6 => Cat6
  | 7 => Cat7
  | 8 => Cat8
  | 9 => Cat9
  | _ => ⟨#[]⟩
def putAll (c : Nat) (a : Array Value) (l : List UInt8) : Array Value := l.foldl (fun a x => a.setIfInBounds x.toNat (.int .i64 (c : Int))) a
def tabA : Nat → Array Value
  | 0 => Array.replicate 256 (.int .i64 0)
  | i + 1 => putAll i (tabA i) (catS i).data.toList
theorem putAll_snoc (c : Nat) (a : Array Value) (l : List UInt8) (x : UInt8) : putAll c a (l ++ [x]) = (putAll c a l).setIfInBounds x.toNat (.int .i64 (c : Int)) := by simp [putAll]
theorem putAll_size (c : Nat) (l : List UInt8) : ∀ a : Array Value, (putAll c a l).size = a.size := by
  induction l with
  | nil => intro a; rfl
  | cons x r ih => intro a; show (putAll c (a.setIfInBounds x.toNat _) r).size = _; rw [ih]; simp
theorem tabA_size : ∀ i, (tabA i).size = 256
  | 0 => by simp [tabA]
  | i + 1 => by rw [tabA, putAll_size]; exact tabA_size i
def clsV : Array Value := tabA 10
theorem cat_idx (i : Nat) (hi : i < 10) (w : World) : (Instr.index 147 (.agg #[.string ⟨#[]⟩, .string Cat1, .string Cat2, .string Cat3, .string Cat4, .string Cat5, .string Cat6, .string Cat7, .string Cat8, .string Cat9]) (.int .i64 (i : Int))).run Tryz.prog w = .ok (.string (catS i)) w := by
  have h0 : ∀ w, (Instr.index 147 (.agg #[.string ⟨#[]⟩, .string Cat1, .string Cat2, .string Cat3, .string Cat4, .string Cat5, .string Cat6, .string Cat7, .string Cat8, .string Cat9]) (.int .i64 0)).run Tryz.prog w = .ok (.string (catS 0)) w := fun _ => by kernel_rfl
  have h1 : ∀ w, (Instr.index 147 (.agg #[.string ⟨#[]⟩, .string Cat1, .string Cat2, .string Cat3, .string Cat4, .string Cat5, .string Cat6, .string Cat7, .string Cat8, .string Cat9]) (.int .i64 1)).run Tryz.prog w = .ok (.string (catS 1)) w := fun _ => by kernel_rfl
  have h2 : ∀ w, (Instr.index 147 (.agg #[.string ⟨#[]⟩, .string Cat1, .string Cat2, .string Cat3, .string Cat4, .string Cat5, .string Cat6, .string Cat7, .string Cat8, .string Cat9]) (.int .i64 2)).run Tryz.prog w = .ok (.string (catS 2)) w := fun _ => by kernel_rfl
  have h3 : ∀ w, (Instr.index 147 (.agg #[.string ⟨#[]⟩, .string Cat1, .string Cat2, .string Cat3, .string Cat4, .string Cat5, .string Cat6, .string Cat7, .string Cat8, .string Cat9]) (.int .i64 3)).run Tryz.prog w = .ok (.string (catS 3)) w := fun _ => by kernel_rfl
  have h4 : ∀ w, (Instr.index 147 (.agg #[.string ⟨#[]⟩, .string Cat1, .string Cat2, .string Cat3, .string Cat4, .string Cat5, .string Cat6, .string Cat7, .string Cat8, .string Cat9]) (.int .i64 4)).run Tryz.prog w = .ok (.string (catS 4)) w := fun _ => by kernel_rfl
  have h5 : ∀ w, (Instr.index 147 (.agg #[.string ⟨#[]⟩, .string Cat1, .string Cat2, .string Cat3, .string Cat4, .string Cat5, .string Cat6, .string Cat7, .string Cat8, .string Cat9]) (.int .i64 5)).run Tryz.prog w = .ok (.string (catS 5)) w := fun _ => by kernel_rfl
  have h6 : ∀ w, (Instr.index 147 (.agg #[.string ⟨#[]⟩, .string Cat1, .string Cat2, .string Cat3, .string Cat4, .string Cat5, .string Cat6, .string Cat7, .string Cat8, .string Cat9]) (.int .i64 6)).run Tryz.prog w = .ok (.string (catS 6)) w := fun _ => by kernel_rfl
  have h7 : ∀ w, (Instr.index 147 (.agg #[.string ⟨#[]⟩, .string Cat1, .string Cat2, .string Cat3, .string Cat4, .string Cat5, .string Cat6, .string Cat7, .string Cat8, .string Cat9]) (.int .i64 7)).run Tryz.prog w = .ok (.string (catS 7)) w := fun _ => by kernel_rfl
  have h8 : ∀ w, (Instr.index 147 (.agg #[.string ⟨#[]⟩, .string Cat1, .string Cat2, .string Cat3, .string Cat4, .string Cat5, .string Cat6, .string Cat7, .string Cat8, .string Cat9]) (.int .i64 8)).run Tryz.prog w = .ok (.string (catS 8)) w := fun _ => by kernel_rfl
  have h9 : ∀ w, (Instr.index 147 (.agg #[.string ⟨#[]⟩, .string Cat1, .string Cat2, .string Cat3, .string Cat4, .string Cat5, .string Cat6, .string Cat7, .string Cat8, .string Cat9]) (.int .i64 9)).run Tryz.prog w = .ok (.string (catS 9)) w := fun _ => by kernel_rfl
  match i, hi with
  | 0, _ => exact h0 w
  | 1, _ => exact h1 w
  | 2, _ => exact h2 w
  | 3, _ => exact h3 w
  | 4, _ => exact h4 w
  | 5, _ => exact h5 w
  | 6, _ => exact h6 w
  | 7, _ => exact h7 w
  | 8, _ => exact h8 w
  | 9, _ => exact h9 w
theorem cat_size (i : Nat) : (catS i).size ≤ 52 := by
  unfold catS
  split <;> decide
theorem put_take (i k : Nat) (h : k < (catS i).size) (hi : i < 10) : putAll i (tabA i) ((catS i).data.toList.take (k + 1)) = (putAll i (tabA i) ((catS i).data.toList.take k)).setIfInBounds ((catS i)[k]).toNat (.int .i64 (i : Int)) := by
  rw [List.take_succ_eq_append_getElem (by simpa using h), putAll_snoc]
  rfl
set_option maxHeartbeats 2000000 in
set_option maxRecDepth 100000 in
theorem classes_calls (w : World) : Calls Tryz.prog 114 #[] w fun e w' => e = .returned (.agg clsV) ∧ w' = w.alloc (.cells clsV 129) := by
  go_enter Tryz.func114, Tryz.ntmps114
  go_wp2
  go_loopw [5] (fun v5 wr => ∃ i : Nat, i ≤ 10 ∧ v5 = .int .i64 (i : Int) ∧ wr = w.alloc (.cells (tabA i) 129)) (fun v5 _ => 10 - (RowKit.intOf v5).toNat)
  case atStart => exact ⟨0, by omega, rfl, rfl⟩
  case round =>
    obtain ⟨i, hi, rfl, rfl⟩ := hrel
    by_cases hil : i < 10
    · have hi1 : decide ((i : Int) < 10) = true := decide_eq_true (by omega)
      have hx := cat_idx i hil
      have hsz := cat_size i
      go_wp2
      go_loopw [11] (fun v11 wr => ∃ k : Nat, k ≤ (catS i).size ∧ v11 = .int .i64 (k : Int) ∧ wr = w.alloc (.cells (putAll i (tabA i) ((catS i).data.toList.take k)) 129)) (fun v11 _ => (catS i).size - (RowKit.intOf v11).toNat)
      case atStart => exact ⟨0, Nat.zero_le _, rfl, rfl⟩
      case round =>
        obtain ⟨k, hk, rfl, rfl⟩ := hrel
        by_cases hkl : k < (catS i).size
        · have hk1 : decide ((k : Int) < ((catS i).size : Int)) = true := decide_eq_true (by omega)
          have hk2 : decide (k < (catS i).size) = true := decide_eq_true hkl
          have hpt := put_take i k hkl hil
          have hps : (putAll i (tabA i) ((catS i).data.toList.take k)).size = 256 := by rw [putAll_size, tabA_size]
          have hb : ((catS i)[k].toNat : Int) < 256 := by have := (catS i)[k].toNat_lt; omega
          generalize hput : putAll i (tabA i) ((catS i).data.toList.take k) = P at hpt hps
          have hpc : P[(catS i)[k].toNat]? = some (P[(catS i)[k].toNat]'(by omega)) := Array.getElem?_eq_getElem _
          have Hpt := Aside0.mk hpt
          clear hpt hput
          go_wp2
          go_round
          case rel => exact ⟨k + 1, by omega, by go_num, by rw [Hpt.out]⟩
          case measure => simp [RowKit.intOf]; omega
        · obtain rfl : k = (catS i).size := by omega
          have hk1 : decide (((catS i).size : Int) < ((catS i).size : Int)) = false := decide_eq_false (by omega)
          rw [List.take_of_length_le (by simp)]
          go_wp2
          go_round
          case rel => exact ⟨i + 1, by omega, by go_num, rfl⟩
          case measure => simp [RowKit.intOf]; omega
    · obtain rfl : i = 10 := by omega
      have hpc : ∀ j (hj : j < 256), (tabA 10)[j]? = some ((tabA 10)[j]'(by rw [tabA_size]; exact hj)) := fun j hj => Array.getElem?_eq_getElem _
      clear hi hil
      show Code.wp _ _ _ _ (w.alloc (.cells clsV 129))
      clear hpc
      have hz : clsV.size = 256 := tabA_size 10
      have hs := run_storeCells_new (P := Tryz.prog) w 129 clsV clsV (by kernel_rfl) rfl (by kernel_rfl)
      obtain ⟨V, hV⟩ : ∃ V, V = clsV := ⟨_, rfl⟩
      rw [← hV] at hz hs ⊢
      have HV := Aside0.mk hV
      clear hV
      go_wp2
      refine wp_load_row 129 (.tmp 0) rfl w.heap.size rfl 129 V (0, 0) (.array 256 3) (heap_alloc_last w _) (by kernel_rfl) rfl (by rw [hz]; kernel_rfl) ?_
      go_wp2
      refine bodyPost_ret (v := .agg V) ?_ rfl ⟨by rw [HV.out], by rw [HV.out]⟩
      exact results_cell_row rfl _ _ w.heap.size 129 V (0, 0) (.array 256 3) rfl (heap_alloc_last w _) (by kernel_rfl) rfl (by rw [hz]; kernel_rfl)
end Go.Proofs.YtohdmmafjpjmfaaGreatDoor.QB.D
end
