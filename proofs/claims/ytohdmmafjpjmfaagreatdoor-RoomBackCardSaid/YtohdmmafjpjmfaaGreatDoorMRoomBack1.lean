/- Part 1 of this claim: several texts one behind the other: EvOpE, EvOpF, EvOpG, EvOpH, EvReg, EvDraw. What each shows stands in its theorems; conditions: sizes of texts and lists, as the functions' definitions say. -/
import Derived.Test.YtohdmmafjpjmfaaGreatDoorMRoomBack0
import Derived.ArgAppend
section
namespace Go.Ev
open Go Go.RowKit
set_option linter.unusedVariables false
set_option linter.unusedSimpArgs false
section
variable {P : Program} {T : Tab} {PC : Orc} {Q : Exit → Act → World → Prop} {o : Oper} {a : Act} {w : World} {B nt : Nat} {w0 : World} {F0 : Nat → Nat → Prop} {ow : Ow} {σ : St} {K : List Nat → List (Nat × PV) → Prop}
theorem ap_two {d : Nat} (p q : PV) : ap [(3 * d + 1, q), (3 * d, p)] σ = ap (asgn (some d) p) (ap [(3 * d + 1, q)] σ) := by
  funext l
  by_cases h1 : l = 3 * d + 1
  · rw [h1, ap_self, show ap (asgn (some d) p) (ap [(3 * d + 1, q)] σ) (3 * d + 1) = ap [(3 * d + 1, q)] σ (3 * d + 1) from ap_ne p [] _ (by omega), ap1_self]
  · rw [ap_ne _ _ _ h1]
    by_cases h2 : l = 3 * d
    · rw [h2, ap_self, show ap (asgn (some d) p) (ap [(3 * d + 1, q)] σ) (3 * d) = p from ap_self _ _ _ _]
    · rw [ap_ne _ _ _ h2, show ap (asgn (some d) p) (ap [(3 * d + 1, q)] σ) l = ap [(3 * d + 1, q)] σ l from ap_ne p [] _ h2, ap1_ne _ _ h1]; rfl
theorem InvO.mkBox (hI : InvO F0 B nt w0 ow σ a w) {d : Nat} (hdn : d < nt) (hd : σ (3 * d + 1) = .any) (cs : List PV) (c : Array Value) (T : TypeId) (hl : cs.length = c.size)
    (hc : ∀ (j : Nat) (p : PV) (v : Value), cs[j]? = some p → c[j]? = some v → v.oneCell' = true ∧ RepC (FF F0 ow) w p v ∧ Own B ow w σ p v) (ht : allP (tokOk σ) cs) :
    Inv F0 B nt w0 (ap [(3 * d + 1, .ag cs), (3 * d, .pt d 0)] σ) (a.put (some d) (.pointer (some ⟨w.heap.size, 0, none⟩))) (w.alloc (.cells c T (0, 0))) := by
  have h := hI.box hd cs c T hl hc ht
  refine ⟨_, (ap_two (σ := σ) (d := d) (.pt d 0) (.ag cs)) ▸ h.put (dst := some d) (fun d' e => by cases e; exact hdn) (p := .pt d 0) ⟨w.heap.size, by simp, rfl⟩ ?_⟩
  show wf1 _ 0 (.pt d 0)
  unfold wf1
  simp only [ap1_self]
theorem cellPV_own (v : Value) (hv : v.oneCell' = true) : RepC (FF F0 ow) w (cellPV v) v ∧ Own B ow w σ (cellPV v) v ∧ tokOk σ (cellPV v) := by
  refine ⟨cellPV_rep v, ?_, ?_⟩ <;> (unfold cellPV; split)
  · exact ⟨none, rfl⟩
  · trivial
  · trivial
  · trivial
theorem allP_of {f : PV → Prop} : ∀ {l : List PV}, (∀ p ∈ l, f p) → allP f l
  | [], _ => trivial
  | p :: r, h => ⟨h p (by simp), allP_of (fun q hq => h q (by simp [hq]))⟩
theorem sim_alloc {t : TypeId} (hT : TabOk P T) (ho : o.op = .alloc t) (hI : InvO F0 B nt w0 ow σ a w) (hd : ∀ d, o.dst = some d → d < nt) (h : (opA P T o).run PC σ K) : o.wp P a w (Sim F0 B nt w0 σ K) Q := by
  unfold opA at h
  rw [ho] at h
  dsimp only at h
  split at h
  · rename_i i d ht hdst
    simp only [AM.run, force_eq] at h
    split at h
    · rename_i hany
      simp only [AM.run, forceW_eq] at h
      have hti := hT t i ht
      obtain ⟨ti, z, h1, h2, h3, h4, h5⟩ := hti.info
      have hrun : (execOp a.eval o).run P w = .ok (.value (.pointer (some ⟨w.heap.size, 0, none⟩))) (w.alloc (.cells z.cells t (0, 0))) := by
        unfold execOp; rw [ho]; simp [Instr.alloc, zeroValue, typeInfo, h1, h4, newVar, newRow]
      refine wp_value hrun ⟨_, _, h, ?_⟩
      rw [hdst]
      refine hI.mkBox (hd d hdst) hany (i.zero.map cellPV) z.cells t ?_ (fun j p v hp hv => ?_) (allP_of (fun p hp => ?_))
      · rw [List.length_map, ← h5]; simp
      · rw [List.getElem?_map, ← h5] at hp
        have hv2 : z.cells.toList[j]? = some v := by simpa using hv
        rw [hv2] at hp
        cases hp
        have hone := hti.one v (h5 ▸ List.mem_of_getElem? hv2)
        have := cellPV_own (F0 := F0) (B := B) (ow := ow) (w := w) (σ := σ) v hone
        exact ⟨hone, this.1, this.2.1⟩
      · obtain ⟨v, hv, rfl⟩ := List.mem_map.1 hp
        exact (cellPV_own (F0 := F0) (B := B) (ow := ow) (w := w) (σ := σ) v (hti.one v hv)).2.2
    · exact h.elim
  · exact h.elim
theorem cells_rep {p : PV} {v : Value} (h : RepT F0 B ow w σ p v) (hw : wfT σ p) (hc : p.cells.all cellable = true) {q : List PV} (hq : q = p.flat) :
    q.length = v.cells.size ∧ p.cells.length = v.cells.size ∧ (∀ (j : Nat) (p : PV) (v' : Value), q[j]? = some p → v.cells[j]? = some v' → v'.oneCell' = true ∧ RepC (FF F0 ow) w p v' ∧ Own B ow w σ p v') ∧ allP (tokOk σ) q := by
  have own_ro : ∀ p v, Own B ow w σ (PV.ro p) v := fun p v => by cases p <;> trivial
  have tok_ro : ∀ p, tokOk σ (PV.ro p) := fun p => by cases p <;> trivial
  have single : ∀ p, cellable p = true → RepC (FF F0 ow) w p v → Own B ow w σ p v → tokOk σ p → ([p.nb] : List PV).length = v.cells.size ∧ 1 = v.cells.size ∧ (∀ (j : Nat) (q : PV) (v' : Value), [p.nb][j]? = some q → v.cells[j]? = some v' → v'.oneCell' = true ∧ RepC (FF F0 ow) w q v' ∧ Own B ow w σ q v') ∧ allP (tokOk σ) [p.nb] := by
    intro p hp hr hown htok
    have hv : v.oneCell' = true := by
      cases hr <;> first | rfl | (simp [cellable] at hp; done) | skip
      cases v <;> first | rfl | simp [cellable] at hp
    have hcells : v.cells = #[v] := by cases v <;> first | rfl | simp [Value.oneCell'] at hv
    have hown' : Own B ow w σ p.nb v := by cases p <;> first | exact hown | trivial
    have htok' : tokOk σ p.nb := by cases p <;> first | exact htok | trivial
    rw [hcells]
    refine ⟨rfl, rfl, fun j q v' h1 h2 => ?_, htok', trivial⟩
    cases j with
    | zero =>
      simp at h1 h2
      subst h1
      subst h2
      exact ⟨hv, hr.nb, hown'⟩
    | succ j => simp at h1
  subst hq
  cases p with
  | ag cs =>
    obtain ⟨hr, _⟩ := h
    cases hr with
    | ag cs vs hl hone hh =>
      refine ⟨by simp [PV.flat, Value.cells, hl], by simp [PV.cells, Value.cells, hl], fun j p v' h1 h2 => ?_, allP_of (fun p hp => ?_)⟩
      · rw [show (PV.ag cs).flat = cs.map PV.ro from rfl] at h1
        rw [List.getElem?_map] at h1
        obtain ⟨p0, h3, rfl⟩ := Option.map_eq_some_iff.1 h1
        have h2' : vs[j]? = some v' := h2
        exact ⟨hone v' (by
          have : vs.toList[j]? = some v' := by simpa using h2'
          exact List.mem_of_getElem? this), (hh j p0 v' h3 h2').ro, own_ro _ _⟩
      · obtain ⟨p0, _, rfl⟩ := List.mem_map.1 hp
        exact tok_ro p0
  | pt t o => simp [PV.cells, cellable] at hc
  | tu ps => simp [PV.cells, cellable] at hc
  | s x => exact single _ (by simpa [PV.cells] using hc) h.1 h.2 trivial
  | tt => exact single _ rfl h.1 h.2 trivial
  | ff => exact single _ rfl h.1 h.2 trivial
  | sl k z xs => exact single _ rfl h.1 h.2 hw
  | rp cs => simp [PV.cells, cellable] at hc
  | fr n z => simp [PV.cells, cellable] at hc
  | any => simp [PV.cells, cellable] at hc
theorem sim_box {t : TypeId} {x : Operand} (ho : o.op = .box t x) (hI : InvO F0 B nt w0 ow σ a w) (hd : ∀ d, o.dst = some d → d < nt) (h : (opA P T o).run PC σ K) : o.wp P a w (Sim F0 B nt w0 σ K) Q := by
  unfold opA at h
  rw [ho] at h
  obtain ⟨p, R0, h1, h2, h3⟩ := evO_inv hI x _ _ h
  split at h3
  · rename_i d hdst
    cases hc : p.cells.all cellable
    · rw [hc] at h3; exact h3.elim
    rw [hc] at h3
    simp only [cond_true, AM.run, force_eq] at h3
    split at h3
    · rename_i hany
      simp only [AM.run, forceW_eq] at h3
      have hrun : (execOp a.eval o).run P w = .ok (.value (.pointer (some ⟨w.heap.size, 0, none⟩))) (w.alloc (.cells (a.eval x).cells t (0, 0))) := by
        unfold execOp; rw [ho]; simp [Instr.box, newVar, newRow]
      obtain ⟨g1, _, g3, g4⟩ := cells_rep h1 h2 hc rfl
      refine wp_value hrun ⟨_, _, h3, ?_⟩
      rw [hdst]
      exact hI.mkBox (hd d hdst) hany _ _ t g1 g3 g4
    · exact h3.elim
  · exact h3.elim
theorem splice_get (cs ds : List PV) (k : Nat) (hk : k + ds.length ≤ cs.length) (j : Nat) : (splice cs k ds)[j]? = if k ≤ j ∧ j < k + ds.length then ds[j - k]? else cs[j]? := by
  unfold splice
  have hl : (cs.take k).length = k := by simp; omega
  split
  · rename_i h
    rw [List.append_assoc, List.getElem?_append_right (by omega), hl, List.getElem?_append_left (by omega)]
  · rename_i h
    by_cases h1 : j < k
    · rw [List.append_assoc, List.getElem?_append_left (by omega), List.getElem?_take, if_pos h1]
    · rw [List.getElem?_append_right (by simp; omega), List.getElem?_drop]
      congr 1
      simp
      omega
theorem sim_store {t : TypeId} {x y : Operand} (hT : TabOk P T) (ho : o.op = .store t x y) (hI : InvO F0 B nt w0 ow σ a w) (h : (opA P T o).run PC σ K) : o.wp P a w (Sim F0 B nt w0 σ K) Q := by
  unfold opA at h
  rw [ho] at h
  obtain ⟨p, R0, h1, h2, h3⟩ := evO_inv hI x _ _ h
  obtain ⟨q, R1, k1, k2, k3⟩ := evO_inv hI y _ _ h3
  split at k3
  · rename_i i b k ht hdst
    have hti := hT t i ht
    obtain ⟨g, g1, g2⟩ := h1
    obtain ⟨_, cs, c, Ty, b1, b2, b3, b4⟩ := hI.boxes g b 0 g1
    have hwf := hI.wf (3 * b + 1)
    rw [b1] at hwf
    simp only [wf1, mod_box, cond_true] at hwf
    simp only [AM.run, force_eq, b1] at k3
    cases hcond : Nat.beq q.cells.length i.size && Nat.ble (k + i.size) cs.length && q.cells.all cellable
    · rw [hcond] at k3; exact k3.elim
    rw [hcond] at k3
    simp only [cond_true, AM.run, forceW_eq] at k3
    rw [Bool.and_eq_true, Bool.and_eq_true] at hcond
    obtain ⟨⟨c1, c2⟩, c3⟩ := hcond
    have c1' := Nat.eq_of_beq_eq_true c1
    have c2' := Nat.le_of_ble_eq_true c2
    obtain ⟨e1, e2, e3, e4⟩ := cells_rep k1 k2 c3 rfl
    generalize hds : q.flat = ds at e1 e3 e4 k3
    have hdl : ds.length = i.size := by omega
    have hone : ∀ v ∈ (a.eval y).cells.toList, v.oneCell' = true := fun v hv => by
      obtain ⟨j, hj, hjv⟩ := List.getElem_of_mem hv
      have hj' : j < ds.length := by rw [e1]; simpa using hj
      exact (e3 j ds[j] v (List.getElem?_eq_getElem hj') (by rw [← hjv]; simp)).1
    have hst := run_storeCells_at (P := P) g k Ty (a.eval y).cells.toList 0 c w b2 (by simp; omega) hone
    simp only [Nat.add_zero] at hst
    obtain ⟨ti, z, i1, i2, _⟩ := hti.info
    have hsz : (a.eval y).cells.size = ti.size := by omega
    have hrun : (execOp a.eval o).run P w = .ok .skip (w.setRow g (c.toList.take k ++ (a.eval y).cells.toList ++ c.toList.drop (k + (a.eval y).cells.toList.length)).toArray) := by
      unfold execOp; rw [ho]; simp [Instr.storeAt, Instr.sureAddr, g2, storeVar, sizeOf, typeInfo, i1, hsz, hst]
    refine wp_skipped hrun ⟨_, _, k3, ow, ?_⟩
    rw [hdst]
    have hcl : (c.toList.take k ++ (a.eval y).cells.toList ++ c.toList.drop (k + (a.eval y).cells.toList.length)).length = c.size := by simp; omega
    have hget : ∀ j, (c.toList.take k ++ (a.eval y).cells.toList ++ c.toList.drop (k + (a.eval y).cells.toList.length))[j]? = if k ≤ j ∧ j < k + ds.length then (a.eval y).cells[j - k]? else c[j]? := fun j => by
      have hl : (c.toList.take k).length = k := by simp; omega
      have hl2 : (a.eval y).cells.toList.length = ds.length := by simp [e1]
      split
      · rename_i h
        rw [List.append_assoc, List.getElem?_append_right (by omega), hl, List.getElem?_append_left (by omega)]; simp
      · rename_i h
        by_cases h1 : j < k
        · rw [List.append_assoc, List.getElem?_append_left (by omega), List.getElem?_take, if_pos h1]; simp
        · rw [List.getElem?_append_right (by rw [List.length_append]; omega), List.getElem?_drop, List.length_append, hl, hl2, show k + ds.length + (j - (k + ds.length)) = j by omega]; simp
    have hspl : (splice cs k ds).length = cs.length := by unfold splice; simp; omega
    refine hI.store g1 (splice cs k ds) _ c Ty b2 (by rw [hspl, List.size_toArray, hcl, b3]) (fun j p v hp hv => ?_) (allP_of (fun p hp => ?_))
    · rw [splice_get cs ds k (by omega)] at hp
      have hv' : (c.toList.take k ++ (a.eval y).cells.toList ++ c.toList.drop (k + (a.eval y).cells.toList.length))[j]? = some v := by simpa using hv
      rw [hget j] at hv'
      split at hp
      · rename_i hj
        rw [if_pos hj] at hv'
        exact e3 _ p v hp hv'
      · rename_i hj
        rw [if_neg hj] at hv'
        exact b4 j p v hp hv'
    · unfold splice at hp
      rcases List.mem_append.1 hp with hp | hp
      · rcases List.mem_append.1 hp with hp | hp
        · obtain ⟨j, hj, rfl⟩ := List.getElem_of_mem (List.mem_of_mem_take hp)
          exact allP_get hwf (List.getElem?_eq_getElem hj)
        · obtain ⟨j, hj, rfl⟩ := List.getElem_of_mem hp
          exact allP_get e4 (List.getElem?_eq_getElem hj)
      · obtain ⟨j, hj, rfl⟩ := List.getElem_of_mem (List.mem_of_mem_drop hp)
        exact allP_get hwf (List.getElem?_eq_getElem hj)
  · exact k3.elim
theorem fill_fold (off : Nat) : ∀ (vs : List Value) (s : Nat) (cells : Array Value), off + s + vs.length ≤ cells.size →
    ((vs.zipIdx s).foldl (fun cs (c, j) => cs.setIfInBounds (off + j) c) cells).size = cells.size ∧
    ∀ m, ((vs.zipIdx s).foldl (fun cs (c, j) => cs.setIfInBounds (off + j) c) cells)[m]? = if off + s ≤ m ∧ m < off + s + vs.length then vs[m - (off + s)]? else cells[m]?
  | [], s, cells, _ => ⟨rfl, fun m => by rw [if_neg (by simp only [List.length_nil]; omega)]; rfl⟩
  | v :: r, s, cells, h => by
    simp only [List.zipIdx_cons, List.foldl_cons]
    obtain ⟨h1, h2⟩ := fill_fold off r (s + 1) (cells.setIfInBounds (off + s) v) (by simp at h ⊢; omega)
    refine ⟨by rw [h1]; simp, fun m => ?_⟩
    rw [h2 m]
    simp only [List.length_cons] at h ⊢
    by_cases hm : m = off + s
    · subst hm
      rw [if_neg (by omega), if_pos (by omega), Nat.sub_self, Array.getElem?_setIfInBounds_self_of_lt (by omega)]; rfl
    · by_cases hm2 : off + (s + 1) ≤ m ∧ m < off + (s + 1) + r.length
      · rw [if_pos hm2, if_pos (by omega), show m - (off + s) = (m - (off + (s + 1))) + 1 by omega]; simp
      · rw [if_neg hm2, if_neg (by omega), Array.getElem?_setIfInBounds_ne (by omega)]
theorem fill_step (place : Nat → Option (Nat × Nat)) (cells : Array Value) (i off n : Nat) (v : Value) (rest : List (Nat × Value)) (hp : place i = some (off, n)) (hv : v.cells.size = n) (ho : off + n ≤ cells.size) :
    ∃ cells', cells'.size = cells.size ∧ (∀ m, cells'[m]? = if off ≤ m ∧ m < off + n then v.cells[m - off]? else cells[m]?) ∧ Instr.fill place cells ((i, v) :: rest) = Instr.fill place cells' rest := by
  refine ⟨_, (fill_fold off v.cells.toList 0 cells (by simp; omega)).1, fun m => ?_, ?_⟩
  · rw [(fill_fold off v.cells.toList 0 cells (by simp; omega)).2 m]
    simp [hv]
  · conv => lhs; unfold Instr.fill
    rw [hp]
    simp only []
    rw [if_neg (by simp; omega)]
    congr 1
    rw [← Array.foldl_toList]
    simp
def CellsRep (F0 : Nat → Nat → Prop) (ow : Ow) (w : World) (cs : List PV) (c : Array Value) : Prop := cs.length = c.size ∧ ∀ (j : Nat) (p : PV) (v : Value), cs[j]? = some p → c[j]? = some v → v.oneCell' = true ∧ RepC (FF F0 ow) w p v
theorem flat_rep {p : PV} {v : Value} (h : RepT F0 B ow w σ p v) (hw : wfT σ p) (hc : p.cells.all cellable = true) : p.cells.length = v.cells.size ∧ CellsRep F0 ow w (p.cells.map PV.ro) v.cells := by
  obtain ⟨h1, h2, h3, _⟩ := cells_rep h hw hc rfl
  refine ⟨h2, by simp [h2], fun j q v' hq hv => ?_⟩
  rw [List.getElem?_map] at hq
  obtain ⟨q0, hq0, rfl⟩ := Option.map_eq_some_iff.1 hq
  have : p.flat[j]? = some (match p with | .ag _ => q0.ro | _ => q0.nb) := by
    cases p with
    | ag cs => simp only [PV.flat, List.getElem?_map]; simp only [PV.cells] at hq0; rw [hq0]; rfl
    | _ =>
      simp only [PV.cells] at hq0
      cases j with
      | zero => simp at hq0; subst hq0; rfl
      | succ j => simp at hq0
  obtain ⟨g1, g2, _⟩ := h3 j _ v' this hv
  refine ⟨g1, ?_⟩
  have e : ∀ q : PV, q.nb.ro = q.ro := fun q => by cases q <;> rfl
  have e2 : ∀ q : PV, q.ro.ro = q.ro := fun q => by cases q <;> rfl
  cases p with
  | ag cs => have := g2.ro; simp only [e2] at this; exact this
  | _ => have := g2.ro; simp only [e] at this; exact this
theorem fill_rep (fs : List (Nat × Bool × Nat)) (place : Nat → Option (Nat × Nat)) (hpl : ∀ i off ag n, fs[i]? = some (off, ag, n) → place i = some (off, n)) : ∀ (is : List Nat) (ps : List PV) (vs : List Value) (cs : List PV) (c : Array Value) (r : List PV),
    is.length = ps.length → RepL F0 B ow w σ ps vs → CellsRep F0 ow w cs c → fillP fs cs (is.zip ps) = some r → ∃ c', Instr.fill place c (is.zip vs) = some c' ∧ CellsRep F0 ow w r c'
  | [], [], [], cs, c, r, _, _, hc, h => by
    simp only [List.zip_nil_left, fillP] at h ⊢
    cases h
    exact ⟨c, rfl, hc⟩
  | i :: is, p :: ps, v :: vs, cs, c, r, hl, hp, hc, h => by
    simp only [List.zip_cons_cons] at h ⊢
    unfold fillP at h
    split at h
    · rename_i off ag n hf
      cases hb : Nat.beq p.cells.length n && Nat.ble (off + n) cs.length && p.cells.all cellable
      · rw [hb] at h; cases h
      rw [hb] at h
      simp only [cond_true] at h
      rw [Bool.and_eq_true, Bool.and_eq_true] at hb
      have b1 := Nat.eq_of_beq_eq_true hb.1.1
      have b2 := Nat.le_of_ble_eq_true hb.1.2
      obtain ⟨e1, e2, e3⟩ := flat_rep hp.1.1 hp.1.2 hb.2
      obtain ⟨c1, c2⟩ := hc
      obtain ⟨c', s1, s2, s3⟩ := fill_step place c i off n v (is.zip vs) (hpl _ _ _ _ hf) (by omega) (by omega)
      rw [s3]
      refine fill_rep fs place hpl is ps vs _ c' r (by simpa using hl) hp.2 ⟨?_, fun j q u hq hu => ?_⟩ h
      · unfold splice; simp; omega
      · rw [splice_get _ _ _ (by simp; omega)] at hq
        rw [s2 j] at hu
        simp only [List.length_map, b1] at hq
        split at hq
        · rename_i hj
          rw [if_pos hj] at hu
          exact e3 _ q u hq hu
        · rename_i hj
          rw [if_neg hj] at hu
          exact c2 j q u hq hu
    · cases h
  | [], _ :: _, vs, cs, c, r, hl, _, _, _ => by simp at hl
  | _ :: _, [], vs, cs, c, r, hl, _, _, _ => by simp at hl
  | [], [], _ :: _, cs, c, r, _, hp, _, _ => hp.elim
  | _ :: _, _ :: _, [], cs, c, r, _, hp, _, _ => hp.elim
theorem places_map : ∀ (fs : List Field) (out : List (Nat × Bool × Nat)), fs.length = out.length → (∀ (i : Nat) (x : Nat × Bool × Nat), out[i]? = some x → ∃ fd ti, fs[i]? = some fd ∧ fd.offset = x.1 ∧ P.info? fd.type = some ti ∧ ti.size = x.2.2) →
    fs.mapM (fun f => (P.info? f.type).map fun i => (f.offset, i.size)) = some (out.map fun x => (x.1, x.2.2))
  | [], [], _, _ => rfl
  | f :: fs, x :: out, hl, h => by
    obtain ⟨fd, ti, h1, h2, h3, h4⟩ := h 0 x rfl
    cases h1
    have ih := places_map fs out (by simpa using hl) (fun i x hi => by simpa using h (i + 1) x (by simpa using hi))
    rw [List.mapM_cons, h3, ih]
    simp [h2, h4]
  | [], _ :: _, hl, _ => by simp at hl
  | _ :: _, [], hl, _ => by simp at hl
theorem zero_rep {t : Nat} {i : TyI} {z : Value} (hT : TyOk P t i) (hz : z.cells.toList = i.zero) : CellsRep F0 ow w (i.zero.map cellPV) z.cells := by
  refine ⟨by rw [List.length_map, ← hz]; simp, fun j p v hp hv => ?_⟩
  rw [List.getElem?_map, ← hz] at hp
  have hv2 : z.cells.toList[j]? = some v := by simpa using hv
  rw [hv2] at hp
  cases hp
  exact ⟨hT.one v (hz ▸ List.mem_of_getElem? hv2), cellPV_rep v⟩
theorem sim_build {t : TypeId} {ps : Array (Nat × Operand)} (hT : TabOk P T) (ho : o.op = .build t ps) (hI : InvO F0 B nt w0 ow σ a w) (hd : ∀ d, o.dst = some d → d < nt) (h : (opA P T o).run PC σ K) : o.wp P a w (Sim F0 B nt w0 σ K) Q := by
  unfold opA at h
  rw [ho] at h
  dsimp only at h
  split at h
  · rename_i fs n by_ zero ht
    have hti := hT _ _ ht
    obtain ⟨fields, hu, hfl⟩ : ∃ fields, P.underlying t = some (.struct fields) ∧ fields.size = fs.length := by
      obtain ⟨d, h1, h2⟩ := hti.und
      obtain ⟨fields, rfl, h3, _⟩ := h2
      exact ⟨fields, h1, h3⟩
    obtain ⟨fields', hu', hf⟩ := fldOk hT ht rfl
    obtain rfl : fields' = fields := by rw [hu] at hu'; cases hu'; rfl
    obtain ⟨ti, z, i1, i2, i3, i4, i5⟩ := hti.info
    obtain ⟨vs, R0, h1, h3⟩ := evOs_inv hI _ _ _ h
    cases hfill : fillP fs (zero.map cellPV) ((ps.toList.map (·.1)).zip vs) with
    | none => rw [hfill] at h3; exact h3.elim
    | some r =>
      rw [hfill] at h3
      have hpl := places_map (P := P) fields'.toList fs (by simpa using hfl) (fun i x hx => by
        obtain ⟨fd, f1, f2, ⟨ti, f3, f4, _⟩, _⟩ := hf i x.1 x.2.1 x.2.2 hx
        exact ⟨fd, ti, by simpa using f1, f2, f3, f4⟩)
      have hlen : (ps.toList.map (·.1)).length = vs.length := by
        have : ∀ (ps : List PV) (vs : List Value), RepL F0 B ow w σ ps vs → ps.length = vs.length := by
          intro ps
          induction ps with
          | nil => intro vs h; cases vs with | nil => rfl | cons => exact h.elim
          | cons p r ih => intro vs h; cases vs with | nil => exact h.elim | cons v q => simp [ih q h.2]
        have := this _ _ h1
        simp at this ⊢
        omega
      obtain ⟨c', hc', hcr⟩ := fill_rep (B := B) (σ := σ) fs ((fs.map fun x => (x.1, x.2.2)).toArray[·]?) (fun i off ag n hi => by simp [hi]) (ps.toList.map (·.1)) vs _ _ _ r hlen h1 (zero_rep hti i5) hfill
      have hzip : (ps.toList.map (·.1)).zip ((ps.toList.map (·.2)).map a.eval) = (ps.map fun (i, x) => (i, a.eval x)).toList := by
        rw [List.map_map, List.zip_map', Array.toList_map]; rfl
      have hb : P.built t (ps.map fun (i, x) => (i, a.eval x)).toList = some c' := by
        unfold Program.built
        rw [i1, hu]
        simp only [i4, hpl]
        rw [← hzip]
        exact hc'
      refine sim_plain (PC := PC) (p := .ag r) hI hd (v := .agg c') ?_ rfl (.ag _ _ hcr.1 (fun v hv => ?_) (fun j p v hp hv => (hcr.2 j p v hp hv).2)) h3
      · unfold execOp; rw [ho]; simp only [Sem.run_bind, run_build w t _ c' hb, Result.andThen_ok]; rfl
      · obtain ⟨j, hj, hjv⟩ := List.getElem_of_mem hv
        have hj' : j < r.length := by rw [hcr.1]; simpa using hj
        exact (hcr.2 j r[j] v (List.getElem?_eq_getElem hj') (by rw [← hjv]; simp)).1
  · exact h.elim
theorem fill_row (size : Nat) : ∀ (ps : List PV) (vs : List Value) (m : Nat) (c : Array Value), RepL F0 B ow w σ ps vs → (∀ p ∈ ps, p.cells.length = size ∧ p.cells.all cellable = true) → (m + ps.length) * size ≤ c.size →
    ∃ c', Instr.fill (fun i => some (i * size, size)) c ((List.range' m ps.length).zip vs) = some c' ∧ c'.size = c.size ∧ (∀ j, j < m * size → c'[j]? = c[j]?) ∧
      ∀ (i j : Nat) (p q : PV), ps[i]? = some p → (p.cells.map PV.ro)[j]? = some q → ∃ v, c'[(m + i) * size + j]? = some v ∧ v.oneCell' = true ∧ RepC (FF F0 ow) w q v
  | [], [], m, c, _, _, _ => ⟨c, rfl, rfl, fun _ _ => rfl, fun i j p q h => by simp at h⟩
  | p :: ps, v :: vs, m, c, hp, hs, hl => by
    simp only [List.length_cons, List.range'_succ, List.zip_cons_cons]
    obtain ⟨e1, e2, e3⟩ := flat_rep hp.1.1 hp.1.2 (hs p (by simp)).2
    have hpl := (hs p (by simp)).1
    have hle : m * size + size ≤ c.size := by
      have : (m + 1) * size ≤ (m + (p :: ps).length) * size := Nat.mul_le_mul_right _ (by simp)
      rw [Nat.add_mul, Nat.one_mul] at this
      omega
    obtain ⟨c1, s1, s2, s3⟩ := fill_step (fun i => some (i * size, size)) c m (m * size) size v ((List.range' (m + 1) ps.length).zip vs) rfl (by omega) hle
    rw [s3]
    obtain ⟨c', t1, t2, t3, t4⟩ := fill_row size ps vs (m + 1) c1 hp.2 (fun q hq => hs q (by simp [hq])) (by rw [s1]; simpa [Nat.add_assoc, Nat.add_comm 1] using hl)
    refine ⟨c', t1, by rw [t2, s1], fun j hj => ?_, fun i j p' q hi hq => ?_⟩
    · rw [t3 j (by rw [Nat.add_mul]; omega), s2 j, if_neg (by omega)]
    · cases i with
      | zero =>
        simp at hi
        subst hi
        have hj : j < size := by have := (List.getElem?_eq_some_iff.1 hq).1; simp at this; omega
        have hj2 : j < v.cells.size := by omega
        refine ⟨v.cells[j], ?_, e3 j q _ hq (Array.getElem?_eq_getElem hj2)⟩
        rw [Nat.add_zero, t3 _ (by rw [Nat.add_mul]; omega), s2, if_pos (by omega), show m * size + j - m * size = j by omega]
        exact Array.getElem?_eq_getElem hj2
      | succ i =>
        obtain ⟨u, u1, u2⟩ := t4 i j p' q (by simpa using hi) hq
        exact ⟨u, by rw [show m + (i + 1) = m + 1 + i by omega]; exact u1, u2⟩
  | [], _ :: _, _, _, h, _, _ => h.elim
  | _ :: _, [], _, _, h, _, _ => h.elim
theorem RepL.len : ∀ {ps : List PV} {vs : List Value}, RepL F0 B ow w σ ps vs → ps.length = vs.length
  | [], [], _ => rfl
  | _ :: _, _ :: _, h => by simp [RepL.len h.2]
  | [], _ :: _, h => h.elim
  | _ :: _, [], h => h.elim
theorem elem_cells {p : PV} (h : p.cells.all cellable = true) : p.elem.cells = p.cells.map PV.ro := by
  cases p <;> first | rfl | simp [PV.cells, cellable] at h
theorem sim_buildSlice {t : TypeId} {n : Nat} {ps : Array (Nat × Operand)} (hT : TabOk P T) (ho : o.op = .buildSlice t n ps) (hI : InvO F0 B nt w0 ow σ a w) (hd : ∀ d, o.dst = some d → d < nt) (h : (opA P T o).run PC σ K) : o.wp P a w (Sim F0 B nt w0 σ K) Q := by
  unfold opA at h
  rw [ho] at h
  dsimp only at h
  split at h
  · rename_i e n' by_ zz ht
    obtain ⟨d, hu, hk⟩ := (hT _ _ ht).und
    obtain rfl : d = .slice e := hk
    split at h
    · rename_i ie hte
      have hti := hT _ _ hte
      cases hb : (ps.toList.map (·.1)) == List.range n && Nat.ble (n * ie.size) 16777216
      · rw [hb] at h; exact h.elim
      rw [hb] at h
      simp only [cond_true] at h
      rw [Bool.and_eq_true] at hb
      have hrg : ps.toList.map (·.1) = List.range n := by simpa using hb.1
      have hlim := Nat.le_of_ble_eq_true hb.2
      obtain ⟨vs, R0, h1, h3⟩ := evOs_inv hI _ _ _ h
      cases hall : vs.all (fun v => Nat.beq v.cells.length ie.size && v.cells.all cellable)
      · rw [hall] at h3; exact h3.elim
      rw [hall] at h3
      simp only [cond_true] at h3
      have hvs : ∀ p ∈ vs, p.cells.length = ie.size ∧ p.cells.all cellable = true := fun p hp => by
        have := List.all_eq_true.1 hall p hp
        rw [Bool.and_eq_true] at this
        exact ⟨Nat.eq_of_beq_eq_true this.1, this.2⟩
      have hn : vs.length = n := by
        have e1 := h1.len
        have e2 : (ps.toList.map (·.1)).length = n := by rw [hrg]; simp
        simp at e1 e2
        omega
      obtain ⟨ti, z, i1, i2, i3, i4, i5⟩ := hti.info
      have hz : z.cells.size = ie.size := by
        have e1 : z.cells.toList.length = ie.size := by rw [i5, hti.len]
        simpa using e1
      obtain ⟨zero, hz1, hz2⟩ : ∃ zero : Array Value, (n * ie.size = 0 → zero = #[]) ∧ (n * ie.size ≠ 0 → zero = z.cells) := by
        by_cases hz0 : n * ie.size = 0
        · exact ⟨#[], fun _ => rfl, fun h => absurd hz0 h⟩
        · exact ⟨z.cells, fun h => absurd h hz0, fun _ => rfl⟩
      obtain ⟨c', f1, f2, f3, f4⟩ := fill_row ie.size vs _ 0 ((Array.range (n * ie.size)).map (zero[· % zero.size]!)) h1 hvs (by simp [hn])
      have hzip : (List.range' 0 vs.length).zip ((ps.toList.map (·.2)).map a.eval) = (ps.map fun (i, x) => (i, a.eval x)).toList := by
        rw [hn, ← List.range_eq_range', ← hrg, List.map_map, List.zip_map', Array.toList_map]; rfl
      rw [hzip] at f1
      have hrun : (execOp a.eval o).run P w = .ok (.value (.slice (some ⟨w.heap.size, 0, none⟩) n n)) (w.alloc (.cells c' e (0, 0))) := by
        unfold execOp; rw [ho]
        have hlim' : ¬ n * ie.size > 2 ^ 24 := by simp; omega
        have e2 : (ps.map fun (i, x) => (i, a.eval x)) = (ps.map fun x => (x.1, a.eval x.2)) := rfl
        rw [e2] at f1
        by_cases hz0 : n * ie.size = 0
        · rw [hz1 hz0] at f1
          simp only [Instr.buildSlice, Sem.run_bind, run_underlying hu, Result.andThen_ok, sizeOf_run hti, if_neg hlim', if_pos hz0, Sem.run_pure, f1]
          simp [newRow]
        · rw [hz2 hz0] at f1
          have hzv : (zeroValue e).run P w = .ok z w := by simp [zeroValue, typeInfo, i1, i4]
          simp only [Instr.buildSlice, Sem.run_bind, run_underlying hu, Result.andThen_ok, sizeOf_run hti, if_neg hlim', if_neg hz0, Sem.run_pure, hzv, f1]
          simp [newRow]
      have he := ext_alloc w (.cells c' e (0, 0))
      have hI2 := hI.ext he
      simp only [Ev.put, AM.run, forceW_eq] at h3
      refine wp_value hrun ⟨_, _, h3, ow, hI2.put hd (p := .sl 1 ie.size (vs.map PV.elem)) ⟨?_, some ⟨w.heap.size, 0, none⟩, by simp [hn]⟩ trivial⟩
      have hgetc : ∀ k, (w.alloc (.cells c' e (0, 0))).cell? ⟨w.heap.size, k, none⟩ = c'[k]? := fun k => cell_of_row _ _ _ _ _ _ (heap_alloc_new w _)
      have hlen : n = (vs.map PV.elem).length := by simp [hn]
      have key : ∀ i j, i < n → j < ie.size → ∃ q v, ((vs.map PV.elem)[i]?.bind fun x => x.cells[j]?) = some q ∧ c'[i * ie.size + j]? = some v ∧ v.oneCell' = true ∧ RepC (FF F0 ow) w q v := fun i j hi hj => by
        have hi' : i < vs.length := by omega
        have hvi := hvs vs[i] (List.getElem_mem hi')
        have hcl : (vs[i].cells.map PV.ro).length = ie.size := by rw [List.length_map, hvi.1]
        have hq : (vs[i].cells.map PV.ro)[j]? = some ((vs[i].cells.map PV.ro)[j]'(by omega)) := List.getElem?_eq_getElem (by omega)
        obtain ⟨v, v1, v2, v3⟩ := f4 i j vs[i] _ (List.getElem?_eq_getElem hi') hq
        refine ⟨_, v, ?_, by rw [Nat.zero_add] at v1; exact v1, v2, v3⟩
        rw [List.getElem?_map, List.getElem?_eq_getElem hi']
        simp only [Option.map_some, Option.bind_some, elem_cells hvi.2, hq]
      have hsl : ∀ k, k = n → RepC (FF F0 ow) (w.alloc (.cells c' e (0, 0))) (.sl 1 ie.size (vs.map PV.elem)) (.slice (some ⟨w.heap.size, 0, none⟩) (vs.map PV.elem).length k) := fun k hk => by
        refine .sl 1 ie.size _ w.heap.size 0 k (fun i j => (c'[i * ie.size + j]?).getD undef) (by simp; omega) (fun x hx => ?_) (fun i j hi hj => ?_) (fun i x j p hx hp => ?_)
        · obtain ⟨y, hy, rfl⟩ := List.mem_map.1 hx
          rw [elem_cells (hvs y hy).2, List.length_map, (hvs y hy).1]
        · obtain ⟨q, v, q1, q2, q3, q4⟩ := key i j (by omega) hj
          rw [Nat.zero_add, hgetc, q2]
          exact ⟨rfl, ⟨hI.newF _ _ hI.lowW, fun c l hcl => absurd (hI.owB _ _ _ hcl).2 (by omega)⟩, q3⟩
        · have hi : i < n := by have := (List.getElem?_eq_some_iff.1 hx).1; omega
          have hj : j < ie.size := by
            have h1 := (List.getElem?_eq_some_iff.1 hp).1
            obtain ⟨y, hy, rfl⟩ := List.mem_map.1 (List.mem_of_getElem? hx)
            rw [elem_cells (hvs y hy).2, List.length_map, (hvs y hy).1] at h1
            exact h1
          obtain ⟨q, v, q1, q2, q3, q4⟩ := key i j hi hj
          rw [hx] at q1
          simp only [Option.bind_some, hp] at q1
          cases q1
          rw [q2]
          exact q4.ext he (fun _ _ => rfl)
      have := hsl n rfl
      rw [← hlen] at this
      exact this
    · exact h.elim
  · exact h.elim
end
section
variable {P : Program} {B nt : Nat} {w0 w w' : World} {F0 : Nat → Nat → Prop} {ow ow' : Ow} {σ : St} {a : Act}
theorem InvO.tok (hI : InvO F0 B nt w0 ow σ a w) {t N z : Nat} (hN : ∀ n z0, σ (3 * t + 2) = .fr n z0 → n ≤ N) (hbel : Below B w w')
    (hrep : ∀ p v, RepC (FF F0 ow) w p v → RepC (FF F0 ow') w' p v) (hown : ∀ p v, tokOk σ p → Own B ow w σ p v → Own B ow' w' (ap [(3 * t + 2, .fr N z)] σ) p v)
    (howB : ∀ b c l, ow' b = some (c, l) → B ≤ b ∧ b < w'.heap.size) (hev : ∀ b s l, ow' b = some (2 * s, l) ↔ ow b = some (2 * s, l)) (hheap : ∀ b s l, ow b = some (2 * s, l) → w'.heap[b]? = w.heap[b]?) :
    InvO F0 B nt w0 ow' (ap [(3 * t + 2, .fr N z)] σ) a w' := by
  have hb1 : ∀ k, ap [(3 * t + 2, PV.fr N z)] σ (3 * k + 1) = σ (3 * k + 1) := fun k => ap1_ne _ _ (by omega)
  have hs1 : ∀ k, ap [(3 * t + 2, PV.fr N z)] σ (3 * k) = σ (3 * k) := fun k => ap1_ne _ _ (by omega)
  have htok : ∀ p, tokOk σ p → tokOk (ap [(3 * t + 2, PV.fr N z)] σ) p := fun p hp => by
    unfold tokOk at *
    split at hp
    · rename_i k z' xs
      by_cases hk : k = t
      · subst hk
        rw [ap1_self]
        split at hp
        · rename_i n z0 hn
          exact Nat.le_trans hp (hN n z0 hn)
        · exact hp.elim
      · rw [ap1_ne _ _ (by omega)]; exact hp
    · trivial
  refine ⟨hI.defers, hI.size, hI.low, hI.newF, hI.below.trans hbel, fun s => ?_, fun b s l h => ?_, fun b b' s l l' h h' => hI.uniq b b' s l l' ((hev _ _ _).1 h) ((hev _ _ _).1 h'), howB, fun l => ?_⟩
  · rw [hs1]
    have h := hI.tms s
    have hw := hI.wf (3 * s)
    cases hp : σ (3 * s) with
    | pt t' o =>
      rw [hp] at h
      obtain ⟨b, h1, h2⟩ := h
      exact ⟨b, (hev _ _ _).2 h1, h2⟩
    | tu ps =>
      rw [hp] at h hw
      exact ⟨hrep _ _ h.1, fun vs i p u h1 h2 h3 => hown _ _ (allP_get hw h2) (h.2 vs i p u h1 h2 h3)⟩
    | sl k z xs => rw [hp] at h hw; exact ⟨hrep _ _ h.1, hown _ _ hw h.2⟩
    | s x => rw [hp] at h; exact ⟨hrep _ _ h.1, trivial⟩
    | tt => rw [hp] at h; exact ⟨hrep _ _ h.1, trivial⟩
    | ff => rw [hp] at h; exact ⟨hrep _ _ h.1, trivial⟩
    | ag cs => rw [hp] at h; exact ⟨hrep _ _ h.1, trivial⟩
    | rp cs => rw [hp] at h; exact ⟨hrep _ _ h.1, trivial⟩
    | fr n z => rw [hp] at h; exact ⟨hrep _ _ h.1, trivial⟩
    | any => rw [hp] at h; exact ⟨hrep _ _ h.1, trivial⟩
  · obtain ⟨e, cs, c, T, k1, k2, k3, k4⟩ := hI.boxes b s l ((hev _ _ _).1 h)
    have hwf := hI.wf (3 * s + 1)
    rw [k1] at hwf
    simp only [wf1, mod_box, cond_true] at hwf
    exact ⟨e, cs, c, T, (hb1 s).trans k1, (hheap b s l ((hev _ _ _).1 h)).trans k2, k3, fun j p v x y => ⟨(k4 j p v x y).1, hrep _ _ (k4 j p v x y).2.1, hown _ _ (allP_get hwf x) (k4 j p v x y).2.2⟩⟩
  · by_cases hl : l = 3 * t + 2
    · subst hl
      rw [ap1_self]; trivial
    · rw [ap1_ne _ _ hl]
      have h := hI.wf l
      unfold wf1 at *
      split at h
      · rw [hb1]; exact h
      · exact allP_mono htok _ h
      · cases hq : Nat.beq (l % 3) 1
        · trivial
        · rw [hq] at h; exact allP_mono htok _ h
      · exact htok _ h
theorem RepC.parts {F : Nat → Nat → Prop} {k z : Nat} {xs : List PV} {v : Value} (h : RepC F w (.sl k z xs) v) : (v = .slice none 0 0 ∧ xs = []) ∨ (∃ a cap, v = .slice (some a) 0 cap ∧ xs = []) ∨ ∃ (b o cap : Nat) (u : Nat → Nat → Value), v = .slice (some ⟨b, o, none⟩) xs.length cap ∧ xs.length ≤ cap ∧ (∀ x ∈ xs, x.cells.length = z) ∧
    (∀ i j, i < xs.length → j < z → w.cell? ⟨b, o + i * z + j, none⟩ = some (u i j) ∧ F b (o + i * z + j) ∧ (u i j).oneCell' = true) ∧ ∀ (i : Nat) (x : PV) (j : Nat) (p : PV), xs[i]? = some x → x.cells[j]? = some p → RepC F w p (u i j) := by
  cases h with
  | nil => exact Or.inl ⟨rfl, rfl⟩
  | emp k z a cap => exact Or.inr (Or.inl ⟨a, cap, rfl, rfl⟩)
  | sl k z xs b o cap u hc hz hcell hh => exact Or.inr (Or.inr ⟨b, o, cap, u, rfl, hc, hz, hcell, hh⟩)
def rowOf (n z : Nat) (u : Nat → Nat → Value) : List Value := (List.range (n * z)).map fun q => u (q / z) (q % z)
theorem rowOf_get {n z : Nat} {u : Nat → Nat → Value} {q : Nat} {v : Value} (h : (rowOf n z u)[q]? = some v) : 0 < z ∧ q / z < n ∧ q % z < z ∧ q / z * z + q % z = q ∧ v = u (q / z) (q % z) := by
  have hq : q < n * z := by have := (List.getElem?_eq_some_iff.1 h).1; simpa [rowOf] using this
  have hz : 0 < z := Nat.pos_of_ne_zero (fun e => by subst e; simp at hq)
  refine ⟨hz, (Nat.div_lt_iff_lt_mul hz).2 hq, Nat.mod_lt _ hz, by rw [Nat.mul_comm]; exact Nat.div_add_mod q z, ?_⟩
  simp [rowOf, hq] at h
  exact h.symm
theorem rowOf_at {n z : Nat} {u : Nat → Nat → Value} {i j : Nat} (hi : i < n) (hj : j < z) : (rowOf n z u)[i * z + j]? = some (u i j) := by
  have hlt : i * z + j < n * z := by
    have : (i + 1) * z ≤ n * z := Nat.mul_le_mul_right _ hi
    rw [Nat.add_mul, Nat.one_mul] at this
    omega
  have h1 : (i * z + j) / z = i := by rw [Nat.add_comm, Nat.add_mul_div_right _ _ (by omega), Nat.div_eq_of_lt hj, Nat.zero_add]
  have h2 : (i * z + j) % z = j := by rw [Nat.add_comm, Nat.add_mul_mod_self_right, Nat.mod_eq_of_lt hj]
  simp [rowOf, hlt, h1, h2]
theorem rowOf_len (n z : Nat) (u : Nat → Nat → Value) : (rowOf n z u).length = n * z := by simp [rowOf]
theorem run_append_zero {t t' ty e : TypeId} (ht : P.underlying t = some (.slice e)) (ht' : ∃ e', P.underlying t' = some (.slice e')) {size : Nat} (hs : ∀ w : World, (sizeOf e).run P w = .ok size w) (A : Option Addr) (n c : Nat) (hnc : n ≤ c) (A' : Option Addr) (c' : Nat) :
    (Builtin.append_ #[t, t'] ty #[.slice A n c, .slice A' 0 c']).run P w = .ok (.slice A n c) w := by
  obtain ⟨e', ht'⟩ := ht'
  have hfc : (Builtin.firstCells size 0 (.slice A' 0 c')).run P w = .ok #[] w := by
    cases A' with
    | none => simp [Builtin.firstCells]
    | some b => simp [Builtin.firstCells, loadCells, loadCellsFrom]
  cases A <;> simp [Builtin.append_, run_underlying ht, run_underlying ht', hs, Builtin.lenOf, hnc, hfc, storeCells]
theorem run_append_roomE {t ty e e' : TypeId} {i : TypeInfo} (ht : P.underlying t = some (.slice e)) (hi : P.info? e = some i)
    (g sLen sCap : Nat) (cur : Array Value) (hg : w.heap[g]? = some (.cells cur e' (0, 0)))
    (a : Addr) (m c : Nat) (news : List Value) (hl : news.length = m * i.size) (hnews : ∀ j u, news[j]? = some u → w.cell? (a.add j) = some u) (h1 : ∀ u ∈ news, u.oneCell' = true)
    (hroom : sLen + m ≤ sCap) (hfit : sLen * i.size + news.length ≤ cur.size) :
    (Builtin.append_ #[t, t] ty #[.slice (some ⟨g, 0, none⟩) sLen sCap, .slice (some a) m c]).run P w =
      .ok (.slice (some ⟨g, 0, none⟩) (sLen + m) sCap) (w.setRow g (cur.toList.take (sLen * i.size) ++ news ++ cur.toList.drop (sLen * i.size + news.length)).toArray) := by
  have hf := run_firstCells_some (P := P) w i.size m a m c news hl hnews
  have hst := run_storeCells_at P g (sLen * i.size) e' news 0 cur w hg (by simpa using hfit) h1
  simp only [Nat.add_zero] at hst
  simp [Builtin.append_, run_underlying ht, sizeOf, typeInfo, hi, Builtin.lenOf, hroom, hf, Addr.add_lit, hst]
theorem Own.tok {t N z : Nat} {p : PV} {v : Value} (h : Own B ow w σ p v) (hp : tokOk σ p) (hlt : ∀ n z0, σ (3 * t + 2) = .fr n z0 → n < N) : Own B ow w (ap [(3 * t + 2, .fr N z)] σ) p v := by
  unfold Own at *
  split at h
  · exact h
  · rename_i k z' xs
    intro z1 hz1
    by_cases hk : k = t
    · subst hk
      rw [ap1_self] at hz1
      injection hz1 with e1 e2
      unfold tokOk at hp
      split at hp
      · rename_i hq
        cases hq
        split at hp
        · rename_i n z0 hn
          have := hlt n z0 hn
          omega
        · exact hp.elim
      · rename_i hq; exact absurd rfl (hq _ _ _)
    · rw [ap1_ne _ _ (by omega)] at hz1
      exact h z1 hz1
  · trivial
theorem rep_row {F : Nat → Nat → Prop} {b e size N k : Nat} {v : Value} {cells : List Value} {xs : List PV} (hown : w.ownsRow b e size v N cells) (hN : N = xs.length) (hz : ∀ x ∈ xs, x.cells.length = size) (f : Nat → Nat → Value)
    (hc : ∀ i j, i < N → j < size → cells[i * size + j]? = some (f i j) ∧ (f i j).oneCell' = true) (hF : ∀ g, v.ownBlock = some g → ∀ o, o < N * size → F g o)
    (hrep : ∀ (i : Nat) (x : PV) (j : Nat) (p : PV), xs[i]? = some x → x.cells[j]? = some p → RepC F w p (f i j)) : RepC F w (.sl k size xs) v := by
  subst hN
  rcases hown.2 with ⟨rfl, h0⟩ | ⟨g, cap, cur, rfl, hb, hg, hnc, hcm, hcs, htake⟩
  · obtain rfl := List.eq_nil_of_length_eq_zero h0
    exact .nil _ _
  · refine .sl k size xs g 0 cap f hnc hz (fun i j hi hj => ?_) hrep
    obtain ⟨h1, h2⟩ := hc i j hi hj
    have := hown.cells (g := g) rfl (i * size + j) _ h1
    rw [Addr.add_lit] at this
    refine ⟨by rw [Nat.zero_add] at this ⊢; exact this, hF g rfl _ ?_, h2⟩
    have : (i + 1) * size ≤ xs.length * size := Nat.mul_le_mul_right _ hi
    rw [Nat.add_mul, Nat.one_mul] at this
    omega
theorem InvO.grow (hI : InvO F0 B nt w0 ow σ a w) {t N e size : Nat} {v' : Value} {cells : List Value} (hlt : ∀ n z0, σ (3 * t + 2) = .fr n z0 → n < N) (hown : w'.ownsRow w.heap.size e size v' N cells) (he : Ext w w') :
    ∃ ow', InvO F0 B nt w0 ow' (ap [(3 * t + 2, .fr N size)] σ) a w' ∧ (∀ b, b < w.heap.size → ow' b = ow b) ∧ ∀ g, v'.ownBlock = some g → ow' g = some (2 * t + 1, N * size) := by
  have hge : ∀ g, v'.ownBlock = some g → w.heap.size ≤ g ∧ g < w'.heap.size := fun g hg => hown.lt g hg
  have hob : ∀ b, b < w.heap.size → (fun b => if v'.ownBlock = some b then some (2 * t + 1, N * size) else ow b) b = ow b := fun b hb => if_neg (fun e => by have := (hge b e).1; omega)
  refine ⟨fun b => if v'.ownBlock = some b then some (2 * t + 1, N * size) else ow b, hI.tok (fun n z0 h => Nat.le_of_lt (hlt n z0 h)) (he.below hI.lowW) (fun p v h => h.ext he hob) (fun p v hp h => (h.tok hp hlt).ext he hob) (fun b c l h => ?_) (fun b s l => ?_) (fun b s l h => he.block b (hI.owB b _ l h).2), hob, fun g hg => if_pos hg⟩
  · by_cases hg : v'.ownBlock = some b
    · exact ⟨by have := hI.lowW; have := (hge b hg).1; omega, (hge b hg).2⟩
    · simp only [if_neg hg] at h
      exact ⟨(hI.owB b c l h).1, Nat.lt_of_lt_of_le (hI.owB b c l h).2 he.size⟩
  · by_cases hg : v'.ownBlock = some b
    · simp only [if_pos hg]
      constructor
      · intro h
        injection h with h
        injection h with h1 _
        omega
      · intro h
        have := (hI.owB b _ l h).2
        have := (hge b hg).1
        omega
    · simp only [if_neg hg]
theorem InvO.room (hI : InvO F0 B nt w0 ow σ a w) {t N n size g : Nat} {cur cur' : Array Value} {e' : TypeId} (hlt : ∀ n z0, σ (3 * t + 2) = .fr n z0 → n < N) (hg : ow g = some (2 * t + 1, n * size)) (hnN : n ≤ N) (h0 : w.heap[g]? = some (.cells cur e' (0, 0))) (hpre : ∀ j, j < n * size → cur'[j]? = cur[j]?) :
    ∃ ow', InvO F0 B nt w0 ow' (ap [(3 * t + 2, .fr N size)] σ) a (w.setRow g cur') ∧ (∀ p v, RepC (FF F0 ow) w p v → RepC (FF F0 ow') (w.setRow g cur') p v) ∧ ow' g = some (2 * t + 1, N * size) := by
  have hmul : n * size ≤ N * size := Nat.mul_le_mul_right _ hnN
  have hrep : ∀ p v, RepC (FF F0 ow) w p v → RepC (FF F0 fun b => if b = g then some (2 * t + 1, N * size) else ow b) (w.setRow g cur') p v := fun p v h => h.mono fun b o u hc hf => by
    by_cases hbg : b = g
    · subst hbg
      have hlo := hf.2 _ _ hg
      refine ⟨?_, hf.1, fun c l hcl => ?_⟩
      · rw [cell_setRow_same w b o cur cur' e' (0, 0) h0, hpre o hlo, ← cell_of_row w b o cur e' (0, 0) h0]; exact hc
      · simp only [if_true] at hcl
        injection hcl with hcl
        injection hcl with _ h2
        omega
    · exact ⟨by rw [cell_setRow_other w g cur' ⟨b, o, none⟩ hbg]; exact hc, hf.1, fun c l hcl => hf.2 c l (by simpa [hbg] using hcl)⟩
  refine ⟨fun b => if b = g then some (2 * t + 1, N * size) else ow b, hI.tok (fun n z0 h => Nat.le_of_lt (hlt n z0 h)) ⟨rfl, rfl, rfl, by simp, fun k hk => setRow_other w g k cur' (by have := (hI.owB g _ _ hg).1; omega)⟩ hrep (fun p v hp h => ?_) (fun b c l h => ?_) (fun b s l => ?_) (fun b s l h => ?_), hrep, if_pos rfl⟩
  · have h2 := h.tok (z := size) hp hlt
    unfold Own at *
    split at h2
    · exact h2
    · rename_i k z' xs
      intro z1 hz1
      rcases h2 z1 hz1 with h2 | ⟨e, cells, h3, h4⟩
      · exact Or.inl h2
      · by_cases hk : k = t
        · subst hk
          rw [ap1_self] at hz1
          injection hz1 with q1 q2
          unfold tokOk at hp
          split at hp
          · rename_i hq
            cases hq
            split at hp
            · rename_i n z0 hn
              have := hlt n z0 hn
              omega
            · exact hp.elim
          · rename_i hq; exact absurd rfl (hq _ _ _)
        · refine Or.inr ⟨e, cells, ⟨h3.1, ?_⟩, fun g' hg' => ?_⟩
          · rcases h3.2 with hn | ⟨g', cap, cur2, rfl, hb, hgg, rest⟩
            · exact Or.inl hn
            · refine Or.inr ⟨g', cap, cur2, rfl, hb, ?_, rest⟩
              have hne : g' ≠ g := fun e => by
                subst e
                have := h4 g' rfl
                rw [hg] at this
                injection this with this
                injection this with this _
                omega
              rw [setRow_other w g g' cur' hne]; exact hgg
          · have h5 := h4 g' hg'
            by_cases he : g' = g
            · subst he
              rw [hg] at h5
              injection h5 with h5
              injection h5 with h5 _
              omega
            · simp only [if_neg he]; exact h5
    · trivial
  · rw [setRow_size]
    by_cases hb : b = g
    · subst hb; exact hI.owB b _ _ hg
    · simp only [if_neg hb] at h; exact hI.owB b c l h
  · by_cases hb : b = g
    · subst hb
      simp only [if_true]
      rw [hg]
      constructor
      · intro h; injection h with h; injection h with h _; omega
      · intro h; injection h with h; injection h with h _; omega
    · simp only [if_neg hb]
  · have hb : b ≠ g := fun e => by
      subst e
      rw [hg] at h; injection h with h; injection h with h _; omega
    exact setRow_other w g b cur' hb
end
section
variable {P : Program} {T : Tab} {PC : Orc} {Q : Exit → Act → World → Prop} {o : Oper} {a : Act} {w : World} {B nt : Nat} {w0 : World} {F0 : Nat → Nat → Prop} {ow : Ow} {σ : St} {K : List Nat → List (Nat × PV) → Prop}
theorem grownBy_ext {w w' : World} (h : w.grownBy w' none) : Ext w w' := ⟨h.os, h.tape, h.output, h.size, fun k hk => h.block k hk (by simp)⟩
theorem row_append {n m z : Nat} {u u' : Nat → Nat → Value} : rowOf n z u ++ rowOf m z u' = rowOf (n + m) z fun i j => if i < n then u i j else u' (i - n) j := by
  apply List.ext_getElem?
  intro q
  by_cases hz : z = 0
  · subst hz; simp [rowOf]
  have hzp : 0 < z := Nat.pos_of_ne_zero hz
  by_cases hq : q < n * z
  · rw [List.getElem?_append_left (by rw [rowOf_len]; exact hq)]
    have hq2 : q < (n + m) * z := by rw [Nat.add_mul]; omega
    have : q / z < n := (Nat.div_lt_iff_lt_mul hzp).2 hq
    simp [rowOf, hq, hq2, this]
  · rw [List.getElem?_append_right (by rw [rowOf_len]; omega), rowOf_len]
    by_cases hq2 : q < (n + m) * z
    · have hq3 : q - n * z < m * z := by rw [Nat.add_mul] at hq2; omega
      have h1 : ¬ q / z < n := fun h => hq ((Nat.div_lt_iff_lt_mul hzp).1 h)
      have h2 : (q - n * z) / z = q / z - n := by rw [Nat.mul_comm, Nat.sub_mul_div]
      have h3 : (q - n * z) % z = q % z := by
        have hle : n * z ≤ q := by omega
        conv => rhs; rw [show q = (q - n * z) + n * z by omega]
        rw [Nat.add_mul_mod_self_right]
      simp [rowOf, hq3, hq2, h1, h2, h3]
    · have hq3 : ¬ q - n * z < m * z := by rw [Nat.add_mul] at hq2; omega
      simp [rowOf, hq3, hq2]
theorem both_rep {F : Nat → Nat → Prop} {xs ys : List PV} {u u' : Nat → Nat → Value} (h1 : ∀ (i : Nat) (x : PV) (j : Nat) (p : PV), xs[i]? = some x → x.cells[j]? = some p → RepC F w p (u i j)) (h2 : ∀ (i : Nat) (x : PV) (j : Nat) (p : PV), ys[i]? = some x → x.cells[j]? = some p → RepC F w p (u' i j)) :
    ∀ (i : Nat) (x : PV) (j : Nat) (p : PV), (xs ++ ys)[i]? = some x → x.cells[j]? = some p → RepC F w p ((fun i j => if i < xs.length then u i j else u' (i - xs.length) j) i j) := by
  intro i x j p hx hp
  by_cases hi : i < xs.length
  · rw [List.getElem?_append_left hi] at hx
    simp only [if_pos hi]
    exact h1 i x j p hx hp
  · rw [List.getElem?_append_right (by omega)] at hx
    simp only [if_neg hi]
    exact h2 _ x j p hx hp
theorem sim_append {c : Call} (hT : TabOk P T) (ho : o.op = .call c) (hc : c.callee = .builtin .append) (hI : InvO F0 B nt w0 ow σ a w) (hd : ∀ d, o.dst = some d → d < nt) (h : (opA P T o).run PC σ K) : o.wp P a w (Sim F0 B nt w0 σ K) Q := by
  unfold opA at h
  rw [ho] at h
  simp only [hc] at h
  split at h
  · rename_i t t' x y hty hargs
    cases htt : Nat.beq t t'
    · rw [htt] at h; exact h.elim
    rw [htt] at h
    simp only [cond_true] at h
    obtain rfl := Nat.eq_of_beq_eq_true htt
    obtain ⟨p, R0, p1, p2, p3⟩ := evO_inv hI x _ _ h
    obtain ⟨q, R1, q1, q2, q3⟩ := evO_inv hI y _ _ p3
    clear h p3 htt
    have hrun : ∀ r w', (Builtin.append_ #[t, t] o.type #[a.eval x, a.eval y]).run P w = .ok r w' → (execOp a.eval o).run P w = .ok (.value r) w' := fun r w' hr => by
      have e1 : c.args.map a.eval = #[a.eval x, a.eval y] := by
        apply Array.toList_inj.1; rw [Array.toList_map, hargs]; rfl
      have e2 : c.argTypes = #[t, t] := by apply Array.toList_inj.1; rw [hty]
      unfold execOp; rw [ho]; simp [resolve, hc, invoke, builtin, e1, e2, hr]
    unfold appA at q3
    split at q3
    · rename_i e n' by_ zz ht
      obtain ⟨d', hu, hk⟩ := (hT _ _ ht).und
      obtain rfl : d' = .slice e := hk
      split at q3
      · rename_i i k z xs k' z' ys d hte hdst
        have hti := hT _ _ hte
        obtain ⟨ti, zv, i1, i2, i3, i4, i5⟩ := hti.info
        have hzs : zv.cells.size = i.size := by
          have e1 : zv.cells.toList.length = i.size := by rw [i5, hti.len]
          simpa using e1
        cases hcond : (Nat.beq z i.size || xs.isEmpty) && (Nat.beq z' i.size || ys.isEmpty) && Nat.blt 0 i.size
        · rw [hcond] at q3; exact q3.elim
        rw [hcond] at q3
        simp only [cond_true] at q3
        rw [Bool.and_eq_true, Bool.and_eq_true, Bool.or_eq_true, Bool.or_eq_true] at hcond
        obtain ⟨⟨c1, c2⟩, c3⟩ := hcond
        have hpos : 0 < i.size := Nat.le_of_ble_eq_true c3
        have rx : RepC (FF F0 ow) w (.sl k i.size xs) (a.eval x) := by
          have h := p1.rep (fun _ _ => by simp)
          rcases c1 with c1 | c1
          · rw [← Nat.eq_of_beq_eq_true c1]; exact h
          · obtain rfl : xs = [] := by simpa using c1
            exact h.sl_z
        have ry : RepC (FF F0 ow) w (.sl k' i.size ys) (a.eval y) := by
          have h := q1.rep (fun _ _ => by simp)
          rcases c2 with c2 | c2
          · rw [← Nat.eq_of_beq_eq_true c2]; exact h
          · obtain rfl : ys = [] := by simpa using c2
            exact h.sl_z
        obtain ⟨⟨b1, b2⟩, q4⟩ := q3
        obtain ⟨tk, hR, hlt0, hfull, hown⟩ : ∃ tk : Nat, (∃ R2, K R2 ((3 * d, .sl (tk + 2) i.size (xs ++ ys)) :: [(3 * tk + 2, .fr (xs ++ ys).length i.size)])) ∧
            (∀ n z0, σ (3 * tk + 2) = .fr n z0 → n = xs.length ∧ z0 = i.size) ∧ ((∀ n z0, σ (3 * tk + 2) ≠ .fr n z0) → ∃ A, a.eval x = .slice A xs.length xs.length) ∧
            ((∃ A, a.eval x = .slice A xs.length xs.length) ∨ ∃ e cells, w.ownsRow B e i.size (a.eval x) xs.length cells ∧ ∀ g, (a.eval x).ownBlock = some g → ow g = some (2 * tk + 1, xs.length * i.size)) := by
          split at q4
          · exact q4.elim
          · simp only [AM.run, force_eq] at q4
            split at q4
            · rename_i hany
              simp only [AM.run, forceW_eq] at q4
              exact ⟨d, ⟨_, q4⟩, fun n z0 hn => (by rw [hany] at hn; cases hn), fun _ => p1.2, Or.inl p1.2⟩
            · exact q4.elim
          · rename_i j
            simp only [AM.run, force_eq] at q4
            split at q4
            · rename_i n z'' hfr
              cases hz : Nat.beq z'' i.size
              · rw [hz] at q4; exact q4.elim
              rw [hz] at q4
              obtain rfl := Nat.eq_of_beq_eq_true hz
              simp only [cond_true, AM.run, forceW_eq] at q4
              obtain ⟨rfl, q4⟩ := q4
              refine ⟨j, ⟨_, q4⟩, fun n z0 hn => (by rw [hfr] at hn; cases hn; exact ⟨rfl, rfl⟩), fun hne => absurd hfr (hne _ _), ?_⟩
              exact p1.2 _ hfr
            · exact q4.elim
        obtain ⟨R2, hK⟩ := hR
        obtain ⟨Ax, cx, ex, hcx⟩ := rx.sl_len
        obtain ⟨Ay, cy, ey, hcy⟩ := ry.sl_len
        have hdn := hd d hdst
        have fin : ∀ {ow' : Ow} {w' : World} {v' : Value}, InvO F0 B nt w0 ow' (ap [(3 * tk + 2, .fr (xs ++ ys).length i.size)] σ) a w' → (Builtin.append_ #[t, t] o.type #[a.eval x, a.eval y]).run P w = .ok v' w' →
            RepC (FF F0 ow') w' (.sl (tk + 2) i.size (xs ++ ys)) v' → ((∃ A, v' = .slice A (xs ++ ys).length (xs ++ ys).length) ∨ ∃ e cells, w'.ownsRow B e i.size v' (xs ++ ys).length cells ∧ ∀ g, v'.ownBlock = some g → ow' g = some (2 * tk + 1, (xs ++ ys).length * i.size)) →
            o.wp P a w (Sim F0 B nt w0 σ K) Q := by
          intro ow' w' v' hI' hr hrep hown'
          refine wp_value (hrun _ _ hr) ⟨R2, _, hK, ow', ?_⟩
          rw [hdst]
          refine hI'.put (dst := some d) (fun d' e => by cases e; exact hdn) (p := .sl (tk + 2) i.size (xs ++ ys)) ⟨hrep, fun z1 hz1 => ?_⟩ ?_
          · rw [ap1_self] at hz1
            injection hz1 with _ hz1
            subst hz1
            exact hown'
          · simp only [wfT, wf1, tokOk, ap1_self]
            exact Nat.le_refl _
        by_cases hm : ys = []
        · subst hm
          have hl0 : (xs ++ ([] : List PV)).length = xs.length := by simp
          have hr : (Builtin.append_ #[t, t] o.type #[a.eval x, a.eval y]).run P w = .ok (a.eval x) w := by
            rw [ex, ey]
            exact run_append_zero hu ⟨e, hu⟩ (sizeOf_run hti) Ax _ cx hcx Ay cy
          have hsame : InvO F0 B nt w0 ow (ap [(3 * tk + 2, .fr (xs ++ ([] : List PV)).length i.size)] σ) a w := by
            by_cases hfr : ∃ n z0, σ (3 * tk + 2) = .fr n z0
            · obtain ⟨n, z0, hn⟩ := hfr
              obtain ⟨rfl, rfl⟩ := hlt0 n z0 hn
              have : ap [(3 * tk + 2, .fr (xs ++ ([] : List PV)).length i.size)] σ = σ := by
                funext l
                by_cases hl : l = 3 * tk + 2
                · rw [hl, ap1_self, hn, hl0]
                · exact ap1_ne _ _ hl
              rw [this]; exact hI
            · refine hI.tok (fun n z0 hn => absurd ⟨n, z0, hn⟩ hfr) (Below.refl _ _) (fun p v h => h) (fun p v hp h => h.tok hp (fun n z0 hn => absurd ⟨n, z0, hn⟩ hfr)) hI.owB (fun _ _ _ => Iff.rfl) (fun _ _ _ _ => rfl)
          refine fin hsame hr ?_ ?_
          · rw [List.append_nil]; exact rx.sl_of
          · rw [hl0]; exact hown
        · have hm0 : 0 < ys.length := List.length_pos_iff.2 hm
          have hlt : ∀ n z0, σ (3 * tk + 2) = .fr n z0 → n < (xs ++ ys).length := fun n z0 hn => by rw [(hlt0 n z0 hn).1, List.length_append]; omega
          rcases ry.parts with ⟨_, hy0⟩ | ⟨_, _, _, hy0⟩ | ⟨by', oy, cy', uy, ey', hcy', hzy, hcelly, hrepy⟩
          · exact absurd hy0 hm
          · exact absurd hy0 hm
          have hnews : ∀ j v, (rowOf ys.length i.size uy)[j]? = some v → w.cell? ((⟨by', oy, none⟩ : Addr).add j) = some v := fun j v hj => by
            obtain ⟨g1, g2, g3, g4, rfl⟩ := rowOf_get hj
            rw [Addr.add_lit, show oy + j = oy + (j / i.size) * i.size + j % i.size by omega]
            exact (hcelly _ _ g2 g3).1
          have h1c : ∀ v ∈ rowOf ys.length i.size uy, v.oneCell' = true := fun v hv => by
            obtain ⟨j, hj, hjv⟩ := List.getElem_of_mem hv
            obtain ⟨g1, g2, g3, g4, rfl⟩ := rowOf_get (v := v) (by rw [← hjv]; exact List.getElem?_eq_getElem hj)
            exact (hcelly _ _ g2 g3).2.2
          have hlenl : (xs ++ ys).length = xs.length + ys.length := List.length_append
          have b1' : xs.length + ys.length ≤ maxLen := b1
          have b2' : (xs.length + ys.length) * ti.bytes ≤ 140737488355328 := by rw [i3]; exact b2
          have grown : ∀ (ux : Nat → Nat → Value), (∀ x ∈ xs, x.cells.length = i.size) → (∀ i' j, i' < xs.length → j < i.size → (ux i' j).oneCell' = true) → (∀ (i' : Nat) (x : PV) (j : Nat) (p : PV), xs[i']? = some x → x.cells[j]? = some p → RepC (FF F0 ow) w p (ux i' j)) →
              (∃ v' w', (Builtin.append_ #[t, t] o.type #[a.eval x, a.eval y]).run P w = .ok v' w' ∧ w'.ownsRow w.heap.size e i.size v' (xs.length + ys.length) (rowOf xs.length i.size ux ++ rowOf ys.length i.size uy) ∧ w.grownBy w' none) → o.wp P a w (Sim F0 B nt w0 σ K) Q := by
            intro ux hzx h1x hrx ⟨v', w', hr, hw, hg⟩
            have he := grownBy_ext hg
            rw [row_append, ← hlenl] at hw
            obtain ⟨ow', hI', hold, hnew⟩ := hI.grow hlt hw he
            refine fin hI' hr ?_ ?_
            · refine rep_row hw rfl (fun x hx => ?_) (fun i j => if i < xs.length then ux i j else uy (i - xs.length) j) (fun i' j hi hj => ⟨rowOf_at hi hj, ?_⟩) (fun g hg o hlo => ⟨hI.newF _ _ (Nat.le_trans hI.lowW (hw.lt g hg).1), fun c l hcl => ?_⟩) (both_rep (fun i x j p a b => (hrx i x j p a b).ext he hold) (fun i x j p a b => (hrepy i x j p a b).ext he hold))
              · rcases List.mem_append.1 hx with hx | hx
                · exact hzx x hx
                · exact hzy x hx
              · by_cases hi' : i' < xs.length
                · simp only [if_pos hi']; exact h1x _ _ hi' hj
                · simp only [if_neg hi']; exact (hcelly _ _ (by omega) hj).2.2
              · rw [hnew g hg] at hcl
                injection hcl with hcl
                injection hcl with _ hcl
                omega
            · exact Or.inr ⟨e, _, ⟨hw.1, hw.2.imp id (fun ⟨g, cap, cur, a1, a2, a3⟩ => ⟨g, cap, cur, a1, Nat.le_trans hI.lowW a2, a3⟩)⟩, hnew⟩
          have rx3 : (a.eval x = .slice none 0 0 ∧ xs = []) ∨ (∃ a0, a.eval x = .slice (some a0) 0 0 ∧ xs = []) ∨ ∃ (b o cap : Nat) (u : Nat → Nat → Value), a.eval x = .slice (some ⟨b, o, none⟩) xs.length cap ∧ xs.length ≤ cap ∧ (∀ x ∈ xs, x.cells.length = i.size) ∧
              (∀ i' j, i' < xs.length → j < i.size → w.cell? ⟨b, o + i' * i.size + j, none⟩ = some (u i' j) ∧ (FF F0 ow) b (o + i' * i.size + j) ∧ (u i' j).oneCell' = true) ∧ ∀ (i' : Nat) (x : PV) (j : Nat) (p : PV), xs[i']? = some x → x.cells[j]? = some p → RepC (FF F0 ow) w p (u i' j) := by
            rcases rx.parts with h | ⟨a0, c0, h, hx0⟩ | h
            · exact Or.inl h
            · subst hx0
              rcases hown with ⟨A, hA⟩ | ⟨e', cells, hw, hblk⟩
              · rw [h] at hA
                injection hA with e1 e2 e3
                subst e3
                exact Or.inr (Or.inl ⟨a0, h, rfl⟩)
              · rcases hw.2 with ⟨hnil, _⟩ | ⟨g, cap, cur, eg, _⟩
                · rw [h] at hnil
                  injection hnil with hnil
                  cases hnil
                · exact Or.inr (Or.inr ⟨g, 0, cap, uy, eg, Nat.zero_le _, (fun x hx => by cases hx), (fun i' j hi _ => by simp at hi), (fun i' x j p hx _ => by simp at hx)⟩)
            · exact Or.inr (Or.inr h)
          rcases rx3 with ⟨ex', hx0⟩ | ⟨a0, ex', hx0⟩ | ⟨bx, ox, cx', ux, ex', hcx', hzx, hcellx, hrepx⟩
          · subst hx0
            refine grown uy (fun x hx => by cases hx) (fun i' j hi _ => by simp at hi) (fun i' x j p hx _ => by simp at hx) ?_
            obtain ⟨v', w', r1, r2, r3, _⟩ := run_append_own (P := P) w w.heap.size t o.type e ti zv i.size ti.bytes hu i1 i4 i2 rfl hzs hpos (.slice none 0 0) 0 [] (World.ownsRow_nil _ _ _ _) ⟨by', oy, none⟩ ys.length cy' (rowOf ys.length i.size uy) (rowOf_len _ _ _) hnews h1c (by simpa using b1') (by simpa using b2') (Nat.le_refl _)
            refine ⟨v', w', by rw [ex', ey']; exact r1, ?_, r3⟩
            have : rowOf ([] : List PV).length i.size uy = [] := by simp [rowOf]
            rw [this]
            simpa using r2
          · subst hx0
            refine grown uy (fun x hx => by cases hx) (fun i' j hi _ => by simp at hi) (fun i' x j p hx _ => by simp at hx) ?_
            obtain ⟨v', w', r1, r2, r3⟩ := run_append_arg_grows (P := P) w t o.type e ti zv i.size ti.bytes hu i1 i4 i2 rfl hzs hpos a0 0 0 (rowOf ([] : List PV).length i.size uy) (rowOf_len _ _ _) (fun j v hj => by simp [rowOf] at hj) ⟨by', oy, none⟩ ys.length cy' (rowOf ys.length i.size uy) (rowOf_len _ _ _) hnews (by omega) (by simpa using b1') (by simpa using b2')
            exact ⟨v', w', by rw [ex', ey']; exact r1, by simpa using r2, r3⟩
          · have holds : ∀ j v, (rowOf xs.length i.size ux)[j]? = some v → w.cell? ((⟨bx, ox, none⟩ : Addr).add j) = some v := fun j v hj => by
              obtain ⟨g1, g2, g3, g4, rfl⟩ := rowOf_get hj
              rw [Addr.add_lit, show ox + j = ox + (j / i.size) * i.size + j % i.size by omega]
              exact (hcellx _ _ g2 g3).1
            by_cases hcap : cx' < xs.length + ys.length
            · refine grown ux hzx (fun i' j hi hj => (hcellx i' j hi hj).2.2) hrepx ?_
              obtain ⟨v', w', r1, r2, r3⟩ := run_append_arg_grows (P := P) w t o.type e ti zv i.size ti.bytes hu i1 i4 i2 rfl hzs hpos ⟨bx, ox, none⟩ xs.length cx' (rowOf xs.length i.size ux) (rowOf_len _ _ _) holds ⟨by', oy, none⟩ ys.length cy' (rowOf ys.length i.size uy) (rowOf_len _ _ _) hnews hcap b1' b2'
              exact ⟨v', w', by rw [ex', ey']; exact r1, r2, r3⟩
            · rcases hown with ⟨A, hA⟩ | ⟨e', cells, hw, hblk⟩
              · rw [ex'] at hA
                injection hA with _ _ hA
                omega
              · rcases hw.2 with ⟨hnil, _⟩ | ⟨g, cap, cur, eg, hgB, hg, hncap, hcapm, hcs, htake⟩
                · rw [ex'] at hnil
                  injection hnil with hnil
                  cases hnil
                · have eg' := eg
                  rw [ex'] at eg'
                  injection eg' with e1 e2 e3
                  injection e1 with e1
                  injection e1 with e4 e5 _
                  subst e4
                  subst e5
                  subst e3
                  have hblk' := hblk bx (by rw [eg]; rfl)
                  have hfit : xs.length * ti.size + (rowOf ys.length i.size uy).length ≤ cur.size := by
                    rw [rowOf_len, i2, hcs, ← Nat.add_mul]
                    exact Nat.mul_le_mul_right _ (by omega)
                  have hr := run_append_roomE (P := P) (w := w) (ty := o.type) (e' := e') hu i1 bx xs.length cx' cur hg ⟨by', oy, none⟩ ys.length cy' (rowOf ys.length i.size uy) (by rw [rowOf_len, i2]) hnews h1c (by omega) hfit
                  rw [i2] at hr hfit
                  generalize hcur' : (cur.toList.take (xs.length * i.size) ++ rowOf ys.length i.size uy ++ cur.toList.drop (xs.length * i.size + (rowOf ys.length i.size uy).length)).toArray = cur' at hr
                  rw [rowOf_len] at hfit hcur'
                  have hgetc : ∀ q, cur'[q]? = if q < xs.length * i.size then cur[q]? else if q < (xs.length + ys.length) * i.size then (rowOf ys.length i.size uy)[q - xs.length * i.size]? else cur[q]? := fun q => by
                    rw [← hcur', List.getElem?_toArray]
                    have hl1 : (cur.toList.take (xs.length * i.size)).length = xs.length * i.size := by simp; omega
                    by_cases c1 : q < xs.length * i.size
                    · rw [if_pos c1, List.append_assoc, List.getElem?_append_left (by omega), List.getElem?_take, if_pos c1]; simp
                    · rw [if_neg c1, List.append_assoc, List.getElem?_append_right (by omega), hl1]
                      rw [Nat.add_mul]
                      by_cases c2 : q < xs.length * i.size + ys.length * i.size
                      · rw [if_pos c2, List.getElem?_append_left (by rw [rowOf_len]; omega)]
                      · rw [if_neg c2, List.getElem?_append_right (by rw [rowOf_len]; omega), List.getElem?_drop, rowOf_len]
                        rw [show xs.length * i.size + ys.length * i.size + (q - xs.length * i.size - ys.length * i.size) = q by omega]; simp
                  have hcs' : cur'.size = cur.size := by
                    rw [← hcur']; simp [rowOf_len]; omega
                  obtain ⟨ow', hI', hrep', hnew⟩ := hI.room (cur' := cur') hlt hblk' (by rw [hlenl]; omega) hg (fun j hj => by rw [hgetc, if_pos hj])
                  have hown' : (w.setRow bx cur').ownsRow B e' i.size (.slice (some ⟨bx, 0, none⟩) (xs.length + ys.length) cx') (xs ++ ys).length (rowOf (xs ++ ys).length i.size fun i j => if i < xs.length then ux i j else uy (i - xs.length) j) := by
                    refine ⟨rowOf_len _ _ _, Or.inr ⟨bx, cx', cur', by rw [hlenl], hgB, setRow_heap w bx cur cur' e' (0, 0) hg, by omega, hcapm, by rw [hcs', hcs], ?_⟩⟩
                    rw [hlenl, ← row_append]
                    apply List.ext_getElem?
                    intro q
                    rw [List.getElem?_take]
                    by_cases hq : q < (xs.length + ys.length) * i.size
                    · rw [if_pos hq, Array.getElem?_toList, hgetc]
                      by_cases c1 : q < xs.length * i.size
                      · rw [if_pos c1, List.getElem?_append_left (by rw [rowOf_len]; exact c1)]
                        have hlt2 : q < cur.size := by omega
                        have h3 : (rowOf xs.length i.size ux)[q]? = some ((rowOf xs.length i.size ux)[q]'(by rw [rowOf_len]; exact c1)) := List.getElem?_eq_getElem _
                        have h4 := holds q _ h3
                        rw [Addr.add_lit, Nat.zero_add, cell_of_row w bx q cur e' (0, 0) hg] at h4
                        rw [h3]; exact h4
                      · rw [if_neg c1, if_pos hq, List.getElem?_append_right (by rw [rowOf_len]; omega), rowOf_len]
                    · rw [if_neg hq]
                      symm
                      rw [List.getElem?_eq_none]
                      rw [List.length_append, rowOf_len, rowOf_len, ← Nat.add_mul]
                      omega
                  refine fin (v' := .slice (some ⟨bx, 0, none⟩) (xs.length + ys.length) cx') hI' (by rw [ex', ey']; exact hr) ?_ (Or.inr ⟨e', _, hown', fun g' hg' => ?_⟩)
                  · refine rep_row hown' rfl (fun x hx => ?_) (fun i j => if i < xs.length then ux i j else uy (i - xs.length) j) (fun i' j hi hj => ⟨rowOf_at hi hj, ?_⟩) (fun g' hg' o hlo => ⟨hI.newF _ _ (hown'.lt g' hg').1, fun c l hcl => ?_⟩) (both_rep (fun i x j p a b => hrep' _ _ (hrepx i x j p a b)) (fun i x j p a b => hrep' _ _ (hrepy i x j p a b)))
                    · rcases List.mem_append.1 hx with hx | hx
                      · exact hzx x hx
                      · exact hzy x hx
                    · by_cases hi' : i' < xs.length
                      · simp only [if_pos hi']; exact (hcellx _ _ hi' hj).2.2
                      · simp only [if_neg hi']; exact (hcelly _ _ (by rw [hlenl] at hi; omega) hj).2.2
                    · cases hg'
                      rw [hnew] at hcl
                      injection hcl with hcl
                      injection hcl with _ hcl
                      omega
                  · cases hg'
                    exact hnew
      · exact q3.elim
    · exact q3.elim
  · exact h.elim
end
def RepA (F : Nat → Nat → Prop) (w : World) : List PV → List Value → Prop
  | [], [] => True
  | p :: ps, v :: vs => RepC F w p v ∧ RepA F w ps vs
  | _, _ => False
def OwnR (ow : Nat → Option Nat) (w : World) (B : Nat) (p : PV) (v : Value) : Prop :=
  match p with
  | .sl 1 _ xs => ∃ A, v = .slice A xs.length xs.length
  | .sl (z + 2) _ xs => (∃ A, v = .slice A xs.length xs.length) ∨ ∃ e cells, w.ownsRow B e z v xs.length cells ∧ ∀ g, v.ownBlock = some g → ow g = some (xs.length * z)
  | _ => True
def OwnRR (ow : Nat → Option Nat) (w : World) (B : Nat) (p : PV) (v : Value) : Prop :=
  match p with
  | .tu ps => ∀ (vs : Array Value) (i : Nat) (p : PV) (u : Value), v = .tuple vs → ps[i]? = some p → vs[i]? = some u → (i = 0 → OwnR ow w B p u) ∧ OwnR ow w B p.dem u
  | p => OwnR ow w B p v
def Res (F : Nat → Nat → Prop) (B : Nat) (w : World) (r : PV) (v : Value) : Prop :=
  ∃ ow : Nat → Option Nat, (∀ b l, ow b = some l → B ≤ b ∧ b < w.heap.size) ∧ RepC (fun b o => (F b o ∨ B ≤ b) ∧ ∀ l, ow b = some l → o < l) w r v ∧ OwnRR ow w B r v
def PCs (P : Program) : Orc := fun f args r =>
  (∃ fn, P.funcs[f]? = some fn ∧ (fn.name == "runtime.NumGoroutine") = false ∧ fn.body.isSome = true) ∧
  ∀ (w : World) (F : Nat → Nat → Prop) (vs : List Value), RepA F w args vs → Calls P f vs.toArray w fun e w' => ∃ v, e = .returned v ∧ Below w.heap.size w w' ∧ Res F w.heap.size w' r v
section
variable {P : Program} {T : Tab} {Q : Exit → Act → World → Prop} {o : Oper} {a : Act} {w : World} {B nt : Nat} {w0 : World} {F0 : Nat → Nat → Prop} {ow : Ow} {σ : St} {K : List Nat → List (Nat × PV) → Prop}
theorem repA_of : ∀ {ps : List PV} {vs : List Value}, RepL F0 B ow w σ ps vs → ps.all argOk = true → RepA (FF F0 ow) w (ps.map PV.ro) vs
  | [], [], _, _ => trivial
  | p :: ps, v :: vs, h, ha => by
    simp only [List.all_cons, Bool.and_eq_true] at ha
    exact ⟨(h.1.1.rep (fun t o e => by subst e; simp [argOk] at ha)).ro, repA_of h.2 ha.2⟩
  | [], _ :: _, h, _ => h.elim
  | _ :: _, [], h, _ => h.elim
theorem dem_rep {F : Nat → Nat → Prop} {p : PV} {v : Value} (h : RepC F w p v) : RepC F w p.dem v := by
  unfold PV.dem
  split
  · exact h.sl_of
  · exact h
theorem demR_rep {F : Nat → Nat → Prop} {p : PV} {v : Value} (h : RepC F w p v) : RepC F w p.demR v := by
  cases h with
  | tu cs vs hl hh =>
    refine .tu _ vs (by simp [hl]) (fun j p v hp hv => ?_)
    rw [List.getElem?_map] at hp
    obtain ⟨q, hq, rfl⟩ := Option.map_eq_some_iff.1 hp
    exact dem_rep (hh j q v hq hv)
  | s x => exact .s _
  | tt => exact .tt
  | ff => exact .ff
  | nil k z => exact .nil k z
  | emp k z a cap => exact .emp k z a cap
  | sl k z xs b o cap u hc hz hcell h => exact .sl k z xs b o cap u hc hz hcell h
  | ag cs vs hl h1 h => exact .ag cs vs hl h1 h
  | rp cs b o u hcell h => exact .rp cs b o u hcell h
  | any v => exact .any v
theorem dem_tok (p : PV) : tokOk σ p.dem := by
  unfold PV.dem
  split
  · trivial
  · rename_i h
    unfold tokOk
    split
    · exact absurd rfl (h _ _ _)
    · trivial
theorem allP_map_dem : ∀ (l : List PV), allP (tokOk σ) (l.map PV.dem)
  | [] => trivial
  | p :: r => ⟨dem_tok p, allP_map_dem r⟩
theorem own_dem {owr : Nat → Option Nat} {w' : World} {b : Nat} {p : PV} {v : Value} (h : OwnR owr w' b p.dem v) : Own B ow w' σ p.dem v := by
  unfold PV.dem at *
  split at h
  · trivial
  · rename_i hne
    cases p with
    | sl k z xs =>
      match k with
      | 0 => trivial
      | 1 => exact h
      | k + 2 => exact absurd rfl (hne _ _ _)
    | _ => trivial
theorem sim_call {c : Call} {f : Operand} (ho : o.op = .call c) (hc : c.callee = .value f) (hI : InvO F0 B nt w0 ow σ a w) (hd : ∀ d, o.dst = some d → d < nt) (h : (opA P T o).run (PCs P) σ K) : o.wp P a w (Sim F0 B nt w0 σ K) Q := by
  unfold opA at h
  rw [ho] at h
  simp only [hc] at h
  obtain ⟨p, R0, p1, p2, p3⟩ := evO_inv hI f _ _ h
  obtain ⟨ps, R1, h1, h3⟩ := evOs_inv hI _ _ _ p3
  clear h p3
  split at h3
  · rename_i g u v
    cases hb : Nat.beq u.size 0 && Nat.beq v.size 0
    · rw [hb] at h3; exact h3.elim
    rw [hb] at h3
    simp only [cond_true] at h3
    rw [Bool.and_eq_true] at hb
    obtain rfl : u = #[] := Array.size_eq_zero_iff.1 (Nat.eq_of_beq_eq_true hb.1)
    obtain rfl : v = #[] := Array.size_eq_zero_iff.1 (Nat.eq_of_beq_eq_true hb.2)
    have ef := (p1.rep (fun _ _ => by simp)).s_eq
    unfold callA at h3
    cases ha : ps.all argOk
    · rw [ha] at h3; exact h3.elim
    rw [ha] at h3
    simp only [cond_true, AM.run] at h3
    obtain ⟨r, ⟨⟨fn, f1, f2, f3⟩, hC⟩, hr⟩ := h3
    have hcalls := hC w (FF F0 ow) _ (repA_of h1 ha)
    have hrun : (execOp a.eval o).run P w = .ok (.enter g (c.args.toList.map a.eval).toArray) w := by
      have e1 : c.args.map a.eval = (c.args.toList.map a.eval).toArray := by apply Array.toList_inj.1; rw [Array.toList_map]
      have f2' : ¬ fn.name = "runtime.NumGoroutine" := by simpa using f2
      have f3' : ¬ fn.body = none := fun e => by rw [e] at f3; cases f3
      unfold execOp; rw [ho]; simp [resolve, hc, ef, Deferred.ofValue, invoke, callFunc, program, Sem.run, f1, e1]
      rw [if_neg f2', if_neg f3']
    unfold Oper.wp
    rw [hrun]
    refine Calls.mono hcalls fun e w' he => ?_
    obtain ⟨v, rfl, hbel, owr, hr1, hr2, hr3⟩ := he
    have he := Ext.of hbel
    have hI' := hI.ext he
    show Sim F0 B nt w0 σ K (a.put o.dst v) w'
    unfold resA at hr
    cases hdst : o.dst with
    | none =>
      rw [hdst] at hr
      simp only [AM.run, forceW_eq] at hr
      exact ⟨_, _, hr, ow, hI'⟩
    | some d =>
      rw [hdst] at hr
      have hdn := hd d hdst
      have hFF : ∀ b, w.heap.size ≤ b → ow b = none := fun b hb => by
        cases hx : ow b with
        | none => rfl
        | some cl => have := (hI.owB b cl.1 cl.2 hx).2; omega
      cases hw : wantsTok r
      · simp only [hw, cond_false, AM.run, forceW_eq] at hr
        refine ⟨_, _, hr, ow, hI'.put (dst := some d) (fun d' e => by cases e; exact hdn) (p := r.demR) ?_ ?_⟩
        · have hrep : RepC (FF F0 ow) w' r v := hr2.mono fun b o u hc hf => ⟨hc, by
            rcases hf.1 with h | h
            · exact h
            · exact ⟨hI.newF _ _ (Nat.le_trans hI.lowW h), fun c l hcl => by rw [hFF b h] at hcl; cases hcl⟩⟩
          have hrep' := demR_rep hrep
          cases r with
          | tu ps =>
            refine ⟨hrep', fun vs i p u hv hp hu => ?_⟩
            rw [List.getElem?_map] at hp
            obtain ⟨q, hq, rfl⟩ := Option.map_eq_some_iff.1 hp
            exact own_dem (hr3 vs i q u hv hq hu).2
          | sl k z xs =>
            match k with
            | 0 => exact ⟨hrep', trivial⟩
            | 1 => exact ⟨hrep', hr3⟩
            | k + 2 => simp [wantsTok] at hw
          | pt t o => cases hrep
          | fr n z => cases hrep
          | _ => exact ⟨hrep', trivial⟩
        · cases r with
          | tu ps => exact allP_map_dem ps
          | sl k z xs =>
            match k with
            | 0 => trivial
            | 1 => trivial
            | k + 2 => simp [wantsTok] at hw
          | pt t o => cases hr2
          | _ => trivial
      · simp only [hw, cond_true, AM.run, force_eq] at hr
        split at hr
        · rename_i hany
          simp only [AM.run, forceW_eq] at hr
          have key : ∀ (z : Nat) (xs : List PV) (N : Nat), N = xs.length → InvO F0 B nt w0 (fun b => if b < w.heap.size then ow b else (owr b).map fun l => (2 * d + 1, l)) (ap [(3 * d + 2, .fr N z)] σ) a w' := fun z xs N hN => by
            have hob : ∀ b, b < w.heap.size → (fun b => if b < w.heap.size then ow b else (owr b).map fun l => (2 * d + 1, l)) b = ow b := fun b hb => if_pos hb
            have hlt : ∀ n z0, σ (3 * d + 2) = .fr n z0 → n < N := fun n z0 hn => by rw [hany] at hn; cases hn
            refine hI.tok (fun n z0 hn => Nat.le_of_lt (hlt n z0 hn)) (he.below hI.lowW) (fun p v h => h.ext he hob) (fun p v hp h => (h.tok hp hlt).ext he hob) (fun b c l h => ?_) (fun b s l => ?_) (fun b s l h => he.block b (hI.owB b _ l h).2)
            · by_cases hb : b < w.heap.size
              · simp only [if_pos hb] at h
                exact ⟨(hI.owB b c l h).1, Nat.lt_of_lt_of_le hb he.size⟩
              · simp only [if_neg hb] at h
                obtain ⟨l', hl', _⟩ := Option.map_eq_some_iff.1 h
                have := hr1 b l' hl'
                exact ⟨by have := hI.lowW; omega, this.2⟩
            · by_cases hb : b < w.heap.size
              · simp only [if_pos hb]
              · simp only [if_neg hb]
                constructor
                · intro h
                  obtain ⟨l', hl', e⟩ := Option.map_eq_some_iff.1 h
                  injection e with e _
                  omega
                · intro h
                  exact absurd (hI.owB b _ _ h).2 hb
          have hrepF : RepC (FF F0 fun b => if b < w.heap.size then ow b else (owr b).map fun l => (2 * d + 1, l)) w' r v := hr2.mono fun b o u hc hf => ⟨hc, (by
            rcases hf.1 with h | h
            · exact h.1
            · exact hI.newF _ _ (Nat.le_trans hI.lowW h)), fun c l hcl => by
            by_cases hb : b < w.heap.size
            · simp only [if_pos hb] at hcl
              rcases hf.1 with h | h
              · exact h.2 c l hcl
              · omega
            · simp only [if_neg hb] at hcl
              obtain ⟨l', hl', e⟩ := Option.map_eq_some_iff.1 hcl
              injection e with _ e
              subst e
              exact hf.2 l' hl'⟩
          have hownT : ∀ (z z' : Nat) (xs : List PV) (u : Value), OwnR owr w' w.heap.size (.sl (z + 2) z' xs) u → Own B (fun b => if b < w.heap.size then ow b else (owr b).map fun l => (2 * d + 1, l)) w' (ap [(3 * d + 2, .fr xs.length z)] σ) (.sl (d + 2) z' xs) u := fun z z' xs u h z1 hz1 => by
            rw [ap1_self] at hz1
            injection hz1 with _ hz1
            subst hz1
            rcases h with h | ⟨e, cells, h1, h2⟩
            · exact Or.inl h
            · refine Or.inr ⟨e, cells, ⟨h1.1, h1.2.imp id (fun ⟨g, cap, cur, a1, a2, a3⟩ => ⟨g, cap, cur, a1, Nat.le_trans hI.lowW a2, a3⟩)⟩, fun g hg => ?_⟩
              have := h1.lt g hg
              simp only [if_neg (show ¬ g < w.heap.size by omega), h2 g hg]
              rfl
          unfold retok at hr
          split at hr
          · rename_i z z' xs
            refine ⟨_, _, hr, _, (key z xs _ rfl).put (dst := some d) (fun d' e => by cases e; exact hdn) (p := .sl (d + 2) z' xs) ⟨hrepF.sl_of, hownT z z' xs v hr3⟩ ?_⟩
            simp only [wfT, wf1, tokOk, ap1_self]
            exact Nat.le_refl _
          · rename_i z z' xs rest
            refine ⟨_, _, hr, _, (key z xs _ rfl).put (dst := some d) (fun d' e => by cases e; exact hdn) (p := .tu (.sl (d + 2) z' xs :: rest.map PV.dem)) ⟨?_, fun vs i p u hv hp hu => ?_⟩ ⟨?_, allP_map_dem _⟩⟩
            · cases hrepF with
              | tu cs vs hl hh =>
                refine .tu _ vs (by simpa using hl) (fun j p v hp hv => ?_)
                cases j with
                | zero =>
                  simp at hp
                  subst hp
                  exact (hh 0 _ v rfl hv).sl_of
                | succ j =>
                  simp only [List.getElem?_cons_succ, List.getElem?_map] at hp
                  obtain ⟨q, hq, rfl⟩ := Option.map_eq_some_iff.1 hp
                  exact dem_rep (hh (j + 1) q v (by simpa using hq) hv)
            · cases i with
              | zero =>
                simp at hp
                subst hp
                exact hownT z z' xs u ((hr3 vs 0 _ u hv rfl hu).1 rfl)
              | succ i =>
                simp only [List.getElem?_cons_succ, List.getElem?_map] at hp
                obtain ⟨q, hq, rfl⟩ := Option.map_eq_some_iff.1 hp
                exact own_dem (hr3 vs (i + 1) q u hv (by simpa using hq) hu).2
            · simp only [tokOk, ap1_self]
              exact Nat.le_refl _
          · exfalso
            rename_i n1 n2
            unfold wantsTok at hw
            split at hw
            · exact n1 _ _ _ rfl
            · exact n2 _ _ _ _ rfl
            · cases hw
        · exact hr.elim
  · exact h3.elim
theorem sim_op (hT : TabOk P T) (hI : InvO F0 B nt w0 ow σ a w) (hd : ∀ d, o.dst = some d → d < nt) (h : (opA P T o).run (PCs P) σ K) : o.wp P a w (Sim F0 B nt w0 σ K) Q := by
  cases ho : o.op with
  | move x => exact sim_move (Or.inl ho) hI hd h
  | assign x => exact sim_move (Or.inr ho) hI hd h
  | pick c x y => exact sim_pick ho hI hd h
  | alloc t => exact sim_alloc hT ho hI hd h
  | box t x => exact sim_box ho hI hd h
  | load t x => exact sim_load hT ho hI hd h
  | store t x y => exact sim_store hT ho hI h
  | fieldAddr t x f => exact sim_fieldAddr hT ho hI hd h
  | field t x f => exact sim_field hT ho hI hd h
  | indexAddr t x y => exact sim_indexAddr hT ho hI hd h
  | index t x y => exact sim_index hT ho hI hd h
  | nilCheck x => exact sim_nilCheck ho hI hd h
  | binOp op t x y t' => exact sim_binOp hT ho hI hd h
  | unOp op t x => exact sim_unOp ho hI hd h
  | convert s t x => exact sim_convert hT ho hI hd h
  | slice t x lo hi mx => exact sim_slice hT ho hI hd h
  | build t ps => exact sim_build hT ho hI hd h
  | buildSlice t n ps => exact sim_buildSlice hT ho hI hd h
  | extract x i => exact sim_extract ho hI hd h
  | makeFunc fn fs cs => exact sim_makeFunc ho hI hd h
  | call c =>
    cases hc : c.callee with
    | value f => exact sim_call ho hc hI hd h
    | invoke r m => unfold opA at h; rw [ho] at h; simp only [hc] at h; exact h.elim
    | builtin b =>
      cases b with
      | len => exact sim_len hT ho hc hI hd h
      | append => exact sim_append hT ho hc hI hd h
      | _ => unfold opA at h; rw [ho] at h; simp only [hc] at h; exact h.elim
  | _ => unfold opA at h; rw [ho] at h; exact h.elim
end
section
variable {P : Program} {T : Tab} {PC : Orc} {Q : Exit → Act → World → Prop} {o : Oper} {a : Act} {w : World} {B nt : Nat} {w0 : World} {F0 : Nat → Nat → Prop} {ow : Ow} {σ τ : St} {K : List Nat → List (Nat × PV) → Prop} {ops : Array Oper}
theorem InvO.known (hI : InvO F0 B nt w0 ow σ a w) {l : Nat} {b : Bool} {p : PV} (h1 : σ l = .s (.bool b)) (hp : (b = true ∧ p = .tt) ∨ (b = false ∧ p = .ff)) (h2 : τ l = p) (h3 : ∀ k, k ≠ l → τ k = σ k) : InvO F0 B nt w0 ow τ a w := by
  have hfr : ∀ k n z, τ (3 * k + 2) = .fr n z → σ (3 * k + 2) = .fr n z := fun k n z h => by
    by_cases hk : 3 * k + 2 = l
    · subst hk; rw [h2] at h; rcases hp with ⟨_, rfl⟩ | ⟨_, rfl⟩ <;> cases h
    · rw [← h3 _ hk]; exact h
  have hown : ∀ q v, Own B ow w σ q v → Own B ow w τ q v := fun q v h => by
    unfold Own at *
    split at h
    · exact h
    · intro z hz; exact h z (hfr _ _ _ hz)
    · trivial
  have htok : ∀ q, tokOk σ q → tokOk τ q := fun q h => by
    unfold tokOk at *
    split at h
    · rename_i k z xs
      by_cases hk : 3 * k + 2 = l
      · subst hk; rw [h1] at h; exact h.elim
      · rw [h3 _ hk]; exact h
    · trivial
  have hwf : ∀ i q, wf1 σ i q → wf1 τ i q := fun i q h => by
    unfold wf1 at *
    split at h
    · rename_i t o
      by_cases hk : 3 * t + 1 = l
      · subst hk; rw [h1] at h; exact h.elim
      · rw [h3 _ hk]; exact h
    · exact allP_mono htok _ h
    · cases hq : Nat.beq (i % 3) 1
      · trivial
      · rw [hq] at h; exact allP_mono htok _ h
    · exact htok _ h
  have hrt : ∀ q v, RepT F0 B ow w σ q v → RepT F0 B ow w τ q v := fun q v h => by
    cases q with
    | pt t o => exact h
    | tu ps => exact ⟨h.1, fun vs i p u x y z => hown _ _ (h.2 vs i p u x y z)⟩
    | _ => exact ⟨h.1, hown _ _ h.2⟩
  refine ⟨hI.defers, hI.size, hI.low, hI.newF, hI.below, fun t => ?_, fun b t l' h => ?_, hI.uniq, hI.owB, fun i => ?_⟩
  · by_cases ht : 3 * t = l
    · subst ht
      have := hI.tms t
      rw [h1] at this
      have e := this.1.s_eq
      rw [h2, e]
      rcases hp with ⟨rfl, rfl⟩ | ⟨rfl, rfl⟩
      · exact ⟨.tt, trivial⟩
      · exact ⟨.ff, trivial⟩
    · rw [h3 _ ht]; exact hrt _ _ (hI.tms t)
  · obtain ⟨e, cs, c, Ty, k1, k2, k3, k4⟩ := hI.boxes b t l' h
    have ht : 3 * t + 1 ≠ l := fun e => by subst e; rw [h1] at k1; cases k1
    exact ⟨e, cs, c, Ty, (h3 _ ht).trans k1, k2, k3, fun j p v x y => ⟨(k4 j p v x y).1, (k4 j p v x y).2.1, hown _ _ (k4 j p v x y).2.2⟩⟩
  · by_cases hi : i = l
    · subst hi
      rw [h2]
      rcases hp with ⟨_, rfl⟩ | ⟨_, rfl⟩ <;> trivial
    · rw [h3 _ hi]; exact hwf _ _ (hI.wf i)
def litK (K : List Nat → List (Nat × PV) → Prop) : List Nat → List (Nat × PV) → Prop := fun R ws =>
  K R ws ∨ ∃ l b, ws = [(l, .s (.bool b))] ∧ (b = true → K R [(l, .tt)]) ∧ (b = false → K R [(l, .ff)])
theorem lit_run : ∀ (m : AM) {K : List Nat → List (Nat × PV) → Prop}, m.lit.run PC σ K → m.run PC σ (litK K)
  | .ret ws, K, h => by
    simp only [AM.run, forceW_eq]
    simp only [AM.lit] at h
    split at h
    · rename_i l b
      refine Or.inr ⟨l, b, rfl, fun e => ?_, fun e => ?_⟩
      · have := h.1 e; simpa only [AM.run, forceW_eq] using this
      · have := h.2 e; simpa only [AM.run, forceW_eq] using this
    · exact Or.inl (by simpa only [AM.run, forceW_eq] using h)
  | .get l k, K, h => by
    simp only [AM.lit, AM.run, force_eq] at h ⊢
    exact run_mono (σ := σ) _ (fun R ws hk => hk) (lit_run (k (σ l)) h)
  | .need p k, K, h => ⟨h.1, lit_run k h.2⟩
  | .opt o k, K, h => by obtain ⟨p, h1, h2⟩ := h; exact ⟨p, h1, lit_run (k p) h2⟩
  | .optc o k, K, h => by
    cases o with
    | none => exact h
    | some p => exact lit_run (k p) h
  | .ite b x y, K, h => ⟨fun e => lit_run x (h.1 e), fun e => lit_run y (h.2 e)⟩
  | .call f args k, K, h => by obtain ⟨r, h1, h2⟩ := h; exact ⟨r, h1, lit_run (k r) h2⟩
  | .bad, _, h => h
theorem sim_lit {a' : Act} {w' : World} (h : Sim F0 B nt w0 σ (litK K) a' w') : Sim F0 B nt w0 σ K a' w' := by
  obtain ⟨R, ws, hk | ⟨l, b, rfl, h1, h2⟩, ow, hI⟩ := h
  · exact ⟨R, ws, hk, ow, hI⟩
  · cases b
    · refine ⟨R, _, h2 rfl, ow, hI.known (l := l) (b := false) (p := .ff) (ap1_self _ _ _) (Or.inr ⟨rfl, rfl⟩) (ap1_self _ _ _) (fun k hk => ?_)⟩
      rw [ap1_ne _ _ hk, ap1_ne _ _ hk]
    · refine ⟨R, _, h1 rfl, ow, hI.known (l := l) (b := true) (p := .tt) (ap1_self _ _ _) (Or.inl ⟨rfl, rfl⟩) (ap1_self _ _ _) (fun k hk => ?_)⟩
      rw [ap1_ne _ _ hk, ap1_ne _ _ hk]
theorem getD_some {t : Array Value} {d : Nat} {v : Value} (h : t.getD d undef = v) (hv : v ≠ undef) : t[d]? = some v := by
  rw [Array.getD_eq_getD_getElem?] at h
  cases hq : t[d]? with
  | none => rw [hq] at h; exact absurd h.symm hv
  | some u => rw [hq] at h; rw [← h]; rfl
theorem sim_opG (hT : TabOk P T) {i : Nat} (hi : ops[i]? = some o) (hI : InvO F0 B nt w0 ow σ a w) (hd : ∀ d, o.dst = some d → d < nt) (h : (opG P T ops i o).run (PCs P) σ K) : wpOp P ops Q i (Sim F0 B nt w0 σ K) a w := by
  have hm : ∀ {K : List Nat → List (Nat × PV) → Prop}, (bif isG ops i then (opA P T o).lit else opA P T o).run (PCs P) σ K → o.wp P a w (Sim F0 B nt w0 σ K) Q := fun {K} h => by
    cases hg : isG ops i
    · rw [hg] at h; exact sim_op hT hI hd h
    · rw [hg] at h
      exact Oper.wp_mono (fun a w => sim_lit) (sim_op hT hI hd (lit_run _ h))
  have hskip : ∀ {K : List Nat → List (Nat × PV) → Prop}, (Ev.put o.dst (.s undef)).run (PCs P) σ K → Sim F0 B nt w0 σ K (a.put o.dst undef) w := fun {K} h => by
    simp only [Ev.put, AM.run, forceW_eq] at h
    exact ⟨_, _, h, ow, hI.put hd (p := .s undef) ⟨.s _, trivial⟩ trivial⟩
  have hmono : ∀ {R0 : List Nat} {a' : Act} {w' : World}, Sim F0 B nt w0 σ (fun R ws => K (R0 ++ R) ws) a' w' → Sim F0 B nt w0 σ K a' w' := fun ⟨R, ws, hk, h⟩ => ⟨_, ws, hk, h⟩
  unfold wpOp
  simp only [hi]
  unfold opG at h
  cases hgd : o.guard with
  | none =>
    rw [hgd] at h
    have hw : Region.wanted o (yielded ops a.tmps) = true := by unfold Region.wanted; rw [hgd]
    rw [if_pos hw]
    exact Or.inl (hm h)
  | some gw =>
    obtain ⟨g, want⟩ := gw
    rw [hgd] at h
    simp only [] at h
    cases hdg : (ops[g]?).bind (·.dst) with
    | none => rw [hdg] at h; exact h.elim
    | some d =>
      rw [hdg] at h
      simp only [AM.run, force_eq] at h
      have hr := hI.tms d
      have hwant : ∀ b, a.tmps.getD d undef = .bool b → Region.wanted o (yielded ops a.tmps) = (b == want) := fun b hb => by
        have := getD_some hb (by simp [undef])
        unfold Region.wanted yielded
        rw [hgd]
        simp only [hdg, Option.bind_some, this]
        cases b <;> cases want <;> rfl
      have hwantN : ∀ vs, a.tmps.getD d undef = .tuple vs → Region.wanted o (yielded ops a.tmps) = false := fun vs hv => by
        unfold Region.wanted yielded
        rw [hgd]
        simp only [hdg, Option.bind_some]
        rw [Array.getD_eq_getD_getElem?] at hv
        cases hq : a.tmps[d]? with
        | none => rfl
        | some u =>
          rw [hq] at hv
          simp at hv
          subst hv
          rfl
      split at h
      · rename_i hp
        rw [hp] at hr
        have e := hwant true hr.1.tt_eq
        cases want
        · rw [if_neg (by rw [e]; decide)]
          exact hmono (R0 := [3 * d]) (hskip h)
        · rw [if_pos (by rw [e]; decide)]
          exact Or.inl (Oper.wp_mono (fun a w => hmono (R0 := [3 * d])) (hm h))
      · rename_i hp
        rw [hp] at hr
        have e := hwant false hr.1.ff_eq
        cases want
        · rw [if_pos (by rw [e]; decide)]
          exact Or.inl (Oper.wp_mono (fun a w => hmono (R0 := [3 * d])) (hm h))
        · rw [if_neg (by rw [e]; decide)]
          exact hmono (R0 := [3 * d]) (hskip h)
      · rename_i vs hp
        rw [hp] at hr
        have e := hwantN vs hr.1.s_eq
        rw [if_neg (by rw [e]; decide)]
        exact hmono (R0 := [3 * d]) (hskip h)
      · exact h.elim
theorem equal_nil {t e : TypeId} (hu : P.underlying t = some (.slice e)) (A : Option Addr) (n c : Nat) (w : World) : (Op.equal t (.slice A n c) (.slice none 0 0)).run P w = .ok A.isNone w := by
  rw [show Op.equal t (.slice A n c) (.slice none 0 0) = Op.equalIn (9999 + 1) t (.slice A n c) (.slice none 0 0) from rfl, Op.equalIn, Sem.run_bind, run_underlying hu]
  cases A <;> rfl
theorem sim_nil (hT : TabOk P T) {i x d : Nat} {e : Bool} {k z : Nat} {xs : List PV} (hi : ops[i]? = some o) (hn : nilT T false o = some (x, e, d)) (hI : InvO F0 B nt w0 ow σ a w) (hd : ∀ d, o.dst = some d → d < nt) (hx : σ (3 * x) = .sl k z xs) {N : Act → World → Prop}
    (h1 : xs = [] → ∀ a', InvO F0 B nt w0 ow (ap [(3 * d, bPV e)] σ) a' w → N a' w) (h2 : ∀ a', InvO F0 B nt w0 ow (ap [(3 * d, bPV (!e))] σ) a' w → N a' w) : wpOp P ops Q i N a w := by
  have hr := hI.tms x
  rw [hx] at hr
  have key : ∀ (op : BinOp) (t t' : TypeId), o.op = .binOp op t (.tmp x) (.const (.slice none 0 0)) t' → T.isSl t = true → o.guard = none → o.dst = some d → ((op = .eql ∧ e = true) ∨ (op = .neq ∧ e = false)) → wpOp P ops Q i N a w := by
    intro op t t' ho hs hg hdst hop
    obtain ⟨el, hu⟩ := isSl_und hT hs
    unfold wpOp
    simp only [hi]
    rw [if_pos (by unfold Region.wanted; rw [hg])]
    refine Or.inl ?_
    obtain ⟨A, c, ev, _⟩ := hr.1.sl_len
    have hev : a.eval (.tmp x) = .slice A xs.length c := ev
    have hrun : (execOp a.eval o).run P w = .ok (.value (.bool (if A.isNone then e else !e))) w := by
      unfold execOp; rw [ho]
      have hev2 : a.eval (.const (.slice none 0 0)) = .slice none 0 0 := rfl
      have hq := equal_nil hu A xs.length c w
      rcases hop with ⟨rfl, rfl⟩ | ⟨rfl, rfl⟩
      · cases A <;> simp [hev, hev2, eqGuard, binOp, hq]
      · cases A <;> simp [hev, hev2, eqGuard, binOp, hq]
    have hbp : ∀ b, RepT F0 B ow w σ (bPV b) (.bool b) ∧ wfT σ (bPV b) := fun b => by
      cases b
      · exact ⟨⟨.ff, trivial⟩, trivial⟩
      · exact ⟨⟨.tt, trivial⟩, trivial⟩
    refine wp_value hrun ?_
    rw [hdst]
    cases A with
    | none =>
      have hxs : xs = [] := by
        rw [show a.tmps.getD x undef = _ from ev] at hr
        obtain ⟨hr, _⟩ := hr
        generalize hv : Value.slice none xs.length c = v at hr
        cases hr with
        | nil => rfl
        | emp => rfl
        | sl => injection hv with hv; cases hv
      exact h1 hxs _ (hI.put (dst := some d) (fun d' e => hd d' (by rw [hdst]; exact e)) (hbp e).1 (hbp e).2)
    | some ad => exact h2 _ (hI.put (dst := some d) (fun d' e => hd d' (by rw [hdst]; exact e)) (hbp (!e)).1 (hbp (!e)).2)
  unfold nilT at hn
  split at hn
  · rename_i d' t x' t' _ hg hdst ho
    cases hs : T.isSl t
    · rw [hs] at hn; cases hn
    · rw [hs] at hn
      cases hn
      exact key _ _ _ ho hs hg hdst (Or.inl ⟨rfl, rfl⟩)
  · rename_i d' t x' t' _ hg hdst ho
    cases hs : T.isSl t
    · rw [hs] at hn; cases hn
    · rw [hs] at hn
      cases hn
      exact key _ _ _ ho hs hg hdst (Or.inr ⟨rfl, rfl⟩)
  · cases hn
theorem reg_text (hT : TabOk P T) (hd : ∀ (i : Nat) (o : Oper), ops[i]? = some o → ∀ d, o.dst = some d → d < nt) (Qp : List (Nat × PV) → Prop) (hQ : ∀ s a w, Qp s → Inv F0 B nt w0 (lk s) a w → Q .normal a w) :
    ∀ (rest : List Oper) (i : Nat) (acc : List (List Nat × List Nat)) (s : List (Nat × PV)) (a : Act) (w : World), (∀ (k : Nat) (o : Oper), rest[k]? = some o → ops[i + k]? = some o) → runR (PCs P) P T ops false Qp i rest acc s → Inv F0 B nt w0 (lk s) a w → wpOps P ops Q (List.range' i rest.length) a w
  | [], i, acc, s, a, w, _, h, hI => hQ s a w h hI
  | o :: r, i, acc, s, a, w, hr, h, hI => by
    rw [List.length_cons, List.range'_succ, wpOps_cons]
    obtain ⟨ow, hI⟩ := hI
    have hi : ops[i]? = some o := hr 0 o rfl
    have hr' : ∀ (k : Nat) (o : Oper), r[k]? = some o → ops[i + 1 + k]? = some o := fun k o' hk' => by
      rw [show i + 1 + k = i + (k + 1) by omega]
      exact hr (k + 1) o' (by simpa using hk')
    unfold runR at h
    split at h
    · rename_i x e d hn
      rw [force_eq] at h
      split at h
      · rename_i k z xs hx
        exact sim_nil hT hi hn hI (hd i o hi) hx (fun hxs a' hI' => reg_text hT hd Qp hQ r (i + 1) _ _ a' w hr' (h.1 hxs) ⟨ow, hI'⟩) (fun a' hI' => reg_text hT hd Qp hQ r (i + 1) _ _ a' w hr' h.2 ⟨ow, hI'⟩)
      · exact h.elim
    refine wpOp_mono (fun a' w' hs => ?_) (sim_opG hT hi hI (hd i o hi) h)
    obtain ⟨R, ws, hk, hI'⟩ := hs
    exact reg_text hT hd Qp hQ r (i + 1) _ (ws ++ s) a' w' hr' hk (by rw [lk_append]; exact hI')
end
section
variable {P : Program} {T : Tab} {PC : Orc} {Q : Exit → Act → World → Prop} {o : Oper} {a : Act} {w : World} {B nt : Nat} {w0 : World} {F0 : Nat → Nat → Prop} {ow : Ow} {σ τ : St} {K : List Nat → List (Nat × PV) → Prop} {ops : Array Oper}
def AM.exec (PC : Orc) (σ : St) : AM → List Nat → List (Nat × PV) → Prop
  | .ret ws', R, ws => R = [] ∧ ws = ws'
  | .get l k, R, ws => ∃ R', R = l :: R' ∧ (k (σ l)).exec PC σ R' ws
  | .need p k, R, ws => p ∧ k.exec PC σ R ws
  | .opt o k, R, ws => ∃ p, o = some p ∧ (k p).exec PC σ R ws
  | .optc o k, R, ws => ∃ p, o = some p ∧ (k p).exec PC σ R ws
  | .ite b x y, R, ws => (b = true ∧ x.exec PC σ R ws) ∨ (b = false ∧ y.exec PC σ R ws)
  | .call f args k, R, ws => ∃ r, PC f args r ∧ (k r).exec PC σ R ws
  | .bad, _, _ => False
theorem run_exec : ∀ (m : AM) {K : List Nat → List (Nat × PV) → Prop}, m.run PC σ K → ∃ R ws, m.exec PC σ R ws ∧ K R ws
  | .ret ws, K, h => by simp only [AM.run, forceW_eq] at h; exact ⟨[], ws, ⟨rfl, rfl⟩, h⟩
  | .get l k, K, h => by
    simp only [AM.run, force_eq] at h
    obtain ⟨R, ws, h1, h2⟩ := run_exec (k (σ l)) h
    exact ⟨l :: R, ws, ⟨R, rfl, h1⟩, h2⟩
  | .need p k, K, h => by obtain ⟨R, ws, h1, h2⟩ := run_exec k h.2; exact ⟨R, ws, ⟨h.1, h1⟩, h2⟩
  | .opt o k, K, h => by obtain ⟨p, h0, h⟩ := h; obtain ⟨R, ws, h1, h2⟩ := run_exec (k p) h; exact ⟨R, ws, ⟨p, h0, h1⟩, h2⟩
  | .optc o k, K, h => by
    cases o with
    | none => exact h.elim
    | some p => obtain ⟨R, ws, h1, h2⟩ := run_exec (k p) h; exact ⟨R, ws, ⟨p, rfl, h1⟩, h2⟩
  | .ite b x y, K, h => by
    cases b
    · obtain ⟨R, ws, h1, h2⟩ := run_exec y (h.2 rfl); exact ⟨R, ws, Or.inr ⟨rfl, h1⟩, h2⟩
    · obtain ⟨R, ws, h1, h2⟩ := run_exec x (h.1 rfl); exact ⟨R, ws, Or.inl ⟨rfl, h1⟩, h2⟩
  | .call f args k, K, h => by obtain ⟨r, h0, h⟩ := h; obtain ⟨R, ws, h1, h2⟩ := run_exec (k r) h; exact ⟨R, ws, ⟨r, h0, h1⟩, h2⟩
  | .bad, K, h => h.elim
theorem exec_run : ∀ (m : AM) {R : List Nat} {ws : List (Nat × PV)}, m.exec PC σ R ws → m.run PC σ fun R' ws' => R' = R ∧ ws' = ws
  | .ret ws', R, ws, h => by simp only [AM.run, forceW_eq]; exact ⟨h.1.symm, h.2.symm⟩
  | .get l k, R, ws, h => by
    obtain ⟨R', rfl, h⟩ := h
    simp only [AM.run, force_eq]
    exact run_mono _ (fun R ws hk => ⟨by rw [hk.1], hk.2⟩) (exec_run (k (σ l)) h)
  | .need p k, R, ws, h => ⟨h.1, exec_run k h.2⟩
  | .opt o k, R, ws, h => by obtain ⟨p, h0, h⟩ := h; exact ⟨p, h0, exec_run (k p) h⟩
  | .optc o k, R, ws, h => by
    obtain ⟨p, h0, h⟩ := h
    subst h0
    exact exec_run (k p) h
  | .ite b x y, R, ws, h => by
    rcases h with ⟨rfl, h⟩ | ⟨rfl, h⟩
    · exact ⟨fun _ => exec_run x h, (fun e => by cases e)⟩
    · exact ⟨(fun e => by cases e), fun _ => exec_run y h⟩
  | .call f args k, R, ws, h => by obtain ⟨r, h0, h⟩ := h; exact ⟨r, h0, exec_run (k r) h⟩
theorem exec_local : ∀ (m : AM) {R : List Nat} {ws : List (Nat × PV)}, m.exec PC σ R ws → (∀ l ∈ R, τ l = σ l) → m.exec PC τ R ws
  | .ret ws', R, ws, h, _ => h
  | .get l k, R, ws, h, hl => by
    obtain ⟨R', rfl, h⟩ := h
    refine ⟨R', rfl, ?_⟩
    rw [hl l (by simp)]
    exact exec_local (k (σ l)) h (fun l' hl' => hl l' (by simp [hl']))
  | .need p k, R, ws, h, hl => ⟨h.1, exec_local k h.2 hl⟩
  | .opt o k, R, ws, h, hl => by obtain ⟨p, h0, h⟩ := h; exact ⟨p, h0, exec_local (k p) h hl⟩
  | .optc o k, R, ws, h, hl => by obtain ⟨p, h0, h⟩ := h; exact ⟨p, h0, exec_local (k p) h hl⟩
  | .ite b x y, R, ws, h, hl => by
    rcases h with ⟨e, h⟩ | ⟨e, h⟩
    · exact Or.inl ⟨e, exec_local x h hl⟩
    · exact Or.inr ⟨e, exec_local y h hl⟩
  | .call f args k, R, ws, h, hl => by obtain ⟨r, h0, h⟩ := h; exact ⟨r, h0, exec_local (k r) h hl⟩
abbrev Foot := Nat → List Nat × List (Nat × PV)
def keys (f : Foot) (i : Nat) : List Nat := (f i).2.map (·.1)
def V (σ : St) (f : Foot) (D : Nat → Bool) : Nat → St
  | 0 => σ
  | m + 1 => bif D m then ap (f m).2 (V σ f D m) else V σ f D m
theorem ap_mem {ws : List (Nat × PV)} {l : Nat} (h : l ∈ ws.map (·.1)) (σ τ : St) : ap ws σ l = ap ws τ l := by
  induction ws with
  | nil => simp at h
  | cons x r ih =>
    obtain ⟨k, p⟩ := x
    by_cases hl : l = k
    · subst hl; rw [ap_self, ap_self]
    · rw [ap_ne _ _ _ hl, ap_ne _ _ _ hl]
      exact ih (by simpa [hl] using h)
theorem ap_not_mem {ws : List (Nat × PV)} {l : Nat} (h : l ∉ ws.map (·.1)) (σ : St) : ap ws σ l = σ l := by
  induction ws with
  | nil => rfl
  | cons x r ih =>
    obtain ⟨k, p⟩ := x
    simp only [List.map_cons, List.mem_cons, not_or] at h
    rw [ap_ne _ _ _ h.1]
    exact ih h.2
theorem V_succ (σ : St) (f : Foot) (D : Nat → Bool) (m l : Nat) : V σ f D (m + 1) l = (bif D m then ap (f m).2 (V σ f D m) l else V σ f D m l) := by
  show (bif D m then ap (f m).2 (V σ f D m) else V σ f D m : St) l = _
  cases D m <;> rfl
theorem V_not {f : Foot} {D : Nat → Bool} {m l : Nat} (h : l ∉ keys f m) : V σ f D (m + 1) l = V σ f D m l := by
  rw [V_succ]
  cases D m
  · rfl
  · exact ap_not_mem h _
theorem V_congr {f : Foot} {D D' : Nat → Bool} {l : Nat} : ∀ (m : Nat), (∀ i, i < m → l ∈ keys f i → D i = D' i) → V σ f D m l = V σ f D' m l
  | 0, _ => rfl
  | m + 1, h => by
    have ih := V_congr m (fun i hi => h i (by omega))
    by_cases hl : l ∈ keys f m
    · have e := h m (by omega) hl
      rw [V_succ, V_succ, e]
      cases D' m
      · exact ih
      · exact ap_mem hl _ _
    · rw [V_not hl, V_not hl, ih]
theorem V_lt {f : Foot} {j : Nat} {l : Nat} : ∀ (n : Nat), j ≤ n → V σ f (fun i => decide (i < j)) n l = V σ f (fun _ => true) j l
  | 0, h => by
    obtain rfl : j = 0 := by omega
    rfl
  | n + 1, h => by
    by_cases hj : j = n + 1
    · subst hj
      exact V_congr (n + 1) (fun i hi _ => by simp [hi])
    · have : decide (n < j) = false := decide_eq_false (by omega)
      rw [V_succ]
      simp only [this, cond_false]
      exact V_lt n (by omega)
structure OkF (ops : Array Oper) (f : Foot) (n : Nat) (bef : Nat → Nat → Prop) : Prop where
  pair : ∀ i j, i < j → j < n → bef i j ∨ ((∀ l ∈ keys f i, l ∉ (f j).1) ∧ (∀ l ∈ keys f j, l ∉ (f i).1) ∧ ∀ l ∈ keys f i, l ∉ keys f j)
  edge : ∀ (j : Nat) (o : Oper), ops[j]? = some o → ∀ e ∈ o.after, Region.binds .any e = true → e.on < j
  bef : ∀ i j (o : Oper), ops[j]? = some o → bef i j → ∃ e ∈ o.after, Region.binds .any e = true ∧ (e.on = i ∨ bef i e.on)
theorem step_state {f : Foot} {n j : Nat} {bef : Nat → Nat → Prop} (hok : OkF ops f n bef) {D : Nat → Bool} (hj : j < n) (hDj : D j = false) (hcl : ∀ i, bef i j → D i = true) (hclD : ∀ d, D d = true → d < n → ∀ i, bef i d → D i = true) :
    (∀ l ∈ (f j).1, V σ f D n l = V σ f (fun _ => true) j l) ∧ ∀ l, ap (f j).2 (V σ f D n) l = V σ f (fun i => D i || Nat.beq i j) n l := by
  have hnb : ∀ i, i < n → bef j i → D i = false := fun i hi hb => by
    cases hDi : D i
    · rfl
    · have := hclD i hDi hi j hb; rw [hDj] at this; cases this
  refine ⟨fun l hl => ?_, fun l => ?_⟩
  · rw [← V_lt (σ := σ) (f := f) (l := l) n (by omega)]
    refine V_congr n (fun i hi hli => ?_)
    rcases Nat.lt_trichotomy i j with h | h | h
    · rw [decide_eq_true h]
      rcases hok.pair i j h hj with hb | ⟨h1, _, _⟩
      · exact hcl i hb
      · exact absurd hl (h1 l hli)
    · subst h; rw [hDj]; simp
    · rw [decide_eq_false (by omega)]
      rcases hok.pair j i h hi with hb | ⟨_, h2, _⟩
      · exact hnb i hi hb
      · exact absurd hl (h2 l hli)
  · by_cases hl : l ∈ keys f j
    · have hlate : ∀ i, i < n → j < i → l ∈ keys f i → D i = false := fun i hi hji hli => by
        rcases hok.pair j i hji hi with hb | ⟨_, _, h3⟩
        · exact hnb i hi hb
        · exact absurd hli (h3 l hl)
      have key : ∀ m, j < m → m ≤ n → V σ f (fun i => D i || Nat.beq i j) m l = ap (f j).2 (V σ f D n) l := by
        intro m
        induction m with
        | zero => intro h; omega
        | succ m ih =>
          intro h1 h2
          by_cases hm : m = j
          · subst hm
            rw [V_succ]
            simp only [show (D m || Nat.beq m m) = true by simp, cond_true]
            exact ap_mem hl _ _
          · have ih := ih (by omega) (by omega)
            have hb : Nat.beq m j = false := by rw [Bool.eq_false_iff]; intro e; exact hm (Nat.eq_of_beq_eq_true e)
            rw [V_succ]
            simp only [hb, Bool.or_false]
            by_cases hlm : l ∈ keys f m
            · rw [hlate m (by omega) (by omega) hlm]; exact ih
            · cases D m
              · exact ih
              · rw [← ih]; exact ap_not_mem hlm _
      exact (key n hj (Nat.le_refl _)).symm
    · rw [ap_not_mem hl]
      refine V_congr n (fun i hi hli => ?_)
      have : Nat.beq i j = false := by
        rw [Bool.eq_false_iff]; intro e
        have := Nat.eq_of_beq_eq_true e
        subst this
        exact hl hli
      simp only [this, Bool.or_false]
end
end Go.Ev
end
