/- Part 2 of this claim: several texts one behind the other: EvOpE, EvOpF, EvOpX, EvOpY. What each shows stands in its theorems; conditions: sizes of texts and lists, as the functions' definitions say. -/
import Derived.Test.YtodkjmbmlobihaaGreatDoorMWhyDepths1
import Derived.ArgAppend
import Derived.Laws.MakeOwn
section
namespace Go.Ev
open Go Go.RowKit
set_option linter.unusedVariables false
set_option linter.unusedSimpArgs false
section
variable {P : Program} {T : Tab} {PC : Orc} {Q : Exit → Act → World → Prop} {o : Oper} {a : Act} {w : World} {B nt : Nat} {w0 : W0} {F0 : Nat → Nat → Prop} {ow : Ow} {σ : St} {K : List Nat → List (Nat × PV) → Prop}
theorem ap_two {d : Nat} (p q : PV) : ap [(3 * d + 1, q), (3 * d, p)] σ = ap (asgn (some d) p) (ap [(3 * d + 1, q)] σ) := by
 funext l
 by_cases h1 : l = 3 * d + 1
 ·rw [h1, ap_self, show ap (asgn (some d) p) (ap [(3 * d + 1, q)] σ) (3 * d + 1) = ap [(3 * d + 1, q)] σ (3 * d + 1) from ap_ne p [] _ (by omega), ap1_self]
 ·rw [ap_ne _ _ _ h1]
  by_cases h2 : l = 3 * d
  ·rw [h2, ap_self, show ap (asgn (some d) p) (ap [(3 * d + 1, q)] σ) (3 * d) = p from ap_self _ _ _ _]
  ·rw [ap_ne _ _ _ h2, show ap (asgn (some d) p) (ap [(3 * d + 1, q)] σ) l = ap [(3 * d + 1, q)] σ l from ap_ne p [] _ h2, ap1_ne _ _ h1]; rfl
theorem InvO.mkBox (hI : InvO F0 B nt w0 ow σ a w) {d : Nat} (hdn : d < nt) (hd : σ (3 * d + 1) = .any) (cs : List PV) (c : Array Value) (T : TypeId) (hl : cs.length = c.size)
 (hc : ∀ (j : Nat) (p : PV) (v : Value), cs[j]? = some p → c[j]? = some v → v.oneCell' = true ∧ RepC (FF F0 ow) w p v ∧ Own B ow w σ p v) (ht : allP (tokOk σ) cs) :
 Inv F0 B nt w0 (ap [(3 * d + 1, .ag cs), (3 * d, .pt d 0)] σ) (a.put (some d) (.pointer (some ⟨w.heap.size, 0, none⟩))) (w.alloc (.cells c T (0, 0))) := by
 have h := hI.box hd cs c T hl hc ht
 refine ⟨_, (ap_two (σ := σ) (d := d) (.pt d 0) (.ag cs)) ▸ h.put (dst := some d) (fun d' e => by cases e; exact hdn) (p := .pt d 0) ⟨w.heap.size, by simp, rfl⟩ ?_⟩
 show wf1 _ 0 (.pt d 0)
 unfold wf1
 simp only [ap1_self]
theorem cellPV_own (v : Value) (hv : v.oneCell' = true) : RepC (FF F0 ow) w (cellPV v) v ∧ Own B ow w σ (cellPV v) v ∧ tokOk σ (cellPV v) := by
 refine ⟨cellPV_rep v, ?_, ?_⟩ <;> (unfold cellPV; split)
 ·exact ⟨none, rfl⟩
 ·trivial
 ·trivial
 ·trivial
theorem allP_of {f : PV → Prop} : ∀ {l : List PV}, (∀ p ∈ l, f p) → allP f l
 | [], _ => trivial
 | p :: r, h => ⟨h p (by simp), allP_of (fun q hq => h q (by simp [hq]))⟩
theorem sim_alloc {t : TypeId} (hT : TabOk P T) (ho : o.op = .alloc t) (hI : InvO F0 B nt w0 ow σ a w) (hd : ∀ d, o.dst = some d → d < nt) (h : (opA P T o).run PC σ K) : o.wp P a w (Sim F0 B nt w0 σ K) Q := by
 unfold opA at h
 rw [ho] at h
 dsimp only at h
 split at h
 ·rename_i i d ht hdst
  simp only [AM.run, force_eq] at h
  split at h
  ·rename_i hany
   simp only [AM.run, forceW_eq] at h
   have hti := hT t i ht
   obtain ⟨ti, z, h1, h2, h3, h4, h5⟩ := hti.info
   have hrun : (execOp a.eval o).run P w = .ok (.value (.pointer (some ⟨w.heap.size, 0, none⟩))) (w.alloc (.cells z.cells t (0, 0))) := by
    unfold execOp; rw [ho]; simp [Instr.alloc, zeroValue, typeInfo, h1, h4, newVar, newRow]
   refine wp_value hrun ⟨_, _, h, ?_⟩
   rw [hdst]
   refine hI.mkBox (hd d hdst) hany (i.zero.map cellPV) z.cells t ?_ (fun j p v hp hv => ?_) (allP_of (fun p hp => ?_))
   ·rw [List.length_map, ← h5]; simp
   ·rw [List.getElem?_map, ← h5] at hp
    have hv2 : z.cells.toList[j]? = some v := by simpa using hv
    rw [hv2] at hp
    cases hp
    have hone := hti.one v (h5 ▸ List.mem_of_getElem? hv2)
    have := cellPV_own (F0 := F0) (B := B) (ow := ow) (w := w) (σ := σ) v hone
    exact ⟨hone, this.1, this.2.1⟩
   ·obtain ⟨v, hv, rfl⟩ := List.mem_map.1 hp
    exact (cellPV_own (F0 := F0) (B := B) (ow := ow) (w := w) (σ := σ) v (hti.one v hv)).2.2
  ·exact h.elim
 ·exact h.elim
theorem cells_rep {p : PV} {v : Value} (h : RepT F0 B ow w σ p v) (hw : wfT σ p) (hc : p.cells.all cellable = true) {q : List PV} (hq : q = p.flat) :
 q.length = v.cells.size ∧ p.cells.length = v.cells.size ∧ (∀ (j : Nat) (p : PV) (v' : Value), q[j]? = some p → v.cells[j]? = some v' → v'.oneCell' = true ∧ RepC (FF F0 ow) w p v' ∧ Own B ow w σ p v') ∧ allP (tokOk σ) q := by
 have own_rc : ∀ p v, RepC (FF F0 ow) w p v → Own B ow w σ (PV.rc p) v := fun p v hp => by
  cases p with
  | sl k z xs => match k with | 0 => trivial | 1 => exact hp.full | k + 2 => trivial
  | _ => trivial
 have tok_rc : ∀ p, cellable p = true → tokOk σ (PV.rc p) := fun p hp => by
  cases p with
  | sl k z xs => match k with | 0 => trivial | 1 => trivial | k + 2 => trivial
  | _ => first | trivial | cases hp
 have single : ∀ p, cellable p = true → RepC (FF F0 ow) w p v → Own B ow w σ p v → tokOk σ p → ([p.nb] : List PV).length = v.cells.size ∧ 1 = v.cells.size ∧ (∀ (j : Nat) (q : PV) (v' : Value), [p.nb][j]? = some q → v.cells[j]? = some v' → v'.oneCell' = true ∧ RepC (FF F0 ow) w q v' ∧ Own B ow w σ q v') ∧ allP (tokOk σ) [p.nb] := by
  intro p hp hr hown htok
  have hv : v.oneCell' = true := by
   cases hr <;> first | rfl | (simp [cellable] at hp; done) | skip
   cases v <;> first | rfl | simp [cellable] at hp
  have hcells : v.cells = #[v] := by cases v <;> first | rfl | simp [Value.oneCell'] at hv
  have hown' : Own B ow w σ p.nb v := by cases p <;> first | exact hown | trivial
  have htok' : tokOk σ p.nb := by cases p <;> first | exact htok | trivial
  rw [hcells]
  refine ⟨rfl, rfl, fun j q v' h1 h2 => ?_, htok', trivial⟩
  cases j with
  | zero =>
   simp at h1 h2
   subst h1
   subst h2
   exact ⟨hv, hr.nb, hown'⟩
  | succ j => simp at h1
 subst hq
 cases p with
 | ag cs =>
  obtain ⟨hr, _⟩ := h
  cases hr with
  | ag cs vs hl hone hh =>
   refine ⟨by simp [PV.flat, Value.cells, hl], by simp [PV.cells, Value.cells, hl], fun j p v' h1 h2 => ?_, allP_of (fun p hp => ?_)⟩
   ·rw [show (PV.ag cs).flat = cs.map PV.rc from rfl] at h1
    rw [List.getElem?_map] at h1
    obtain ⟨p0, h3, rfl⟩ := Option.map_eq_some_iff.1 h1
    have h2' : vs[j]? = some v' := h2
    exact ⟨hone v' (by
     have : vs.toList[j]? = some v' := by simpa using h2'
     exact List.mem_of_getElem? this), (hh j p0 v' h3 h2').rc, own_rc _ _ (hh j p0 v' h3 h2')⟩
   ·obtain ⟨p0, hp0, rfl⟩ := List.mem_map.1 hp
    exact tok_rc p0 (List.all_eq_true.1 hc p0 hp0)
 | pt t o => simp [PV.cells, cellable] at hc
 | tu ps => simp [PV.cells, cellable] at hc
 | s x => exact single _ (by simpa [PV.cells] using hc) h.1 h.2 trivial
 | tt => exact single _ rfl h.1 h.2 trivial
 | ff => exact single _ rfl h.1 h.2 trivial
 | sl k z xs => exact single _ rfl h.1 h.2 hw
 | nl n => exact single _ rfl h.1 h.2 trivial
 | rp cs => simp [PV.cells, cellable] at hc
 | vw => simp [PV.cells, cellable] at hc
 | el => simp [PV.cells, cellable] at hc
 | rw => simp [PV.cells, cellable] at hc
 | xo => simp [PV.cells, cellable] at hc
 | cl => simp [PV.cells, cellable] at hc
 | fr n z => simp [PV.cells, cellable] at hc
 | any => simp [PV.cells, cellable] at hc
theorem sim_box {t : TypeId} {x : Operand} (ho : o.op = .box t x) (hI : InvO F0 B nt w0 ow σ a w) (hd : ∀ d, o.dst = some d → d < nt) (h : (opA P T o).run PC σ K) : o.wp P a w (Sim F0 B nt w0 σ K) Q := by
 unfold opA at h
 rw [ho] at h
 obtain ⟨p, R0, h1, h2, h3⟩ := evO_inv hI x _ _ h
 split at h3
 ·rename_i d hdst
  cases hc : p.cells.all cellable
  ·rw [hc] at h3; exact h3.elim
  rw [hc] at h3
  simp only [cond_true, AM.run, force_eq] at h3
  split at h3
  ·rename_i hany
   simp only [AM.run, forceW_eq] at h3
   have hrun : (execOp a.eval o).run P w = .ok (.value (.pointer (some ⟨w.heap.size, 0, none⟩))) (w.alloc (.cells (a.eval x).cells t (0, 0))) := by
    unfold execOp; rw [ho]; simp [Instr.box, newVar, newRow]
   obtain ⟨g1, _, g3, g4⟩ := cells_rep h1 h2 hc rfl
   refine wp_value hrun ⟨_, _, h3, ?_⟩
   rw [hdst]
   exact hI.mkBox (hd d hdst) hany _ _ t g1 g3 g4
  ·exact h3.elim
 ·exact h3.elim
theorem splice_get (cs ds : List PV) (k : Nat) (hk : k + ds.length ≤ cs.length) (j : Nat) : (splice cs k ds)[j]? = if k ≤ j ∧ j < k + ds.length then ds[j - k]? else cs[j]? := by
 unfold splice
 have hl : (cs.take k).length = k := by simp; omega
 split
 ·rename_i h
  rw [List.append_assoc, List.getElem?_append_right (by omega), hl, List.getElem?_append_left (by omega)]
 ·rename_i h
  by_cases h1 : j < k
  ·rw [List.append_assoc, List.getElem?_append_left (by omega), List.getElem?_take, if_pos h1]
  ·rw [List.getElem?_append_right (by simp; omega), List.getElem?_drop]
   congr 1
   simp
   omega
theorem sim_store {t : TypeId} {x y : Operand} (hT : TabOk P T) (ho : o.op = .store t x y) (hI : InvO F0 B nt w0 ow σ a w)
 (hX : ∀ i tk v z ix off q R0, T.get t = some i → o.dst = none → RepV ow w σ (.el tk v z ix off) (a.eval x) → RepT F0 B ow w σ q (a.eval y) → wfT σ q → (storeX i tk v z ix off q).run PC σ (fun R ws => K (R0 ++ R) ws) → o.wp P a w (Sim F0 B nt w0 σ K) Q) (h : (opA P T o).run PC σ K) : o.wp P a w (Sim F0 B nt w0 σ K) Q := by
 unfold opA at h
 rw [ho] at h
 obtain ⟨p, R0, h1, h2, h3⟩ := evO_inv hI x _ _ h
 obtain ⟨q, R1, k1, k2, k3⟩ := evO_inv hI y _ _ h3
 split at k3
 ·rename_i i b k ht hdst
  have hti := hT t i ht
  obtain ⟨g, g1, g2⟩ := h1
  obtain ⟨cs0, hcs0⟩ := wf_box h2
  obtain ⟨cs, c, Ty, b1, b2, b3, b4⟩ := (hI.boxes g b g1).box hcs0
  have hwf := hI.wf (3 * b + 1)
  rw [b1] at hwf
  simp only [wf1, mod_box, cond_true] at hwf
  simp only [AM.run, force_eq, b1] at k3
  cases hcond : Nat.beq q.cells.length i.size && Nat.ble (k + i.size) cs.length && q.cells.all cellable
  ·rw [hcond] at k3; exact k3.elim
  rw [hcond] at k3
  simp only [cond_true, AM.run, forceW_eq] at k3
  rw [Bool.and_eq_true, Bool.and_eq_true] at hcond
  obtain ⟨⟨c1, c2⟩, c3⟩ := hcond
  have c1' := Nat.eq_of_beq_eq_true c1
  have c2' := Nat.le_of_ble_eq_true c2
  obtain ⟨e1, e2, e3, e4⟩ := cells_rep k1 k2 c3 rfl
  generalize hds : q.flat = ds at e1 e3 e4 k3
  have hdl : ds.length = i.size := by omega
  have hone : ∀ v ∈ (a.eval y).cells.toList, v.oneCell' = true := fun v hv => by
   obtain ⟨j, hj, hjv⟩ := List.getElem_of_mem hv
   have hj' : j < ds.length := by rw [e1]; simpa using hj
   exact (e3 j ds[j] v (List.getElem?_eq_getElem hj') (by rw [← hjv]; simp)).1
  have hst := run_storeCells_at (P := P) g k Ty (a.eval y).cells.toList 0 c w b2 (by simp; omega) hone
  simp only [Nat.add_zero] at hst
  obtain ⟨ti, z, i1, i2, _⟩ := hti.info
  have hsz : (a.eval y).cells.size = ti.size := by omega
  have hrun : (execOp a.eval o).run P w = .ok .skip (w.setRow g (c.toList.take k ++ (a.eval y).cells.toList ++ c.toList.drop (k + (a.eval y).cells.toList.length)).toArray) := by
   unfold execOp; rw [ho]; simp [Instr.storeAt, Instr.sureAddr, g2, storeVar, sizeOf, typeInfo, i1, hsz, hst]
  refine wp_skipped hrun ⟨_, _, k3, ow, ?_⟩
  rw [hdst]
  have hcl : (c.toList.take k ++ (a.eval y).cells.toList ++ c.toList.drop (k + (a.eval y).cells.toList.length)).length = c.size := by simp; omega
  have hget : ∀ j, (c.toList.take k ++ (a.eval y).cells.toList ++ c.toList.drop (k + (a.eval y).cells.toList.length))[j]? = if k ≤ j ∧ j < k + ds.length then (a.eval y).cells[j - k]? else c[j]? := fun j => by
   have hl : (c.toList.take k).length = k := by simp; omega
   have hl2 : (a.eval y).cells.toList.length = ds.length := by simp [e1]
   split
   ·rename_i h
    rw [List.append_assoc, List.getElem?_append_right (by omega), hl, List.getElem?_append_left (by omega)]; simp
   ·rename_i h
    by_cases h1 : j < k
    ·rw [List.append_assoc, List.getElem?_append_left (by omega), List.getElem?_take, if_pos h1]; simp
    ·rw [List.getElem?_append_right (by rw [List.length_append]; omega), List.getElem?_drop, List.length_append, hl, hl2, show k + ds.length + (j - (k + ds.length)) = j by omega]; simp
  have hspl : (splice cs k ds).length = cs.length := by unfold splice; simp; omega
  refine hI.store g1 (splice cs k ds) _ c Ty b2 (by rw [hspl, List.size_toArray, hcl, b3]) ⟨cs0, hcs0⟩ (fun j p v hp hv => ?_) (allP_of (fun p hp => ?_))
  ·rw [splice_get cs ds k (by omega)] at hp
   have hv' : (c.toList.take k ++ (a.eval y).cells.toList ++ c.toList.drop (k + (a.eval y).cells.toList.length))[j]? = some v := by simpa using hv
   rw [hget j] at hv'
   split at hp
   ·rename_i hj
    rw [if_pos hj] at hv'
    exact e3 _ p v hp hv'
   ·rename_i hj
    rw [if_neg hj] at hv'
    exact b4 j p v hp hv'
  ·unfold splice at hp
   rcases List.mem_append.1 hp with hp | hp
   ·rcases List.mem_append.1 hp with hp | hp
    ·obtain ⟨j, hj, rfl⟩ := List.getElem_of_mem (List.mem_of_mem_take hp)
     exact allP_get hwf (List.getElem?_eq_getElem hj)
    ·obtain ⟨j, hj, rfl⟩ := List.getElem_of_mem hp
     exact allP_get e4 (List.getElem?_eq_getElem hj)
   ·obtain ⟨j, hj, rfl⟩ := List.getElem_of_mem (List.mem_of_mem_drop hp)
    exact allP_get hwf (List.getElem?_eq_getElem hj)
 ·rename_i i tk v z ix off ht hdst
  refine hX i tk v z ix off q (R0 ++ R1) ht hdst h1 k1 k2 (run_mono _ (fun R ws hk => ?_) k3)
  rw [List.append_assoc]; exact hk
 ·exact k3.elim
theorem InvO.mkRow (hI : InvO F0 B nt w0 ow σ a w) {w' : World} {d : Nat} (hdn : d < nt) (hd : σ (3 * d + 1) = .any) (he : Ext w w') {g z hi N : Nat} {xs : List PV} (hg1 : w.heap.size ≤ g) (hg2 : g < w'.heap.size) (hz : 0 < z) (hhi : hi ≤ xs.length)
 (hrow : ∀ ow' : Ow, (∀ b, b < w.heap.size → ow' b = ow b) → RowBlk (CellX F0 ow' w' (2 * d)) w' z xs g N) :
 Inv F0 B nt w0 (ap [(3 * d + 1, .rw 0 z xs), (3 * d, .vw d 0 z 0 hi)] σ) (a.put (some d) (.slice (some ⟨g, 0, none⟩) hi N)) w' := by
 have h := hI.newObj hd (P := .rw 0 z xs) (fun h => by cases h) hg1 hg2 he (fun σ' _ _ _ => hz) (fun ow' σ' ho hg h2 hP => Or.inr ⟨0, z, xs, N, hP, hrow ow' (fun b hb => ho b hb (by omega)), fun e => absurd e (by decide)⟩)
 refine ⟨_, (ap_two (σ := σ) (d := d) (.vw d 0 z 0 hi) (.rw 0 z xs)) ▸ h.put (dst := some d) (fun d' e => by cases e; exact hdn) (p := .vw d 0 z 0 hi) ?_ ?_⟩
 ·obtain ⟨cur, e, k1, k2, k3, k4, _⟩ := hrow (fun b => if b = g then some (2 * d, 0) else ow b) (fun b hb => if_neg (by omega))
  refine ⟨Nat.zero_le _, Or.inr ⟨g, N, by omega, by simp, fun xs' hx => ?_⟩⟩
  rw [ap1_self] at hx
  cases hx
  exact ⟨if_pos rfl, hhi, cur, e, k1, k3⟩
 ·unfold wfT wf1
  simp only []
  unfold tokOk
  simp only [ap1_self]
  rfl
theorem InvO.mkNil (hI : InvO F0 B nt w0 ow σ a w) {d : Nat} (hdn : d < nt) (hd : σ (3 * d + 1) = .any) {z : Nat} (hz : 0 < z) (A : Option Addr) :
 Inv F0 B nt w0 (ap [(3 * d + 1, .rw 0 z []), (3 * d, .vw d 0 z 0 0)] σ) (a.put (some d) (.slice A 0 0)) w := by
 have h2 : ∀ k, ap [(3 * d + 1, PV.rw 0 z [])] σ (3 * k + 2) = σ (3 * k + 2) := fun k => ap1_ne _ _ (by omega)
 have h1 : ∀ k, k ≠ d → ap [(3 * d + 1, PV.rw 0 z [])] σ (3 * k + 1) = σ (3 * k + 1) := fun k hk => ap1_ne _ _ (by omega)
 have h : InvO F0 B nt w0 ow (ap [(3 * d + 1, .rw 0 z [])] σ) a w := by
  refine hI.objs (fun k => k = d) (.of (Below.refl _ _)) (fun k => ap1_ne _ _ (by omega)) h2 h1 (fun k hk => ?_) (fun k hk => ?_) (fun k hk cs h => ?_) (fun k hk v' z' xs' h => Or.inl (by rw [hk]; exact hd)) (fun p v h => h) (fun b c l h _ => ⟨h, rfl⟩) (fun b k hk h => h) hI.owB
   (fun b k hk h => ?_) (fun b b' k hk h h' => hI.uniq b b' k h h') (fun p v k hk hp g1 g2 _ => ?_)
  ·subst hk; rw [ap1_self]; exact fun h => by cases h
  ·subst hk; rw [ap1_self]; exact hz
  ·subst hk; rw [hd] at h; cases h
  ·subst hk; exact absurd h (fresh_ow hI hd b)
  ·subst hk; exact (fresh_no hd hp g1 g2).elim
 refine ⟨_, (ap_two (σ := σ) (d := d) (.vw d 0 z 0 0) (.rw 0 z [])) ▸ h.put (dst := some d) (fun d' e => by cases e; exact hdn) (p := .vw d 0 z 0 0) ?_ ?_⟩
 ·refine ⟨Nat.le_refl _, Or.inl ⟨rfl, ⟨A, rfl⟩, fun xs' hx => ?_⟩⟩
  rw [ap1_self] at hx
  cases hx
  exact ⟨rfl, fun b hb => absurd hb (fresh_ow hI hd b)⟩
 ·unfold wfT wf1
  simp only []
  unfold tokOk
  simp only [ap1_self]
  rfl
theorem cells_raw {p : PV} {v : Value} (h : RepT F0 B ow w σ p v) (hc : p.cells.all cellable = true) :
 p.cells.length = v.cells.size ∧ ∀ (j : Nat) (q : PV) (v' : Value), p.cells[j]? = some q → v.cells[j]? = some v' → v'.oneCell' = true ∧ RepC (FF F0 ow) w q v' := by
 have single : cellable p = true → p.cells = [p] → RepC (FF F0 ow) w p v → p.cells.length = v.cells.size ∧ ∀ (j : Nat) (q : PV) (v' : Value), p.cells[j]? = some q → v.cells[j]? = some v' → v'.oneCell' = true ∧ RepC (FF F0 ow) w q v' := by
  intro hp hcl hr
  have hv : v.oneCell' = true := by
   cases hr <;> first | rfl | (simp [cellable] at hp; done) | skip
   cases v <;> first | rfl | simp [cellable] at hp
  have hcells : v.cells = #[v] := by cases v <;> first | rfl | simp [Value.oneCell'] at hv
  rw [hcl, hcells]
  refine ⟨rfl, fun j q v' h1 h2 => ?_⟩
  cases j with
  | zero => simp at h1 h2; subst h1; subst h2; exact ⟨hv, hr⟩
  | succ j => simp at h1
 cases p with
 | ag cs =>
  obtain ⟨hr, _⟩ := h
  cases hr with
  | ag cs vs hl hone hh =>
   refine ⟨by simp [PV.cells, Value.cells, hl], fun j q v' h1 h2 => ?_⟩
   have h2' : vs[j]? = some v' := h2
   exact ⟨hone v' (by
    have : vs.toList[j]? = some v' := by simpa using h2'
    exact List.mem_of_getElem? this), hh j q v' h1 h2'⟩
 | s x => exact single (by simpa [PV.cells] using hc) rfl h.1
 | tt => exact single rfl rfl h.1
 | ff => exact single rfl rfl h.1
 | sl k z xs => exact single rfl rfl h.1
 | nl n => exact single rfl rfl h.1
 | _ => simp [PV.cells, cellable] at hc
theorem rc_okC {q : PV} (h : cellable q = true) : okC q.rc ∧ q.rc.isX = false := by
 cases q with
 | sl k z xs => match k with | 0 => exact ⟨trivial, rfl⟩ | 1 => exact ⟨trivial, rfl⟩ | k + 2 => exact ⟨trivial, rfl⟩
 | s x => exact ⟨trivial, rfl⟩
 | tt => exact ⟨trivial, rfl⟩
 | ff => exact ⟨trivial, rfl⟩
 | nl => exact ⟨trivial, rfl⟩
 | _ => simp [cellable] at h
theorem cells_rc {p : PV} {v : Value} (h : RepT F0 B ow w σ p v) (hc : p.cells.all cellable = true) :
 p.cells.length = v.cells.size ∧ ∀ (j : Nat) (p' : PV) (v' : Value), (p.cells.map PV.rc)[j]? = some p' → v.cells[j]? = some v' → v'.oneCell' = true ∧ (∀ q, CellP F0 ow w q p' v') ∧ p'.isX = false := by
 obtain ⟨h2, h3⟩ := cells_raw h hc
 refine ⟨h2, fun j q v' hq hv => ?_⟩
 rw [List.getElem?_map] at hq
 obtain ⟨q0, hq0, rfl⟩ := Option.map_eq_some_iff.1 hq
 obtain ⟨g1, g2⟩ := h3 j q0 v' hq0 hv
 obtain ⟨k1, k2⟩ := rc_okC (List.all_eq_true.1 hc q0 (List.mem_of_getElem? hq0))
 exact ⟨g1, fun _ => ⟨g2.rc, trivial, fun _ => g1⟩, k2⟩
theorem CellX.of {c q : Nat} {p : PV} {u : Value} (h : CellP F0 ow w q p u) : CellX F0 ow w c q p u := by
 cases p with
 | xo => cases h.1
 | _ => exact h
theorem fill_fold (off : Nat) : ∀ (vs : List Value) (s : Nat) (cells : Array Value), off + s + vs.length ≤ cells.size →
 ((vs.zipIdx s).foldl (fun cs (c, j) => cs.setIfInBounds (off + j) c) cells).size = cells.size ∧
 ∀ m, ((vs.zipIdx s).foldl (fun cs (c, j) => cs.setIfInBounds (off + j) c) cells)[m]? = if off + s ≤ m ∧ m < off + s + vs.length then vs[m - (off + s)]? else cells[m]?
 | [], s, cells, _ => ⟨rfl, fun m => by rw [if_neg (by simp only [List.length_nil]; omega)]; rfl⟩
 | v :: r, s, cells, h => by
  simp only [List.zipIdx_cons, List.foldl_cons]
  obtain ⟨h1, h2⟩ := fill_fold off r (s + 1) (cells.setIfInBounds (off + s) v) (by simp at h ⊢; omega)
  refine ⟨by rw [h1]; simp, fun m => ?_⟩
  rw [h2 m]
  simp only [List.length_cons] at h ⊢
  by_cases hm : m = off + s
  ·subst hm
   rw [if_neg (by omega), if_pos (by omega), Nat.sub_self, Array.getElem?_setIfInBounds_self_of_lt (by omega)]; rfl
  ·by_cases hm2 : off + (s + 1) ≤ m ∧ m < off + (s + 1) + r.length
   ·rw [if_pos hm2, if_pos (by omega), show m - (off + s) = (m - (off + (s + 1))) + 1 by omega]; simp
   ·rw [if_neg hm2, if_neg (by omega), Array.getElem?_setIfInBounds_ne (by omega)]
theorem fill_step (place : Nat → Option (Nat × Nat)) (cells : Array Value) (i off n : Nat) (v : Value) (rest : List (Nat × Value)) (hp : place i = some (off, n)) (hv : v.cells.size = n) (ho : off + n ≤ cells.size) :
 ∃ cells', cells'.size = cells.size ∧ (∀ m, cells'[m]? = if off ≤ m ∧ m < off + n then v.cells[m - off]? else cells[m]?) ∧ Instr.fill place cells ((i, v) :: rest) = Instr.fill place cells' rest := by
 refine ⟨_, (fill_fold off v.cells.toList 0 cells (by simp; omega)).1, fun m => ?_, ?_⟩
 ·rw [(fill_fold off v.cells.toList 0 cells (by simp; omega)).2 m]
  simp [hv]
 ·conv => lhs; unfold Instr.fill
  rw [hp]
  simp only []
  rw [if_neg (by simp; omega)]
  congr 1
  rw [← Array.foldl_toList]
  simp
def CellsRep (F0 : Nat → Nat → Prop) (ow : Ow) (w : World) (cs : List PV) (c : Array Value) : Prop := cs.length = c.size ∧ ∀ (j : Nat) (p : PV) (v : Value), cs[j]? = some p → c[j]? = some v → v.oneCell' = true ∧ RepC (FF F0 ow) w p v
theorem flat_rep {p : PV} {v : Value} (h : RepT F0 B ow w σ p v) (hw : wfT σ p) (hc : p.cells.all cellable = true) : p.cells.length = v.cells.size ∧ CellsRep F0 ow w (p.cells.map PV.ro) v.cells := by
 obtain ⟨h1, h2, h3, _⟩ := cells_rep h hw hc rfl
 refine ⟨h2, by simp [h2], fun j q v' hq hv => ?_⟩
 rw [List.getElem?_map] at hq
 obtain ⟨q0, hq0, rfl⟩ := Option.map_eq_some_iff.1 hq
 have : p.flat[j]? = some (match p with | .ag _ => q0.rc | _ => q0.nb) := by
  cases p with
  | ag cs => simp only [PV.flat, List.getElem?_map]; simp only [PV.cells] at hq0; rw [hq0]; rfl
  | _ =>
   simp only [PV.cells] at hq0
   cases j with
   | zero => simp at hq0; subst hq0; rfl
   | succ j => simp at hq0
 obtain ⟨g1, g2, _⟩ := h3 j _ v' this hv
 refine ⟨g1, ?_⟩
 have e : ∀ q : PV, q.nb.ro = q.ro := fun q => by cases q <;> rfl
 have e2 : ∀ q : PV, q.rc.ro = q.ro := fun q => by
  cases q with
  | sl k z xs => match k with | 0 => rfl | 1 => rfl | k + 2 => rfl
  | _ => rfl
 cases p with
 | ag cs => have := g2.ro; simp only [e2] at this; exact this
 | _ => have := g2.ro; simp only [e] at this; exact this
theorem flat_repF (f : PV → PV) (hf : f = PV.ro ∨ f = PV.rc) {p : PV} {v : Value} (h : RepT F0 B ow w σ p v) (hw : wfT σ p) (hc : p.cells.all cellable = true) : p.cells.length = v.cells.size ∧ CellsRep F0 ow w (p.cells.map f) v.cells := by
 obtain ⟨h2, h3⟩ := cells_raw h hc
 refine ⟨h2, by simp [h2], fun j q v' hq hv => ?_⟩
 rw [List.getElem?_map] at hq
 obtain ⟨q0, hq0, rfl⟩ := Option.map_eq_some_iff.1 hq
 obtain ⟨g1, g2⟩ := h3 j q0 v' hq0 hv
 rcases hf with rfl | rfl
 ·exact ⟨g1, g2.ro⟩
 ·exact ⟨g1, g2.rc⟩
theorem fill_rep (f : PV → PV) (hf : f = PV.ro ∨ f = PV.rc) (fs : List (Nat × Bool × Nat)) (place : Nat → Option (Nat × Nat)) (hpl : ∀ i off ag n, fs[i]? = some (off, ag, n) → place i = some (off, n)) : ∀ (is : List Nat) (ps : List PV) (vs : List Value) (cs : List PV) (c : Array Value) (r : List PV),
 is.length = ps.length → RepL F0 B ow w σ ps vs → CellsRep F0 ow w cs c → fillP f fs cs (is.zip ps) = some r → ∃ c', Instr.fill place c (is.zip vs) = some c' ∧ CellsRep F0 ow w r c'
 | [], [], [], cs, c, r, _, _, hc, h => by
  simp only [List.zip_nil_left, fillP] at h ⊢
  cases h
  exact ⟨c, rfl, hc⟩
 | i :: is, p :: ps, v :: vs, cs, c, r, hl, hp, hc, h => by
  simp only [List.zip_cons_cons] at h ⊢
  unfold fillP at h
  split at h
  ·rename_i off ag n hfs
   cases hb : Nat.beq p.cells.length n && Nat.ble (off + n) cs.length && p.cells.all cellable
   ·rw [hb] at h; cases h
   rw [hb] at h
   simp only [cond_true] at h
   rw [Bool.and_eq_true, Bool.and_eq_true] at hb
   have b1 := Nat.eq_of_beq_eq_true hb.1.1
   have b2 := Nat.le_of_ble_eq_true hb.1.2
   obtain ⟨e1, e2, e3⟩ := flat_repF f hf hp.1.1 hp.1.2 hb.2
   obtain ⟨c1, c2⟩ := hc
   obtain ⟨c', s1, s2, s3⟩ := fill_step place c i off n v (is.zip vs) (hpl _ _ _ _ hfs) (by omega) (by omega)
   rw [s3]
   refine fill_rep f hf fs place hpl is ps vs _ c' r (by simpa using hl) hp.2 ⟨?_, fun j q u hq hu => ?_⟩ h
   ·unfold splice; simp; omega
   ·rw [splice_get _ _ _ (by simp; omega)] at hq
    rw [s2 j] at hu
    simp only [List.length_map, b1] at hq
    split at hq
    ·rename_i hj
     rw [if_pos hj] at hu
     exact e3 _ q u hq hu
    ·rename_i hj
     rw [if_neg hj] at hu
     exact c2 j q u hq hu
  ·cases h
 | [], _ :: _, vs, cs, c, r, hl, _, _, _ => by simp at hl
 | _ :: _, [], vs, cs, c, r, hl, _, _, _ => by simp at hl
 | [], [], _ :: _, cs, c, r, _, hp, _, _ => hp.elim
 | _ :: _, _ :: _, [], cs, c, r, _, hp, _, _ => hp.elim
theorem places_map : ∀ (fs : List Field) (out : List (Nat × Bool × Nat)), fs.length = out.length → (∀ (i : Nat) (x : Nat × Bool × Nat), out[i]? = some x → ∃ fd ti, fs[i]? = some fd ∧ fd.offset = x.1 ∧ P.info? fd.type = some ti ∧ ti.size = x.2.2) →
 fs.mapM (fun f => (P.info? f.type).map fun i => (f.offset, i.size)) = some (out.map fun x => (x.1, x.2.2))
 | [], [], _, _ => rfl
 | f :: fs, x :: out, hl, h => by
  obtain ⟨fd, ti, h1, h2, h3, h4⟩ := h 0 x rfl
  cases h1
  have ih := places_map fs out (by simpa using hl) (fun i x hi => by simpa using h (i + 1) x (by simpa using hi))
  rw [List.mapM_cons, h3, ih]
  simp [h2, h4]
 | [], _ :: _, hl, _ => by simp at hl
 | _ :: _, [], hl, _ => by simp at hl
theorem zero_rep {t : Nat} {i : TyI} {z : Value} (hT : TyOk P t i) (hz : z.cells.toList = i.zero) : CellsRep F0 ow w (i.zero.map cellPV) z.cells := by
 refine ⟨by rw [List.length_map, ← hz]; simp, fun j p v hp hv => ?_⟩
 rw [List.getElem?_map, ← hz] at hp
 have hv2 : z.cells.toList[j]? = some v := by simpa using hv
 rw [hv2] at hp
 cases hp
 exact ⟨hT.one v (hz ▸ List.mem_of_getElem? hv2), cellPV_rep v⟩
theorem sim_build {t : TypeId} {ps : Array (Nat × Operand)} (hT : TabOk P T) (ho : o.op = .build t ps) (hI : InvO F0 B nt w0 ow σ a w) (hd : ∀ d, o.dst = some d → d < nt) (h : (opA P T o).run PC σ K) : o.wp P a w (Sim F0 B nt w0 σ K) Q := by
 unfold opA at h
 rw [ho] at h
 dsimp only at h
 split at h
 ·rename_i fs n by_ zero ht
  have hti := hT _ _ ht
  obtain ⟨fields, hu, hfl⟩ : ∃ fields, P.underlying t = some (.struct fields) ∧ fields.size = fs.length := by
   obtain ⟨d, h1, h2⟩ := hti.und
   obtain ⟨fields, rfl, h3, _⟩ := h2
   exact ⟨fields, h1, h3⟩
  obtain ⟨fields', hu', hf⟩ := fldOk hT ht rfl
  obtain rfl : fields' = fields := by rw [hu] at hu'; cases hu'; rfl
  obtain ⟨ti, z, i1, i2, i3, i4, i5⟩ := hti.info
  obtain ⟨vs, R0, h1, h3⟩ := evOs_inv hI _ _ _ h
  cases hfill : fillP (bif T.isXo o.dst then PV.rc else PV.ro) fs (zero.map cellPV) ((ps.toList.map (·.1)).zip vs) with
  | none => rw [hfill] at h3; exact h3.elim
  | some r =>
   rw [hfill] at h3
   have hpl := places_map (P := P) fields'.toList fs (by simpa using hfl) (fun i x hx => by
    obtain ⟨fd, f1, f2, ⟨ti, f3, f4, _⟩, _⟩ := hf i x.1 x.2.1 x.2.2 hx
    exact ⟨fd, ti, by simpa using f1, f2, f3, f4⟩)
   have hlen : (ps.toList.map (·.1)).length = vs.length := by
    have : ∀ (ps : List PV) (vs : List Value), RepL F0 B ow w σ ps vs → ps.length = vs.length := by
     intro ps
     induction ps with
     | nil => intro vs h; cases vs with | nil => rfl | cons => exact h.elim
     | cons p r ih => intro vs h; cases vs with | nil => exact h.elim | cons v q => simp [ih q h.2]
    have := this _ _ h1
    simp at this ⊢
    omega
   obtain ⟨c', hc', hcr⟩ := fill_rep (B := B) (σ := σ) (bif T.isXo o.dst then PV.rc else PV.ro) (by cases T.isXo o.dst <;> simp) fs ((fs.map fun x => (x.1, x.2.2)).toArray[·]?) (fun i off ag n hi => by simp [hi]) (ps.toList.map (·.1)) vs _ _ _ r hlen h1 (zero_rep hti i5) hfill
   have hzip : (ps.toList.map (·.1)).zip ((ps.toList.map (·.2)).map a.eval) = (ps.map fun (i, x) => (i, a.eval x)).toList := by
    rw [List.map_map, List.zip_map', Array.toList_map]; rfl
   have hb : P.built t (ps.map fun (i, x) => (i, a.eval x)).toList = some c' := by
    unfold Program.built
    rw [i1, hu]
    simp only [i4, hpl]
    rw [← hzip]
    exact hc'
   refine sim_plain (PC := PC) (p := .ag r) hI hd (v := .agg c') ?_ rfl (.ag _ _ hcr.1 (fun v hv => ?_) (fun j p v hp hv => (hcr.2 j p v hp hv).2)) h3
   ·unfold execOp; rw [ho]; simp only [Sem.run_bind, run_build w t _ c' hb, Result.andThen_ok]; rfl
   ·obtain ⟨j, hj, hjv⟩ := List.getElem_of_mem hv
    have hj' : j < r.length := by rw [hcr.1]; simpa using hj
    exact (hcr.2 j r[j] v (List.getElem?_eq_getElem hj') (by rw [← hjv]; simp)).1
 ·exact h.elim
theorem fill_row (size : Nat) : ∀ (ps : List PV) (vs : List Value) (m : Nat) (c : Array Value), RepL F0 B ow w σ ps vs → (∀ p ∈ ps, p.cells.length = size ∧ p.cells.all cellable = true) → (m + ps.length) * size ≤ c.size →
 ∃ c', Instr.fill (fun i => some (i * size, size)) c ((List.range' m ps.length).zip vs) = some c' ∧ c'.size = c.size ∧ (∀ j, j < m * size → c'[j]? = c[j]?) ∧
  ∀ (i j : Nat) (p q : PV), ps[i]? = some p → (p.cells.map PV.ro)[j]? = some q → ∃ v, c'[(m + i) * size + j]? = some v ∧ v.oneCell' = true ∧ RepC (FF F0 ow) w q v
 | [], [], m, c, _, _, _ => ⟨c, rfl, rfl, fun _ _ => rfl, fun i j p q h => by simp at h⟩
 | p :: ps, v :: vs, m, c, hp, hs, hl => by
  simp only [List.length_cons, List.range'_succ, List.zip_cons_cons]
  obtain ⟨e1, e2, e3⟩ := flat_rep hp.1.1 hp.1.2 (hs p (by simp)).2
  have hpl := (hs p (by simp)).1
  have hle : m * size + size ≤ c.size := by
   have : (m + 1) * size ≤ (m + (p :: ps).length) * size := Nat.mul_le_mul_right _ (by simp)
   rw [Nat.add_mul, Nat.one_mul] at this
   omega
  obtain ⟨c1, s1, s2, s3⟩ := fill_step (fun i => some (i * size, size)) c m (m * size) size v ((List.range' (m + 1) ps.length).zip vs) rfl (by omega) hle
  rw [s3]
  obtain ⟨c', t1, t2, t3, t4⟩ := fill_row size ps vs (m + 1) c1 hp.2 (fun q hq => hs q (by simp [hq])) (by rw [s1]; simpa [Nat.add_assoc, Nat.add_comm 1] using hl)
  refine ⟨c', t1, by rw [t2, s1], fun j hj => ?_, fun i j p' q hi hq => ?_⟩
  ·rw [t3 j (by rw [Nat.add_mul]; omega), s2 j, if_neg (by omega)]
  ·cases i with
   | zero =>
    simp at hi
    subst hi
    have hj : j < size := by have := (List.getElem?_eq_some_iff.1 hq).1; simp at this; omega
    have hj2 : j < v.cells.size := by omega
    refine ⟨v.cells[j], ?_, e3 j q _ hq (Array.getElem?_eq_getElem hj2)⟩
    rw [Nat.add_zero, t3 _ (by rw [Nat.add_mul]; omega), s2, if_pos (by omega), show m * size + j - m * size = j by omega]
    exact Array.getElem?_eq_getElem hj2
   | succ i =>
    obtain ⟨u, u1, u2⟩ := t4 i j p' q (by simpa using hi) hq
    exact ⟨u, by rw [show m + (i + 1) = m + 1 + i by omega]; exact u1, u2⟩
 | [], _ :: _, _, _, h, _, _ => h.elim
 | _ :: _, [], _, _, h, _, _ => h.elim
theorem RepL.len : ∀ {ps : List PV} {vs : List Value}, RepL F0 B ow w σ ps vs → ps.length = vs.length
 | [], [], _ => rfl
 | _ :: _, _ :: _, h => by simp [RepL.len h.2]
 | [], _ :: _, h => h.elim
 | _ :: _, [], h => h.elim
theorem elem_cells {p : PV} (h : p.cells.all cellable = true) : p.elem.cells = p.cells.map PV.ro := by
 cases p <;> first | rfl | simp [PV.cells, cellable] at h
theorem repL_at : ∀ {ps : List PV} {vs : List Value}, RepL F0 B ow w σ ps vs → ∀ (i : Nat) (v : Value), vs[i]? = some v → ∃ p, ps[i]? = some p ∧ RepT F0 B ow w σ p v ∧ wfT σ p
 | [], [], _, i, v, h => by simp at h
 | p :: ps, v :: vs, h, 0, u, hu => by simp at hu; subst hu; exact ⟨p, rfl, h.1⟩
 | p :: ps, v :: vs, h, i + 1, u, hu => by simpa using repL_at h.2 i u (by simpa using hu)
 | [], _ :: _, h, _, _, _ => h.elim
 | _ :: _, [], h, _, _, _ => h.elim
theorem vals_size {ps : List PV} {vs : List Value} {size : Nat} (h : RepL F0 B ow w σ ps vs) (hs : ∀ p ∈ ps, p.cells.length = size ∧ p.cells.all cellable = true) (v : Value) (hv : v ∈ vs) : v.cells.size = size := by
 obtain ⟨i, hi, rfl⟩ := List.getElem_of_mem hv
 obtain ⟨p, hp, hr⟩ := repL_at h i _ (List.getElem?_eq_getElem hi)
 have := hs p (List.mem_of_getElem? hp)
 rw [← (cells_raw hr.1 this.2).1, this.1]
theorem fill_pre (size : Nat) : ∀ (vs : List Value) (m : Nat) (c : Array Value), (∀ v ∈ vs, v.cells.size = size) → (m + vs.length) * size ≤ c.size →
 ∃ c', Instr.fill (fun i => some (i * size, size)) c ((List.range' m vs.length).zip vs) = some c' ∧ c'.size = c.size ∧ ∀ j, j < m * size → c'[j]? = c[j]?
 | [], m, c, _, _ => ⟨c, rfl, rfl, fun _ _ => rfl⟩
 | v :: vs, m, c, hs, hl => by
  simp only [List.length_cons, List.range'_succ, List.zip_cons_cons]
  have hvs := hs v (by simp)
  have hle : m * size + size ≤ c.size := by
   have : (m + 1) * size ≤ (m + (v :: vs).length) * size := Nat.mul_le_mul_right _ (by simp)
   rw [Nat.add_mul, Nat.one_mul] at this
   omega
  obtain ⟨c1, s1, s2, s3⟩ := fill_step (fun i => some (i * size, size)) c m (m * size) size v ((List.range' (m + 1) vs.length).zip vs) rfl hvs hle
  rw [s3]
  obtain ⟨c', t1, t2, t3⟩ := fill_pre size vs (m + 1) c1 (fun q hq => hs q (by simp [hq])) (by rw [s1]; simpa [Nat.add_assoc, Nat.add_comm 1] using hl)
  exact ⟨c', t1, by rw [t2, s1], fun j hj => by rw [t3 j (by rw [Nat.add_mul]; omega), s2, if_neg (by omega)]⟩
theorem fill_rowV (size : Nat) : ∀ (vs : List Value) (m : Nat) (c : Array Value), (∀ v ∈ vs, v.cells.size = size) → (m + vs.length) * size ≤ c.size →
 ∃ c', Instr.fill (fun i => some (i * size, size)) c ((List.range' m vs.length).zip vs) = some c' ∧ c'.size = c.size ∧ ∀ (i j : Nat) (v : Value), vs[i]? = some v → j < size → c'[(m + i) * size + j]? = v.cells[j]?
 | [], m, c, _, _ => ⟨c, rfl, rfl, fun i j v h => by simp at h⟩
 | v :: vs, m, c, hs, hl => by
  simp only [List.length_cons, List.range'_succ, List.zip_cons_cons]
  have hvs := hs v (by simp)
  have hle : m * size + size ≤ c.size := by
   have : (m + 1) * size ≤ (m + (v :: vs).length) * size := Nat.mul_le_mul_right _ (by simp)
   rw [Nat.add_mul, Nat.one_mul] at this
   omega
  obtain ⟨c1, s1, s2, s3⟩ := fill_step (fun i => some (i * size, size)) c m (m * size) size v ((List.range' (m + 1) vs.length).zip vs) rfl hvs hle
  rw [s3]
  obtain ⟨c', t1, t2, t4⟩ := fill_rowV size vs (m + 1) c1 (fun q hq => hs q (by simp [hq])) (by rw [s1]; simpa [Nat.add_assoc, Nat.add_comm 1] using hl)
  obtain ⟨c3, u1, u2, u3⟩ := fill_pre size vs (m + 1) c1 (fun q hq => hs q (by simp [hq])) (by rw [s1]; simpa [Nat.add_assoc, Nat.add_comm 1] using hl)
  rw [t1] at u1
  cases u1
  refine ⟨c', t1, by rw [t2, s1], fun i j u hi hj => ?_⟩
  cases i with
  | zero =>
   simp at hi
   subst hi
   rw [Nat.add_zero, u3 _ (by rw [Nat.add_mul]; omega), s2, if_pos (by omega), show m * size + j - m * size = j by omega]
  | succ i => rw [show m + (i + 1) = m + 1 + i by omega]; exact t4 i j u (by simpa using hi) hj
theorem rc_cells {q : PV} (h : cellable q = true) : q.rc.cells = [q.rc] := by
 cases q with
 | sl k z xs => match k with | 0 => rfl | 1 => rfl | k + 2 => rfl
 | s x => rfl
 | tt => rfl
 | ff => rfl
 | nl => rfl
 | _ => simp [cellable] at h
theorem withCells_cells {y : PV} {cs : List PV} (hy : y.cells.all cellable = true) (hl : cs.length = y.cells.length) (h1 : ∀ c ∈ cs, c.cells = [c]) : (y.withCells cs).cells = cs := by
 have single : (∀ l, y ≠ .ag l) → (y.withCells cs).cells = cs := fun hne => by
  have hc : y.cells = [y] := by cases y <;> first | rfl | exact absurd rfl (hne _)
  rw [hc] at hl
  match cs, hl with
  | [c], _ =>
   have : y.withCells [c] = c := by cases y <;> first | rfl | exact absurd rfl (hne _)
   rw [this]; exact h1 c (by simp)
 cases y with
 | ag l => rfl
 | _ => exact single (fun l e => by cases e)
theorem rcs_cells {y : PV} (hy : y.cells.all cellable = true) : (y.withCells (y.cells.map PV.rc)).cells = y.cells.map PV.rc :=
 withCells_cells hy (by simp) (fun c hc => by
  obtain ⟨q, hq, rfl⟩ := List.mem_map.1 hc
  exact rc_cells (List.all_eq_true.1 hy q hq))
theorem sim_buildSlice {t : TypeId} {n : Nat} {ps : Array (Nat × Operand)} (hT : TabOk P T) (ho : o.op = .buildSlice t n ps) (hI : InvO F0 B nt w0 ow σ a w) (hd : ∀ d, o.dst = some d → d < nt) (h : (opA P T o).run PC σ K) : o.wp P a w (Sim F0 B nt w0 σ K) Q := by
 unfold opA at h
 rw [ho] at h
 dsimp only at h
 split at h
 ·rename_i e n' by_ zz ht
  obtain ⟨d, hu, hk⟩ := (hT _ _ ht).und
  obtain rfl : d = .slice e := hk
  split at h
  ·rename_i ie hte
   have hti := hT _ _ hte
   cases hb : (ps.toList.map (·.1)) == List.range n && Nat.ble (n * ie.size) 16777216
   ·rw [hb] at h; exact h.elim
   rw [hb] at h
   simp only [cond_true] at h
   rw [Bool.and_eq_true] at hb
   have hrg : ps.toList.map (·.1) = List.range n := by simpa using hb.1
   have hlim := Nat.le_of_ble_eq_true hb.2
   obtain ⟨vs, R0, h1, h3⟩ := evOs_inv hI _ _ _ h
   cases hall : vs.all (fun v => Nat.beq v.cells.length ie.size && v.cells.all cellable)
   ·rw [hall] at h3; exact h3.elim
   rw [hall] at h3
   simp only [cond_true] at h3
   have hvs : ∀ p ∈ vs, p.cells.length = ie.size ∧ p.cells.all cellable = true := fun p hp => by
    have := List.all_eq_true.1 hall p hp
    rw [Bool.and_eq_true] at this
    exact ⟨Nat.eq_of_beq_eq_true this.1, this.2⟩
   have hn : vs.length = n := by
    have e1 := h1.len
    have e2 : (ps.toList.map (·.1)).length = n := by rw [hrg]; simp
    simp at e1 e2
    omega
   obtain ⟨ti, z, i1, i2, i3, i4, i5⟩ := hti.info
   have hz : z.cells.size = ie.size := by
    have e1 : z.cells.toList.length = ie.size := by rw [i5, hti.len]
    simpa using e1
   obtain ⟨zero, hz1, hz2⟩ : ∃ zero : Array Value, (n * ie.size = 0 → zero = #[]) ∧ (n * ie.size ≠ 0 → zero = z.cells) := by
    by_cases hz0 : n * ie.size = 0
    ·exact ⟨#[], fun _ => rfl, fun h => absurd hz0 h⟩
    ·exact ⟨z.cells, fun h => absurd h hz0, fun _ => rfl⟩
   obtain ⟨c', f1, f2, f3, f4⟩ := fill_row ie.size vs _ 0 ((Array.range (n * ie.size)).map (zero[· % zero.size]!)) h1 hvs (by simp [hn])
   obtain ⟨c2', f1', f2', f5⟩ := fill_rowV ie.size _ 0 ((Array.range (n * ie.size)).map (zero[· % zero.size]!)) (vals_size h1 hvs) (by rw [← h1.len, hn]; simp)
   have hzip : (List.range' 0 vs.length).zip ((ps.toList.map (·.2)).map a.eval) = (ps.map fun (i, x) => (i, a.eval x)).toList := by
    rw [hn, ← List.range_eq_range', ← hrg, List.map_map, List.zip_map', Array.toList_map]; rfl
   rw [hzip] at f1
   have hrun : (execOp a.eval o).run P w = .ok (.value (.slice (some ⟨w.heap.size, 0, none⟩) n n)) (w.alloc (.cells c' e (0, 0))) := by
    unfold execOp; rw [ho]
    have hlim' : ¬ n * ie.size > 2 ^ 24 := by simp; omega
    have e2 : (ps.map fun (i, x) => (i, a.eval x)) = (ps.map fun x => (x.1, a.eval x.2)) := rfl
    rw [e2] at f1
    by_cases hz0 : n * ie.size = 0
    ·rw [hz1 hz0] at f1
     simp only [Instr.buildSlice, Sem.run_bind, run_underlying hu, Result.andThen_ok, sizeOf_run hti, if_neg hlim', if_pos hz0, Sem.run_pure, f1]
     simp [newRow]
    ·rw [hz2 hz0] at f1
     have hzv : (zeroValue e).run P w = .ok z w := by simp [zeroValue, typeInfo, i1, i4]
     simp only [Instr.buildSlice, Sem.run_bind, run_underlying hu, Result.andThen_ok, sizeOf_run hti, if_neg hlim', if_neg hz0, Sem.run_pure, hzv, f1]
     simp [newRow]
   have he := ext_alloc w (.cells c' e (0, 0))
   have hI2 := hI.ext he
   cases hXo : T.isXo o.dst
   case true =>
    rw [hXo] at h3
    simp only [cond_true] at h3
    split at h3
    ·rename_i d hdst
     simp only [AM.run, force_eq] at h3
     split at h3
     ·rename_i hany
      cases hpos : Nat.blt 0 ie.size
      ·rw [hpos] at h3; exact h3.elim
      rw [hpos] at h3
      have hpos' : 0 < ie.size := Nat.le_of_ble_eq_true hpos
      simp only [cond_true, AM.run, forceW_eq] at h3
      refine wp_value hrun ⟨_, _, h3, ?_⟩
      rw [hdst]
      have hcc : c2' = c' := by
       have e3 : (List.range' 0 ((ps.toList.map (·.2)).map a.eval).length).zip ((ps.toList.map (·.2)).map a.eval) = (ps.map fun (i, x) => (i, a.eval x)).toList := by
        rw [← hzip, h1.len]
       rw [e3, f1] at f1'
       exact (Option.some.inj f1').symm
      subst hcc
      have hml : (vs.map fun p => p.withCells (p.cells.map PV.rc)).length = n := by simp [hn]
      have := hI.mkRow (d := d) (hd d hdst) hany he (g := w.heap.size) (hi := vs.length) (N := n) (z := ie.size) (xs := vs.map fun p => p.withCells (p.cells.map PV.rc)) (Nat.le_refl _) (by simp) hpos' (by simp) (fun ow' ho => ?_)
      ·rw [hn] at this
       rw [hn]; exact this
      ·refine ⟨c2', e, heap_alloc_new w _, hpos', by rw [f2']; simp, by simp [hn], fun x hx => ?_, fun i j x p u hx hp hu => ?_⟩
       ·obtain ⟨y, hy, rfl⟩ := List.mem_map.1 hx
        rw [rcs_cells (hvs y hy).2]
        simp [(hvs y hy).1]
       ·rw [List.getElem?_map] at hx
        obtain ⟨y, hy, rfl⟩ := Option.map_eq_some_iff.1 hx
        have hym := hvs y (List.mem_of_getElem? hy)
        rw [rcs_cells hym.2] at hp
        have hj : j < ie.size := by have := (List.getElem?_eq_some_iff.1 hp).1; simp at this; omega
        have hil : i < ((ps.toList.map (·.2)).map a.eval).length := by rw [← h1.len]; exact (List.getElem?_eq_some_iff.1 hy).1
        obtain ⟨pp, hpp, hrp⟩ := repL_at h1 i _ (List.getElem?_eq_getElem hil)
        rw [hy] at hpp
        cases hpp
        have hf5 := f5 i j _ (List.getElem?_eq_getElem hil) hj
        rw [Nat.zero_add, hu] at hf5
        obtain ⟨g1, g2, g3⟩ := (cells_rc hrp.1 hym.2).2 j p u hp hf5.symm
        refine CellX.of (CellP.map (q := i * ie.size + j) (g2 _) fun p v h => h.ext he ho)
     ·exact h3.elim
    ·exact h3.elim
   rw [hXo] at h3
   simp only [cond_false] at h3
   simp only [Ev.put, AM.run, forceW_eq] at h3
   refine wp_value hrun ⟨_, _, h3, ow, hI2.put hd (p := .sl 1 ie.size (vs.map PV.elem)) ⟨?_, some ⟨w.heap.size, 0, none⟩, by simp [hn]⟩ trivial⟩
   have hgetc : ∀ k, (w.alloc (.cells c' e (0, 0))).cell? ⟨w.heap.size, k, none⟩ = c'[k]? := fun k => cell_of_row _ _ _ _ _ _ (heap_alloc_new w _)
   have hlen : n = (vs.map PV.elem).length := by simp [hn]
   have key : ∀ i j, i < n → j < ie.size → ∃ q v, ((vs.map PV.elem)[i]?.bind fun x => x.cells[j]?) = some q ∧ c'[i * ie.size + j]? = some v ∧ v.oneCell' = true ∧ RepC (FF F0 ow) w q v := fun i j hi hj => by
    have hi' : i < vs.length := by omega
    have hvi := hvs vs[i] (List.getElem_mem hi')
    have hcl : (vs[i].cells.map PV.ro).length = ie.size := by rw [List.length_map, hvi.1]
    have hq : (vs[i].cells.map PV.ro)[j]? = some ((vs[i].cells.map PV.ro)[j]'(by omega)) := List.getElem?_eq_getElem (by omega)
    obtain ⟨v, v1, v2, v3⟩ := f4 i j vs[i] _ (List.getElem?_eq_getElem hi') hq
    refine ⟨_, v, ?_, by rw [Nat.zero_add] at v1; exact v1, v2, v3⟩
    rw [List.getElem?_map, List.getElem?_eq_getElem hi']
    simp only [Option.map_some, Option.bind_some, elem_cells hvi.2, hq]
   have hsl : ∀ k, k = n → RepC (FF F0 ow) (w.alloc (.cells c' e (0, 0))) (.sl 1 ie.size (vs.map PV.elem)) (.slice (some ⟨w.heap.size, 0, none⟩) (vs.map PV.elem).length k) := fun k hk => by
    refine .sl 1 ie.size _ w.heap.size 0 k (fun i j => (c'[i * ie.size + j]?).getD undef) (fun _ => by simp; omega) (by simp; omega) (fun x hx => ?_) (fun i j hi hj => ?_) (fun i x j p hx hp => ?_)
    ·obtain ⟨y, hy, rfl⟩ := List.mem_map.1 hx
     rw [elem_cells (hvs y hy).2, List.length_map, (hvs y hy).1]
    ·obtain ⟨q, v, q1, q2, q3, q4⟩ := key i j (by omega) hj
     rw [Nat.zero_add, hgetc, q2]
     exact ⟨rfl, ⟨hI.newF _ _ (Or.inl hI.lowW), fun c l hcl => absurd (hI.owB _ _ _ hcl).2 (by omega)⟩, q3⟩
    ·have hi : i < n := by have := (List.getElem?_eq_some_iff.1 hx).1; omega
     have hj : j < ie.size := by
      have h1 := (List.getElem?_eq_some_iff.1 hp).1
      obtain ⟨y, hy, rfl⟩ := List.mem_map.1 (List.mem_of_getElem? hx)
      rw [elem_cells (hvs y hy).2, List.length_map, (hvs y hy).1] at h1
      exact h1
     obtain ⟨q, v, q1, q2, q3, q4⟩ := key i j hi hj
     rw [hx] at q1
     simp only [Option.bind_some, hp] at q1
     cases q1
     rw [q2]
     exact q4.ext he (fun _ _ => rfl)
   have := hsl n rfl
   rw [← hlen] at this
   exact this
  ·exact h.elim
 ·exact h.elim
end
section
variable {P : Program} {B nt : Nat} {w0 : W0} {w w' : World} {F0 : Nat → Nat → Prop} {ow ow' : Ow} {σ : St} {a : Act}
theorem InvO.tok (hI : InvO F0 B nt w0 ow σ a w) {t N z : Nat} (hN : ∀ n z0, σ (3 * t + 2) = .fr n z0 → n ≤ N) (hbel : Bel B ⟨w, w0.m⟩ w')
 (hrep : ∀ p v, RepC (FF F0 ow) w p v → RepC (FF F0 ow') w' p v) (hown : ∀ p v, tokOk σ p → Own B ow w σ p v → Own B ow' w' (ap [(3 * t + 2, .fr N z)] σ) p v)
 (howB : ∀ b c l, ow' b = some (c, l) → (B ≤ b ∨ w0.m b) ∧ b < w'.heap.size) (hev : ∀ b s l, ow' b = some (2 * s, l) ↔ ow b = some (2 * s, l)) (hheap : ∀ b s l, ow b = some (2 * s, l) → w'.heap[b]? = w.heap[b]?) :
 InvO F0 B nt w0 ow' (ap [(3 * t + 2, .fr N z)] σ) a w' := by
 have hb1 : ∀ k, ap [(3 * t + 2, PV.fr N z)] σ (3 * k + 1) = σ (3 * k + 1) := fun k => ap1_ne _ _ (by omega)
 have hs1 : ∀ k, ap [(3 * t + 2, PV.fr N z)] σ (3 * k) = σ (3 * k) := fun k => ap1_ne _ _ (by omega)
 have htok : ∀ p, tokOk σ p → tokOk (ap [(3 * t + 2, PV.fr N z)] σ) p := fun p hp => by
  unfold tokOk at *
  split at hp
  ·rename_i k z' xs
   by_cases hk : k = t
   ·subst hk
    rw [ap1_self]
    split at hp
    ·rename_i n z0 hn
     exact Nat.le_trans hp (hN n z0 hn)
    ·exact hp.elim
   ·rw [ap1_ne _ _ (by omega)]; exact hp
  ·rw [hb1]; exact hp
  ·rw [hb1]; exact hp
  ·trivial
 refine ⟨hI.defers, hI.size, hI.low, hI.newF, hI.below.trans hbel, fun s => ?_, fun b s h => ?_, fun b b' s h h' => hI.uniq b b' s ((hev _ _ _).1 h) ((hev _ _ _).1 h'), howB, fun l => ?_⟩
 ·rw [hs1]
  exact (hI.tms s).map (wfT_slot (hI.wf (3 * s))) hrep hown (fun p v t' hp _ _ h => h.map hp (hb1 t') (fun b hb => ⟨(hev _ _ _).2 hb, hheap _ _ _ hb⟩) fun b hb => (hev _ _ _).1 hb)
 ·refine (hI.boxes b s ((hev _ _ _).1 h)).map (hb1 s) (hheap _ _ _ ((hev _ _ _).1 h)) hrep (fun cs p v hcs hp ho => hown p v ?_ ho) (fun g q hg => ⟨(hev _ _ _).2 hg, hheap _ _ _ hg⟩)
  have hwf := hI.wf (3 * s + 1)
  rw [hcs] at hwf
  simp only [wf1, mod_box, cond_true] at hwf
  obtain ⟨j, hj, rfl⟩ := List.getElem_of_mem hp
  exact allP_get hwf (List.getElem?_eq_getElem hj)
 ·by_cases hl : l = 3 * t + 2
  ·subst hl
   rw [ap1_self]; trivial
  ·rw [ap1_ne _ _ hl]
   have h := hI.wf l
   unfold wf1 at *
   split at h
   ·rw [hb1]; exact h
   ·exact allP_mono htok _ h
   ·exact allP_mono (boxOk_congr hb1) _ h
   ·exact h
   ·cases hq : Nat.beq (l % 3) 1
    ·trivial
    ·rw [hq] at h; exact allP_mono htok _ h
   ·exact htok _ h
theorem tok_fr {k z : Nat} {xs : List PV} (h : tokOk σ (.sl (k + 2) z xs)) : ∃ n z0, σ (3 * k + 2) = .fr n z0 ∧ xs.length ≤ n := by
 have h' : (match σ (3 * k + 2) with | .fr n _ => xs.length ≤ n | _ => False) := h
 split at h'
 ·rename_i n z0 hn; exact ⟨n, z0, hn, h'⟩
 ·exact h'.elim
theorem RepC.parts {F : Nat → Nat → Prop} {k z : Nat} {xs : List PV} {v : Value} (h : RepC F w (.sl k z xs) v) : (v = .slice none 0 0 ∧ xs = []) ∨ (∃ a cap, v = .slice (some a) 0 cap ∧ xs = []) ∨ ∃ (b o cap : Nat) (u : Nat → Nat → Value), v = .slice (some ⟨b, o, none⟩) xs.length cap ∧ xs.length ≤ cap ∧ (∀ x ∈ xs, x.cells.length = z) ∧
 (∀ i j, i < xs.length → j < z → w.cell? ⟨b, o + i * z + j, none⟩ = some (u i j) ∧ F b (o + i * z + j) ∧ (u i j).oneCell' = true) ∧ ∀ (i : Nat) (x : PV) (j : Nat) (p : PV), xs[i]? = some x → x.cells[j]? = some p → RepC F w p (u i j) := by
 cases h with
 | nil => exact Or.inl ⟨rfl, rfl⟩
 | emp k z a cap hk => exact Or.inr (Or.inl ⟨a, cap, rfl, rfl⟩)
 | sl k z xs b o cap u hk hc hz hcell hh => exact Or.inr (Or.inr ⟨b, o, cap, u, rfl, hc, hz, hcell, hh⟩)
def rowOf (n z : Nat) (u : Nat → Nat → Value) : List Value := (List.range (n * z)).map fun q => u (q / z) (q % z)
theorem rowOf_get {n z : Nat} {u : Nat → Nat → Value} {q : Nat} {v : Value} (h : (rowOf n z u)[q]? = some v) : 0 < z ∧ q / z < n ∧ q % z < z ∧ q / z * z + q % z = q ∧ v = u (q / z) (q % z) := by
 have hq : q < n * z := by have := (List.getElem?_eq_some_iff.1 h).1; simpa [rowOf] using this
 have hz : 0 < z := Nat.pos_of_ne_zero (fun e => by subst e; simp at hq)
 refine ⟨hz, (Nat.div_lt_iff_lt_mul hz).2 hq, Nat.mod_lt _ hz, by rw [Nat.mul_comm]; exact Nat.div_add_mod q z, ?_⟩
 simp [rowOf, hq] at h
 exact h.symm
theorem rowOf_at {n z : Nat} {u : Nat → Nat → Value} {i j : Nat} (hi : i < n) (hj : j < z) : (rowOf n z u)[i * z + j]? = some (u i j) := by
 have hlt : i * z + j < n * z := by
  have : (i + 1) * z ≤ n * z := Nat.mul_le_mul_right _ hi
  rw [Nat.add_mul, Nat.one_mul] at this
  omega
 have h1 : (i * z + j) / z = i := by rw [Nat.add_comm, Nat.add_mul_div_right _ _ (by omega), Nat.div_eq_of_lt hj, Nat.zero_add]
 have h2 : (i * z + j) % z = j := by rw [Nat.add_comm, Nat.add_mul_mod_self_right, Nat.mod_eq_of_lt hj]
 simp [rowOf, hlt, h1, h2]
theorem rowOf_len (n z : Nat) (u : Nat → Nat → Value) : (rowOf n z u).length = n * z := by simp [rowOf]
theorem run_append_zero {t t' ty e : TypeId} (ht : P.underlying t = some (.slice e)) (ht' : ∃ e', P.underlying t' = some (.slice e')) {size : Nat} (hs : ∀ w : World, (sizeOf e).run P w = .ok size w) (A : Option Addr) (n c : Nat) (hnc : n ≤ c) (A' : Option Addr) (c' : Nat) :
 (Builtin.append_ #[t, t'] ty #[.slice A n c, .slice A' 0 c']).run P w = .ok (.slice A n c) w := by
 obtain ⟨e', ht'⟩ := ht'
 have hfc : (Builtin.firstCells size 0 (.slice A' 0 c')).run P w = .ok #[] w := by
  cases A' with
  | none => simp [Builtin.firstCells]
  | some b => simp [Builtin.firstCells, loadCells, loadCellsFrom]
 cases A <;> simp [Builtin.append_, run_underlying ht, run_underlying ht', hs, Builtin.lenOf, hnc, hfc, storeCells]
theorem run_append_roomE {t ty e e' : TypeId} {i : TypeInfo} (ht : P.underlying t = some (.slice e)) (hi : P.info? e = some i)
 (g sLen sCap : Nat) (cur : Array Value) (hg : w.heap[g]? = some (.cells cur e' (0, 0)))
 (a : Addr) (m c : Nat) (news : List Value) (hl : news.length = m * i.size) (hnews : ∀ j u, news[j]? = some u → w.cell? (a.add j) = some u) (h1 : ∀ u ∈ news, u.oneCell' = true)
 (hroom : sLen + m ≤ sCap) (hfit : sLen * i.size + news.length ≤ cur.size) :
 (Builtin.append_ #[t, t] ty #[.slice (some ⟨g, 0, none⟩) sLen sCap, .slice (some a) m c]).run P w =
  .ok (.slice (some ⟨g, 0, none⟩) (sLen + m) sCap) (w.setRow g (cur.toList.take (sLen * i.size) ++ news ++ cur.toList.drop (sLen * i.size + news.length)).toArray) := by
 have hf := run_firstCells_some (P := P) w i.size m a m c news hl hnews
 have hst := run_storeCells_at P g (sLen * i.size) e' news 0 cur w hg (by simpa using hfit) h1
 simp only [Nat.add_zero] at hst
 simp [Builtin.append_, run_underlying ht, sizeOf, typeInfo, hi, Builtin.lenOf, hroom, hf, Addr.add_lit, hst]
theorem Own.tok {t N z : Nat} {p : PV} {v : Value} (h : Own B ow w σ p v) (hp : tokOk σ p) (hlt : ∀ n z0, σ (3 * t + 2) = .fr n z0 → n < N) : Own B ow w (ap [(3 * t + 2, .fr N z)] σ) p v := by
 unfold Own at *
 split at h
 ·exact h
 ·rename_i k z' xs
  intro z1 hz1
  by_cases hk : k = t
  ·subst hk
   rw [ap1_self] at hz1
   injection hz1 with e1 e2
   obtain ⟨n, z0, hn, hle⟩ := tok_fr hp
   have := hlt n z0 hn
   omega
  ·rw [ap1_ne _ _ (by omega)] at hz1
   exact h z1 hz1
 ·trivial
theorem rep_row {F : Nat → Nat → Prop} {b e size N k : Nat} {v : Value} {cells : List Value} {xs : List PV} (hown : w.ownsRow b e size v N cells) (hN : N = xs.length) (hz : ∀ x ∈ xs, x.cells.length = size) (f : Nat → Nat → Value)
 (hc : ∀ i j, i < N → j < size → cells[i * size + j]? = some (f i j) ∧ (f i j).oneCell' = true) (hF : ∀ g, v.ownBlock = some g → ∀ o, o < N * size → F g o)
 (hrep : ∀ (i : Nat) (x : PV) (j : Nat) (p : PV), xs[i]? = some x → x.cells[j]? = some p → RepC F w p (f i j)) (hk1 : k ≠ 1) : RepC F w (.sl k size xs) v := by
 subst hN
 rcases hown.2 with ⟨rfl, h0⟩ | ⟨g, cap, cur, rfl, hb, hg, hnc, hcm, hcs, htake⟩
 ·obtain rfl := List.eq_nil_of_length_eq_zero h0
  exact .nil _ _
 ·refine .sl k size xs g 0 cap f (fun e => absurd e hk1) hnc hz (fun i j hi hj => ?_) hrep
  obtain ⟨h1, h2⟩ := hc i j hi hj
  have := hown.cells (g := g) rfl (i * size + j) _ h1
  rw [Addr.add_lit] at this
  refine ⟨by rw [Nat.zero_add] at this ⊢; exact this, hF g rfl _ ?_, h2⟩
  have : (i + 1) * size ≤ xs.length * size := Nat.mul_le_mul_right _ hi
  rw [Nat.add_mul, Nat.one_mul] at this
  omega
theorem InvO.grow (hI : InvO F0 B nt w0 ow σ a w) {t N e size : Nat} {v' : Value} {cells : List Value} (hlt : ∀ n z0, σ (3 * t + 2) = .fr n z0 → n < N) (hown : w'.ownsRow w.heap.size e size v' N cells) (he : Ext w w') :
 ∃ ow', InvO F0 B nt w0 ow' (ap [(3 * t + 2, .fr N size)] σ) a w' ∧ (∀ b, b < w.heap.size → ow' b = ow b) ∧ ∀ g, v'.ownBlock = some g → ow' g = some (2 * t + 1, N * size) := by
 have hge : ∀ g, v'.ownBlock = some g → w.heap.size ≤ g ∧ g < w'.heap.size := fun g hg => hown.lt g hg
 have hob : ∀ b, b < w.heap.size → (fun b => if v'.ownBlock = some b then some (2 * t + 1, N * size) else ow b) b = ow b := fun b hb => if_neg (fun e => by have := (hge b e).1; omega)
 refine ⟨fun b => if v'.ownBlock = some b then some (2 * t + 1, N * size) else ow b, hI.tok (fun n z0 h => Nat.le_of_lt (hlt n z0 h)) (.of (he.below hI.lowW)) (fun p v h => h.ext he hob) (fun p v hp h => (h.tok hp hlt).ext he hob) (fun b c l h => ?_) (fun b s l => ?_) (fun b s l h => he.block b (hI.owB b _ l h).2), hob, fun g hg => if_pos hg⟩
 ·by_cases hg : v'.ownBlock = some b
  ·exact ⟨Or.inl (by have := hI.lowW; have := (hge b hg).1; omega), (hge b hg).2⟩
  ·simp only [if_neg hg] at h
   exact ⟨(hI.owB b c l h).1, Nat.lt_of_lt_of_le (hI.owB b c l h).2 he.size⟩
 ·by_cases hg : v'.ownBlock = some b
  ·simp only [if_pos hg]
   constructor
   ·intro h
    injection h with h
    injection h with h1 _
    omega
   ·intro h
    have := (hI.owB b _ l h).2
    have := (hge b hg).1
    omega
  ·simp only [if_neg hg]
theorem InvO.room (hI : InvO F0 B nt w0 ow σ a w) {t N n size g : Nat} {cur cur' : Array Value} {e' : TypeId} (hlt : ∀ n z0, σ (3 * t + 2) = .fr n z0 → n < N) (hg : ow g = some (2 * t + 1, n * size)) (hnN : n ≤ N) (h0 : w.heap[g]? = some (.cells cur e' (0, 0))) (hpre : ∀ j, j < n * size → cur'[j]? = cur[j]?) :
 ∃ ow', InvO F0 B nt w0 ow' (ap [(3 * t + 2, .fr N size)] σ) a (w.setRow g cur') ∧ (∀ p v, RepC (FF F0 ow) w p v → RepC (FF F0 ow') (w.setRow g cur') p v) ∧ ow' g = some (2 * t + 1, N * size) := by
 have hmul : n * size ≤ N * size := Nat.mul_le_mul_right _ hnN
 have hrep : ∀ p v, RepC (FF F0 ow) w p v → RepC (FF F0 fun b => if b = g then some (2 * t + 1, N * size) else ow b) (w.setRow g cur') p v := fun p v h => h.mono fun b o u hc hf => by
  by_cases hbg : b = g
  ·subst hbg
   have hlo := (hf.2 _ _ hg).2
   refine ⟨?_, hf.1, fun c l hcl => ?_⟩
   ·rw [cell_setRow_same w b o cur cur' e' (0, 0) h0, hpre o hlo, ← cell_of_row w b o cur e' (0, 0) h0]; exact hc
   ·simp only [if_true] at hcl
    injection hcl with hcl
    injection hcl with h1 h2
    subst h1
    exact ⟨by omega, by omega⟩
  ·exact ⟨by rw [cell_setRow_other w g cur' ⟨b, o, none⟩ hbg]; exact hc, hf.1, fun c l hcl => hf.2 c l (by simpa [hbg] using hcl)⟩
 refine ⟨fun b => if b = g then some (2 * t + 1, N * size) else ow b, hI.tok (fun n z0 h => Nat.le_of_lt (hlt n z0 h)) ⟨rfl, rfl, rfl, by simp, fun k hk hm => setRow_other w g k cur' (fun e => by subst e; exact (hI.owB _ _ _ hg).1.elim (fun h => by omega) hm)⟩ hrep (fun p v hp h => ?_) (fun b c l h => ?_) (fun b s l => ?_) (fun b s l h => ?_), hrep, if_pos rfl⟩
 ·have h2 := h.tok (z := size) hp hlt
  unfold Own at *
  split at h2
  ·exact h2
  ·rename_i k z' xs
   intro z1 hz1
   rcases h2 z1 hz1 with h2 | ⟨e, cells, h3, h4⟩
   ·exact Or.inl h2
   ·by_cases hk : k = t
    ·subst hk
     rw [ap1_self] at hz1
     injection hz1 with q1 q2
     obtain ⟨n, z0, hn, hle⟩ := tok_fr hp
     have := hlt n z0 hn
     omega
    ·refine Or.inr ⟨e, cells, ⟨h3.1, ?_⟩, fun g' hg' => ?_⟩
     ·rcases h3.2 with hn | ⟨g', cap, cur2, rfl, hb, hgg, rest⟩
      ·exact Or.inl hn
      ·refine Or.inr ⟨g', cap, cur2, rfl, hb, ?_, rest⟩
       have hne : g' ≠ g := fun e => by
        subst e
        have := h4 g' rfl
        rw [hg] at this
        injection this with this
        injection this with this _
        omega
       rw [setRow_other w g g' cur' hne]; exact hgg
     ·have h5 := h4 g' hg'
      by_cases he : g' = g
      ·subst he
       rw [hg] at h5
       injection h5 with h5
       injection h5 with h5 _
       omega
      ·simp only [if_neg he]; exact h5
  ·trivial
 ·rw [setRow_size]
  by_cases hb : b = g
  ·subst hb; exact hI.owB b _ _ hg
  ·simp only [if_neg hb] at h; exact hI.owB b c l h
 ·by_cases hb : b = g
  ·subst hb
   simp only [if_true]
   rw [hg]
   constructor
   ·intro h; injection h with h; injection h with h _; omega
   ·intro h; injection h with h; injection h with h _; omega
  ·simp only [if_neg hb]
 ·have hb : b ≠ g := fun e => by
   subst e
   rw [hg] at h; injection h with h; injection h with h _; omega
  exact setRow_other w g b cur' hb
end
section
variable {P : Program} {T : Tab} {PC : Orc} {Q : Exit → Act → World → Prop} {o : Oper} {a : Act} {w w' : World} {B nt : Nat} {w0 : W0} {F0 : Nat → Nat → Prop} {ow : Ow} {σ : St} {K : List Nat → List (Nat × PV) → Prop}
theorem curRw_inv {t v z : Nat} {k : List PV → AM} (h : (curRw t v z k).run PC σ K) : ∃ xs, σ (3 * t + 1) = .rw v z xs ∧ (k xs).run PC σ fun R ws => K ((3 * t + 1) :: R) ws := by
 simp only [curRw, AM.run, force_eq] at h
 split at h
 ·rename_i v' z' xs hx
  cases hvz : Nat.beq v v' && Nat.beq z z'
  ·rw [hvz] at h; exact h.elim
  rw [hvz] at h
  rw [Bool.and_eq_true] at hvz
  obtain rfl := Nat.eq_of_beq_eq_true hvz.1
  obtain rfl := Nat.eq_of_beq_eq_true hvz.2
  exact ⟨xs, hx, h⟩
 ·exact h.elim
theorem rw_pos (hI : InvO F0 B nt w0 ow σ a w) {t v z : Nat} {xs : List PV} (hs : σ (3 * t + 1) = .rw v z xs) : 0 < z := by
 have := hI.wf (3 * t + 1)
 rw [hs] at this
 exact this
theorem view_cur (hI : InvO F0 B nt w0 ow σ a w) {t v z lo hi : Nat} {u : Value} {xs : List PV} (hv : RepV ow w σ (.vw t v z lo hi) u) (hs : σ (3 * t + 1) = .rw v z xs) :
 lo ≤ hi ∧ hi ≤ xs.length ∧ ((lo = hi ∧ xs.length = lo ∧ ∃ A, u = .slice A 0 0) ∨ ∃ b N, ow b = some (2 * t, 0) ∧ u = .slice (some ⟨b, lo * z, none⟩) (hi - lo) (N - lo) ∧ hi ≤ N ∧ RowBlk (CellX F0 ow w (2 * t)) w z xs b N) := by
 obtain ⟨h0, hv⟩ := hv
 rcases hv with ⟨e1, e2, e3⟩ | ⟨b, N, h1, h2, h3⟩
 ·have := (e3 xs hs).1
  exact ⟨h0, by omega, Or.inl ⟨e1, this, e2⟩⟩
 ·obtain ⟨g1, g2, cur, e, g3, g4⟩ := h3 xs hs
  obtain ⟨M, hrow⟩ := (hI.boxes b t g1).row hs
  have hM : M = N := by
   obtain ⟨cur', e', k1, k2, k3, _⟩ := hrow
   rw [g3] at k1
   cases k1
   have := rw_pos hI hs
   exact Nat.eq_of_mul_eq_mul_right this (by omega)
  subst hM
  exact ⟨h0, g2, Or.inr ⟨b, M, g1, h2, h1, hrow⟩⟩
theorem RowBlk.cell {C : Nat → PV → Value → Prop} {z b N : Nat} {xs : List PV} (h : RowBlk C w z xs b N) {i j : Nat} {x p : PV} (hx : xs[i]? = some x) (hp : x.cells[j]? = some p) : ∃ u, w.cell? ⟨b, i * z + j, none⟩ = some u ∧ C (i * z + j) p u := by
 obtain ⟨cur, e, h1, h2, h3, h4, h5, h6⟩ := h
 have hi := (List.getElem?_eq_some_iff.1 hx).1
 have hj : j < z := by rw [← h5 x (List.mem_of_getElem? hx)]; exact (List.getElem?_eq_some_iff.1 hp).1
 have hlt : i * z + j < cur.size := by
  have : (i + 1) * z ≤ N * z := Nat.mul_le_mul_right _ (by omega)
  rw [Nat.add_mul, Nat.one_mul] at this
  omega
 exact ⟨cur[i * z + j], (cell_of_row w b _ cur e (0, 0) h1).trans (Array.getElem?_eq_getElem hlt), h6 i j x p _ hx hp (Array.getElem?_eq_getElem hlt)⟩
theorem cutL_get {xs : List PV} {lo hi i : Nat} {x : PV} (h : ((xs.take hi).drop lo)[i]? = some x) : xs[lo + i]? = some x ∧ lo + i < hi := by
 rw [List.getElem?_drop, List.getElem?_take] at h
 split at h
 ·exact ⟨h, by assumption⟩
 ·cases h
theorem cellX_plain {F0 : Nat → Nat → Prop} {c q : Nat} {p : PV} {u : Value} (h : CellX F0 ow w c q p u) (hp : p.isX = false) : RepC (FF F0 ow) w p u ∧ u.oneCell' = true := by
 cases p with
 | xo => simp [PV.isX] at hp
 | any => simp [PV.isX] at hp
 | _ => exact ⟨h.1, h.2.2 (fun e => by cases e)⟩
theorem row_sl {F : Nat → Nat → Prop} {c z b N lo hi : Nat} {xs : List PV} (hb : RowBlk (CellX F0 ow w c) w z xs b N) (hn : noX ((xs.take hi).drop lo)) (h1 : lo ≤ hi) (h2 : hi ≤ xs.length) (hF : ∀ o, F b o) (hrep : ∀ p v, RepC (FF F0 ow) w p v → RepC F w p v) :
 RepC F w (.sl 0 z ((xs.take hi).drop lo)) (.slice (some ⟨b, lo * z, none⟩) (hi - lo) (N - lo)) := by
 have hlen : ((xs.take hi).drop lo).length = hi - lo := by simp; omega
 have hN : xs.length ≤ N := by obtain ⟨_, _, _, _, _, h, _⟩ := hb; exact h
 have hz : ∀ x ∈ xs, x.cells.length = z := by obtain ⟨_, _, _, _, _, _, h, _⟩ := hb; exact h
 rw [← hlen]
 refine .sl 0 z _ b (lo * z) (N - lo) (fun i j => (w.cell? ⟨b, (lo + i) * z + j, none⟩).getD undef) (fun e => by cases e) (by omega) (fun x hx => hz x (List.mem_of_mem_take (List.mem_of_mem_drop hx))) (fun i j hi' hj => ?_) (fun i x j p hx hp => ?_)
 ·have hx := List.getElem?_eq_getElem hi'
  have hxm := List.getElem_mem hi'
  obtain ⟨hx1, _⟩ := cutL_get hx
  have hj' : j < (((xs.take hi).drop lo)[i]).cells.length := by rw [hz _ (List.mem_of_mem_take (List.mem_of_mem_drop hxm))]; exact hj
  obtain ⟨u, k1, k2⟩ := hb.cell hx1 (List.getElem?_eq_getElem hj')
  rw [show lo * z + i * z + j = (lo + i) * z + j by rw [Nat.add_mul], k1]
  exact ⟨rfl, hF _, (cellX_plain k2 (hn _ hxm _ (List.getElem_mem hj'))).2⟩
 ·obtain ⟨hx1, _⟩ := cutL_get hx
  obtain ⟨u, k1, k2⟩ := hb.cell hx1 hp
  rw [k1]
  exact hrep _ _ (cellX_plain k2 (hn _ (List.mem_of_getElem? hx) _ (List.mem_of_getElem? hp))).1
def limL (lim : Option Nat) (n : Nat) : Nat := match lim with | some m => min m n | none => n
def News (F0 : Nat → Nat → Prop) (ow : Ow) (w : World) (z : Nat) (ys : List PV) (news : List Value) : Prop :=
 news.length = ys.length * z ∧ (∀ x ∈ ys, x.cells.length = z) ∧ (∀ u ∈ news, u.oneCell' = true) ∧ ∀ (i j : Nat) (x p : PV) (u : Value), ys[i]? = some x → x.cells[j]? = some p → news[i * z + j]? = some u → RepC (FF F0 ow) w p u
def SrcAt (F0 : Nat → Nat → Prop) (ow : Ow) (w : World) (z : Nat) (lim : Option Nat) (ys : List PV) (u : Value) : Prop :=
 ∃ A n c news, u = .slice A n c ∧ n ≤ c ∧ ys.length = limL lim n ∧ News F0 ow w z ys news ∧ (ys ≠ [] → ∃ b s, A = some ⟨b, s, none⟩) ∧ ∀ b s, A = some ⟨b, s, none⟩ → ∀ j v, news[j]? = some v → w.cell? ⟨b, s + j, none⟩ = some v
theorem src_of {z lo : Nat} {lim : Option Nat} {ys : List PV} {b s n c : Nat} {f : Nat → Nat → Value} (hnc : n ≤ c) (hl : ys.length = limL lim n) (hz : ∀ x ∈ ys, x.cells.length = z)
 (hcell : ∀ i j, i < ys.length → j < z → w.cell? ⟨b, s + (i * z + j), none⟩ = some (f i j) ∧ (f i j).oneCell' = true)
 (hr : ∀ (i j : Nat) (x p : PV), ys[i]? = some x → x.cells[j]? = some p → RepC (FF F0 ow) w p (f i j)) : SrcAt F0 ow w z lim ys (.slice (some ⟨b, s, none⟩) n c) := by
 refine ⟨_, n, c, rowOf ys.length z f, rfl, hnc, hl, ⟨rowOf_len _ _ _, hz, fun u hu => ?_, fun i j x p u hx hp hu => ?_⟩, fun _ => ⟨b, s, rfl⟩, fun b' s' e j v hj => ?_⟩
 ·obtain ⟨q, hq, rfl⟩ := List.getElem_of_mem hu
  obtain ⟨g1, g2, g3, g4, g5⟩ := rowOf_get (List.getElem?_eq_getElem hq)
  rw [g5]
  exact (hcell _ _ g2 g3).2
 ·have hi := (List.getElem?_eq_some_iff.1 hx).1
  have hj : j < z := by rw [← hz x (List.mem_of_getElem? hx)]; exact (List.getElem?_eq_some_iff.1 hp).1
  rw [rowOf_at hi hj] at hu
  cases hu
  exact hr i j x p hx hp
 ·cases e
  obtain ⟨g1, g2, g3, g4, g5⟩ := rowOf_get hj
  rw [g5, ← g4]
  have := (hcell _ _ g2 g3).1
  rw [g4] at this ⊢
  exact this
theorem srcA_inv (hI : InvO F0 B nt w0 ow σ a w) {z : Nat} {lim : Option Nat} {x : PV} {u : Value} {k : List PV → AM} (hx : RepT F0 B ow w σ x u) (h : (srcA z lim x k).run PC σ K) :
 ∃ ys R0, SrcAt F0 ow w z lim ys u ∧ (k ys).run PC σ fun R ws => K (R0 ++ R) ws := by
 unfold srcA at h
 split at h
 ·rename_i kk z' ys
  cases hz : Nat.beq z' z || ys.isEmpty
  ·rw [hz] at h; exact h.elim
  rw [hz] at h
  refine ⟨cutL lim ys, [], ?_, h⟩
  have hr := hx.rep rfl
  rw [Bool.or_eq_true] at hz
  by_cases hy : ys = []
  ·subst hy
   obtain ⟨A, c, e, _⟩ := hr.sl_len
   have e0 : cutL lim ([] : List PV) = [] := by cases lim <;> simp [cutL]
   rw [e0]
   exact ⟨A, 0, c, [], e, Nat.zero_le _, by cases lim <;> simp [limL], ⟨by simp, (fun x hx => by cases hx), (fun x hx => by cases hx), (fun i j x p u h => by simp at h)⟩, fun h => absurd rfl h, fun b s _ j v h => by simp at h⟩
  ·obtain rfl : z' = z := by
    rcases hz with hz | hz
    ·exact Nat.eq_of_beq_eq_true hz
    ·exact absurd (by simpa using hz) hy
   rcases hr.parts with ⟨_, h0⟩ | ⟨_, _, _, h0⟩ | ⟨b, o, cap, f, rfl, hc, hzz, hcell, hrr⟩
   ·exact absurd h0 hy
   ·exact absurd h0 hy
   ·have hcl : (cutL lim ys).length = limL lim ys.length := by cases lim <;> simp [cutL, limL]
    have hle : (cutL lim ys).length ≤ ys.length := by rw [hcl]; cases lim <;> simp [limL] <;> omega
    have hget : ∀ (i : Nat) (x : PV), (cutL lim ys)[i]? = some x → ys[i]? = some x := fun i x hx => by
     cases lim with
     | none => exact hx
     | some m =>
      replace hx : (ys.take m)[i]? = some x := hx
      rw [List.getElem?_take] at hx
      by_cases hi : i < m
      ·rwa [if_pos hi] at hx
      ·rw [if_neg hi] at hx; cases hx
    refine src_of (lo := 0) (f := f) hc hcl (fun x hx => ?_) (fun i j hi hj => ?_) (fun i j x p hx hp => hrr i x j p (hget i x hx) hp)
    ·obtain ⟨i, hi, rfl⟩ := List.getElem_of_mem hx
     exact hzz _ (List.mem_of_getElem? (hget i _ (List.getElem?_eq_getElem hi)))
    ·have := hcell i j (by omega) hj
     rw [← Nat.add_assoc]
     exact ⟨this.1, this.2.2⟩
 ·rename_i t v z' lo hi
  cases hz : Nat.beq z' z
  ·rw [hz] at h; exact h.elim
  rw [hz] at h
  obtain rfl := Nat.eq_of_beq_eq_true hz
  simp only [cond_true] at h
  obtain ⟨xs, hs, h⟩ := curRw_inv h
  obtain ⟨q, e, h⟩ := h
  cases e
  simp only [] at h
  obtain ⟨hn, h⟩ := h
  refine ⟨_, [3 * t + 1], ?_, h⟩
  obtain ⟨h0, h1, hv⟩ := view_cur hI (show RepV ow w σ (.vw t v z' lo hi) u from hx) hs
  generalize hys : cutL lim ((xs.take hi).drop lo) = ys at hn h
  have hyl : ys.length = limL lim (hi - lo) := by
   rw [← hys]
   cases lim <;> simp [cutL, limL] <;> omega
  have hget : ∀ (i : Nat) (x : PV), ys[i]? = some x → xs[lo + i]? = some x := fun i x hx => by
   rw [← hys] at hx
   cases lim with
   | none => exact (cutL_get hx).1
   | some m =>
    replace hx : (((xs.take hi).drop lo).take m)[i]? = some x := hx
    rw [List.getElem?_take] at hx
    by_cases hi' : i < m
    ·rw [if_pos hi'] at hx; exact (cutL_get hx).1
    ·rw [if_neg hi'] at hx; cases hx
  rcases hv with ⟨e1, e2, A, rfl⟩ | ⟨b, N, g1, rfl, g2, g3⟩
  ·have : ys = [] := List.eq_nil_of_length_eq_zero (by rw [hyl]; cases lim <;> simp [limL] <;> omega)
   subst this
   exact ⟨A, 0, 0, [], rfl, Nat.le_refl _, by cases lim <;> simp [limL], ⟨by simp, (fun x hx => by cases hx), (fun x hx => by cases hx), (fun i j x p u h => by simp at h)⟩, fun h => absurd rfl h, fun b s _ j v h => by simp at h⟩
  ·have hzz : ∀ x ∈ xs, x.cells.length = z' := by obtain ⟨_, _, _, _, _, _, h, _⟩ := g3; exact h
   refine src_of (lo := lo) (f := fun i j => (w.cell? ⟨b, (lo + i) * z' + j, none⟩).getD undef) (by omega) hyl (fun x hx => ?_) (fun i j hi' hj => ?_) (fun i j x p hx hp => ?_)
   ·obtain ⟨i, hi', rfl⟩ := List.getElem_of_mem hx
    exact hzz _ (List.mem_of_getElem? (hget i _ (List.getElem?_eq_getElem hi')))
   ·have hxm := List.getElem_mem hi'
    have hx1 := hget i _ (List.getElem?_eq_getElem hi')
    have hj' : j < ys[i].cells.length := by rw [hzz _ (List.mem_of_getElem? hx1)]; exact hj
    obtain ⟨u, k1, k2⟩ := g3.cell hx1 (List.getElem?_eq_getElem hj')
    rw [show lo * z' + (i * z' + j) = (lo + i) * z' + j by rw [Nat.add_mul, Nat.add_assoc], k1]
    exact ⟨rfl, (cellX_plain k2 (hn _ hxm _ (List.getElem_mem hj'))).2⟩
   ·obtain ⟨u, k1, k2⟩ := g3.cell (hget i x hx) hp
    rw [k1]
    exact (cellX_plain k2 (hn _ (List.mem_of_getElem? hx) _ (List.mem_of_getElem? hp))).1
 ·exact h.elim
theorem InvO.fullN (hI : InvO F0 B nt w0 ow σ a w) {t v z g N : Nat} {xs xs' : List PV} {C : Nat → PV → Value → Prop} (hs : σ (3 * t + 1) = .rw v z xs) (hg : ow g = some (2 * t, 0)) (hv : v % 2 = 1) (hr : RowBlk C w z xs' g N) : N = xs.length := by
 obtain ⟨cur, e, b1, b2, b3, _⟩ := (hI.boxes g t hg).full hs hv
 obtain ⟨cur', e', c1, _, c3, _⟩ := hr
 rw [b1] at c1
 cases c1
 exact Nat.eq_of_mul_eq_mul_right b2 (by omega)
theorem mulLt {i j z N : Nat} (hi : i < N) (hj : j < z) : i * z + j < N * z := by
 have : (i + 1) * z ≤ N * z := Nat.mul_le_mul_right _ hi
 rw [Nat.add_mul, Nat.one_mul] at this
 omega
theorem InvO.rowSet (hI : InvO F0 B nt w0 ow σ a w) {t v v' z g N : Nat} {xs xs' : List PV} (hs : σ (3 * t + 1) = .rw v z xs) (hg : ow g = some (2 * t, 0)) (hv : v ≤ v') (hlen : xs.length ≤ xs'.length) {cur cur' : Array Value} {e : TypeId} (h0 : w.heap[g]? = some (.cells cur e (0, 0)))
 (hsz : cur'.size = cur.size) (hN : cur.size = N * z) (hl : xs'.length ≤ N) (hcl : ∀ x ∈ xs', x.cells.length = z)
 (hc : ∀ (i j : Nat) (x p : PV) (u : Value), xs'[i]? = some x → x.cells[j]? = some p → cur'[i * z + j]? = some u → CellX F0 ow w (2 * t) (i * z + j) p u) (hful : v' % 2 = 1 → N = xs'.length) :
 InvO F0 B nt w0 ow (ap [(3 * t + 1, .rw v' z xs')] σ) a (w.setRow g cur') := by
 have hz := rw_pos hI hs
 have h2 : ∀ k, ap [(3 * t + 1, PV.rw v' z xs')] σ (3 * k + 2) = σ (3 * k + 2) := fun k => ap1_ne _ _ (by omega)
 have h1 : ∀ k, k ≠ t → ap [(3 * t + 1, PV.rw v' z xs')] σ (3 * k + 1) = σ (3 * k + 1) := fun k hk => ap1_ne _ _ (by omega)
 have hrep := rep_setRow (F0 := F0) (w := w) (ow := ow) (g := g) (c := cur') (fun l => ⟨fun e => by rw [hg] at e; injection e with e; injection e with e _; omega, trivial⟩) ⟨_, _, hg, by omega⟩
 have hgB := (hI.owB g _ _ hg).1
 refine hI.objs (fun k => k = t) ⟨rfl, rfl, rfl, by simp, fun k hk hm => setRow_other w g k cur' (fun e => by subst e; exact hgB.elim (fun h => by omega) (fun h => hm h))⟩ (fun k => ap1_ne _ _ (by omega)) h2 h1 (fun k hk => ?_) (fun k hk => ?_) (fun k hk cs0 h => ?_) (fun k hk v1 z1 xs1 h => ?_) hrep
  (fun b c' l h hk => ⟨h, setRow_other w g b cur' (fun e => ?_)⟩) (fun b k hk h => h) (fun b c' l h => ⟨(hI.owB b c' l h).1, by rw [setRow_size]; exact (hI.owB b c' l h).2⟩) (fun b k hk h => ?_) (fun b b' k hk h h' => hI.uniq b b' k h h') (fun p u k hk hp g1 g2 h => ?_)
 ·subst hk; rw [ap1_self]; exact fun h => by cases h
 ·subst hk; rw [ap1_self]; exact hz
 ·subst hk; rw [hs] at h; cases h
 ·subst hk
  rw [ap1_self] at h
  cases h
  exact Or.inr ⟨v, z, xs, hs, hv⟩
 ·subst e
  rw [hg] at h
  injection h with h
  injection h with h _
  exact hk t rfl h.symm
 ·subst hk
  obtain rfl : b = g := hI.uniq _ _ _ h hg
  refine Or.inr ⟨v', z, xs', N, ap1_self _ _ _, ⟨cur', e, setRow_heap w b cur cur' e (0, 0) h0, hz, by rw [hsz, hN], hl, hcl, fun i j x p u hx hp hu => ?_⟩, hful⟩
  refine (hc i j x p u hx hp hu).map hrep fun g' q hg' => ⟨hg', setRow_other w b g' cur' (fun e => ?_)⟩
  subst e
  rw [hg] at hg'
  injection hg' with hg'
  injection hg' with _ hg'
  omega
 ·subst hk
  cases p with
  | pt t o => cases hp; unfold boxOk at g2; simp only [hs] at g2
  | vw t' vr z' lo hi =>
   cases hp
   obtain ⟨h0', h⟩ := h
   refine ⟨h0', ?_⟩
   have hvr : Nat.ble vr v = true := by unfold tokOk at g1; simpa only [hs] using g1
   have key : ∀ xs1, ap [(3 * k + 1, PV.rw v' z xs')] σ (3 * k + 1) = .rw vr z' xs1 → σ (3 * k + 1) = .rw vr z' xs ∧ xs1 = xs' := fun xs1 hx => by
    rw [ap1_self] at hx
    cases hx
    have : v = v' := Nat.le_antisymm hv (Nat.le_of_ble_eq_true hvr)
    subst this
    exact ⟨hs, rfl⟩
   rcases h with ⟨a1, a2, a3⟩ | ⟨b, M, k1, k2, k3⟩
   ·refine Or.inl ⟨a1, a2, fun xs1 hx => ?_⟩
    obtain ⟨k1, rfl⟩ := key xs1 hx
    obtain ⟨k2, k3⟩ := a3 xs k1
    have k4 := k3 g hg cur e h0
    have hzz : z' = z := by rw [hs] at k1; cases k1; rfl
    subst hzz
    have hlo : lo = N := Nat.eq_of_mul_eq_mul_right hz (by omega)
    refine ⟨by omega, fun b hb cur1 e1 hc1 => ?_⟩
    obtain rfl := hI.uniq _ _ _ hb hg
    rw [setRow_heap w b cur cur' e (0, 0) h0] at hc1
    cases hc1
    omega
   ·refine Or.inr ⟨b, M, k1, k2, fun xs1 hx => ?_⟩
    obtain ⟨q1, rfl⟩ := key xs1 hx
    obtain ⟨m1, m2, cur1, e1, m3, m4⟩ := k3 xs q1
    obtain rfl : b = g := hI.uniq _ _ _ m1 hg
    rw [h0] at m3
    cases m3
    exact ⟨m1, by omega, cur', e, setRow_heap w b cur cur' e (0, 0) h0, by rw [hsz]; exact m4⟩
  | el t' vr z' i o =>
   cases hp
   obtain ⟨b, k1, k2⟩ := h
   have hvr : Nat.ble vr v = true := by unfold tokOk at g1; simpa only [hs] using g1
   refine ⟨b, k1, fun xs1 hx => ?_⟩
   rw [ap1_self] at hx
   cases hx
   have : v = v' := Nat.le_antisymm hv (Nat.le_of_ble_eq_true hvr)
   subst this
   exact k2 xs hs
  | _ => cases hp
end
section
variable {P : Program} {T : Tab} {PC : Orc} {Q : Exit → Act → World → Prop} {o : Oper} {a : Act} {w w' : World} {B nt : Nat} {w0 : W0} {F0 : Nat → Nat → Prop} {ow : Ow} {σ : St} {K : List Nat → List (Nat × PV) → Prop}
theorem spliceE_get {xs ys : List PV} {k i : Nat} (hk : k ≤ xs.length) : (spliceE xs k ys)[i]? = if i < k then xs[i]? else if i < k + ys.length then ys[i - k]? else xs[i]? := by
 unfold spliceE
 have hl : (xs.take k).length = k := by simp; omega
 by_cases h1 : i < k
 ·rw [if_pos h1, List.append_assoc, List.getElem?_append_left (by omega), List.getElem?_take, if_pos h1]
 ·rw [if_neg h1, List.append_assoc, List.getElem?_append_right (by omega), hl]
  by_cases h2 : i < k + ys.length
  ·rw [if_pos h2, List.getElem?_append_left (by omega)]
  ·rw [if_neg h2, List.getElem?_append_right (by omega), List.getElem?_drop]
   congr 1
   omega
theorem spliceE_len {xs ys : List PV} {k : Nat} (hk : k ≤ xs.length) : (spliceE xs k ys).length = max xs.length (k + ys.length) := by
 unfold spliceE
 simp
 omega
theorem spliceE_nil {xs : List PV} {k : Nat} : spliceE xs k [] = xs := by
 unfold spliceE
 simp
def spliceV (cur : Array Value) (q : Nat) (news : List Value) : Array Value := (cur.toList.take q ++ news ++ cur.toList.drop (q + news.length)).toArray
theorem spliceV_size {cur : Array Value} {q : Nat} {news : List Value} (h : q + news.length ≤ cur.size) : (spliceV cur q news).size = cur.size := by
 unfold spliceV; simp; omega
theorem spliceV_get {cur : Array Value} {q : Nat} {news : List Value} (h : q + news.length ≤ cur.size) (m : Nat) : (spliceV cur q news)[m]? = if m < q then cur[m]? else if m < q + news.length then news[m - q]? else cur[m]? := by
 unfold spliceV
 have hl : (cur.toList.take q).length = q := by simp; omega
 rw [List.getElem?_toArray]
 by_cases h1 : m < q
 ·rw [if_pos h1, List.append_assoc, List.getElem?_append_left (by omega), List.getElem?_take, if_pos h1]; simp
 ·rw [if_neg h1, List.append_assoc, List.getElem?_append_right (by omega), hl]
  by_cases h2 : m < q + news.length
  ·rw [if_pos h2, List.getElem?_append_left (by omega)]
  ·rw [if_neg h2, List.getElem?_append_right (by omega), List.getElem?_drop, show q + news.length + (m - q - news.length) = m by omega]; simp
theorem CellX.news {F0 : Nat → Nat → Prop} {c q : Nat} {p : PV} {u : Value} (h : RepC (FF F0 ow) w p u) (h1 : u.oneCell' = true) : CellX F0 ow w c q p u := by
 cases p with
 | xo => cases h
 | _ => exact ⟨h, trivial, fun _ => h1⟩
theorem InvO.write (hI : InvO F0 B nt w0 ow σ a w) {t v v' z k g N : Nat} {xs ys : List PV} {news : List Value} (hs : σ (3 * t + 1) = .rw v z xs) (hg : ow g = some (2 * t, 0)) (hv : v ≤ v') {cur : Array Value} {e : TypeId} (h0 : w.heap[g]? = some (.cells cur e (0, 0)))
 (hb : RowBlk (CellX F0 ow w (2 * t)) w z xs g N) (hk : k ≤ xs.length) (hfit : k + ys.length ≤ N) (hn : News F0 ow w z ys news) (hpar : v' % 2 = v % 2) :
 k * z + news.length ≤ cur.size ∧ InvO F0 B nt w0 ow (ap [(3 * t + 1, .rw v' z (spliceE xs k ys))] σ) a (w.setRow g (spliceV cur (k * z) news)) := by
 have hb0 := hb
 obtain ⟨cur', e', b1, b2, b3, b4, b5, b6⟩ := hb
 rw [h0] at b1
 cases b1
 obtain ⟨n1, n2, n3, n4⟩ := hn
 have hle : k * z + news.length ≤ cur.size := by
  rw [n1, b3, ← Nat.add_mul]
  exact Nat.mul_le_mul_right _ hfit
 refine ⟨hle, hI.rowSet hs hg hv (by rw [spliceE_len hk]; omega) h0 (spliceV_size hle) b3 (by rw [spliceE_len hk]; omega) (fun x hx => ?_) (fun i j x p u hx hp hu => ?_) (fun e => by have := hI.fullN hs hg (by omega) hb0; rw [spliceE_len hk]; omega)⟩
 ·obtain ⟨i, hi, hxi⟩ := List.getElem_of_mem hx
  have hx' : (spliceE xs k ys)[i]? = some x := by rw [← hxi]; exact List.getElem?_eq_getElem hi
  rw [spliceE_get hk] at hx'
  split at hx'
  ·exact b5 x (List.mem_of_getElem? hx')
  ·split at hx'
   ·exact n2 x (List.mem_of_getElem? hx')
   ·exact b5 x (List.mem_of_getElem? hx')
 ·have hcl : x.cells.length = z := by
   rw [spliceE_get hk] at hx
   split at hx
   ·exact b5 x (List.mem_of_getElem? hx)
   ·split at hx
    ·exact n2 x (List.mem_of_getElem? hx)
    ·exact b5 x (List.mem_of_getElem? hx)
  have hj : j < z := by rw [← hcl]; exact (List.getElem?_eq_some_iff.1 hp).1
  rw [spliceE_get hk] at hx
  rw [spliceV_get hle] at hu
  by_cases h1 : i < k
  ·rw [if_pos h1] at hx
   rw [if_pos (mulLt h1 hj)] at hu
   exact b6 i j x p u hx hp hu
  ·rw [if_neg h1] at hx
   have h1' : ¬ i * z + j < k * z := fun h => by
    have : k * z ≤ i * z := Nat.mul_le_mul_right _ (by omega)
    omega
   rw [if_neg h1'] at hu
   by_cases h2 : i < k + ys.length
   ·rw [if_pos h2] at hx
    have h2' : i * z + j < k * z + news.length := by rw [n1, ← Nat.add_mul]; exact mulLt h2 hj
    rw [if_pos h2'] at hu
    have hq : i * z + j - k * z = (i - k) * z + j := by
     have : k * z ≤ i * z := Nat.mul_le_mul_right _ (by omega)
     rw [Nat.sub_mul]; omega
    rw [hq] at hu
    exact .news (n4 (i - k) j x p u hx hp hu) (n3 u (List.mem_of_getElem? hu))
   ·rw [if_neg h2] at hx
    have h2' : ¬ i * z + j < k * z + news.length := fun h => by
     rw [n1, ← Nat.add_mul] at h
     have : (k + ys.length) * z ≤ i * z := Nat.mul_le_mul_right _ (by omega)
     omega
    rw [if_neg h2'] at hu
    exact b6 i j x p u hx hp hu
theorem InvO.bump (hI : InvO F0 B nt w0 ow σ a w) {t v v' z : Nat} {xs : List PV} (hs : σ (3 * t + 1) = .rw v z xs) (hv : v ≤ v') (hful : v' % 2 = 1 → ∀ g N, ow g = some (2 * t, 0) → RowBlk (CellX F0 ow w (2 * t)) w z xs g N → N = xs.length) : InvO F0 B nt w0 ow (ap [(3 * t + 1, .rw v' z xs)] σ) a w := by
 have hz := rw_pos hI hs
 have h2 : ∀ k, ap [(3 * t + 1, PV.rw v' z xs)] σ (3 * k + 2) = σ (3 * k + 2) := fun k => ap1_ne _ _ (by omega)
 have h1 : ∀ k, k ≠ t → ap [(3 * t + 1, PV.rw v' z xs)] σ (3 * k + 1) = σ (3 * k + 1) := fun k hk => ap1_ne _ _ (by omega)
 refine hI.objs (fun k => k = t) (.of (Below.refl _ _)) (fun k => ap1_ne _ _ (by omega)) h2 h1 (fun k hk => ?_) (fun k hk => ?_) (fun k hk cs0 h => ?_) (fun k hk v1 z1 xs1 h => ?_) (fun p v h => h)
  (fun b c' l h hk => ⟨h, rfl⟩) (fun b k hk h => h) hI.owB (fun b k hk h => ?_) (fun b b' k hk h h' => hI.uniq b b' k h h') (fun p u k hk hp g1 g2 h => ?_)
 ·subst hk; rw [ap1_self]; exact fun h => by cases h
 ·subst hk; rw [ap1_self]; exact hz
 ·subst hk; rw [hs] at h; cases h
 ·subst hk
  rw [ap1_self] at h
  cases h
  exact Or.inr ⟨v, z, xs, hs, hv⟩
 ·subst hk
  obtain ⟨N, hr⟩ := (hI.boxes b k h).row hs
  exact Or.inr ⟨v', z, xs, N, ap1_self _ _ _, hr, fun e => hful e b N h hr⟩
 ·subst hk
  have hvr : ∀ vr, Nat.ble vr v = true → ∀ z' xs1, ap [(3 * k + 1, PV.rw v' z xs)] σ (3 * k + 1) = .rw vr z' xs1 → σ (3 * k + 1) = .rw vr z' xs1 := fun vr hb z' xs1 hx => by
   rw [ap1_self] at hx
   cases hx
   have : v = v' := Nat.le_antisymm hv (Nat.le_of_ble_eq_true hb)
   subst this
   exact hs
  cases p with
  | pt t o => cases hp; unfold boxOk at g2; simp only [hs] at g2
  | vw t' vr z' lo hi =>
   cases hp
   unfold tokOk at g1
   simp only [hs] at g1
   obtain ⟨h0', h⟩ := h
   refine ⟨h0', ?_⟩
   rcases h with ⟨a1, a2, a3⟩ | ⟨b, M, k1, k2, k3⟩
   ·exact Or.inl ⟨a1, a2, fun xs1 hx => a3 xs1 (hvr vr g1 z' xs1 hx)⟩
   ·exact Or.inr ⟨b, M, k1, k2, fun xs1 hx => k3 xs1 (hvr vr g1 z' xs1 hx)⟩
  | el t' vr z' i o =>
   cases hp
   unfold tokOk at g1
   simp only [hs] at g1
   obtain ⟨b, k1, k2⟩ := h
   exact ⟨b, k1, fun xs1 hx => k2 xs1 (hvr vr g1 z' xs1 hx)⟩
  | _ => cases hp
theorem InvO.move (hI : InvO F0 B nt w0 ow σ a w) {t v v' z g N : Nat} {xs xs' : List PV} (hs : σ (3 * t + 1) = .rw v z xs) (hlt : v < v') (hev : v' % 2 = 0) (he : Ext w w') (hg1 : w.heap.size ≤ g) (hg2 : g < w'.heap.size)
 (hrow : ∀ ow' : Ow, (∀ p v, RepC (FF F0 ow) w p v → RepC (FF F0 ow') w' p v) → (∀ g q, ow g = some (2 * t, q + 1) → ow' g = some (2 * t, q + 1) ∧ w'.heap[g]? = w.heap[g]?) → RowBlk (CellX F0 ow' w' (2 * t)) w' z xs' g N) :
 ∃ ow' : Ow, InvO F0 B nt w0 ow' (ap [(3 * t + 1, .rw v' z xs')] σ) a w' ∧ ow' g = some (2 * t, 0) := by
 have hz := rw_pos hI hs
 let ow' : Ow := fun b => if b = g then some (2 * t, 0) else if ow b = some (2 * t, 0) then none else ow b
 have hwf : ∀ b c l, ow b = some (c, l) → b ≠ g := fun b c l h => by have := (hI.owB b c l h).2; omega
 have e1 : ow' g = some (2 * t, 0) := if_pos rfl
 have e2 : ∀ b c l, ow b = some (c, l) → (c, l) ≠ (2 * t, 0) → ow' b = some (c, l) := fun b c l h hne => by
  show (if b = g then _ else if ow b = some (2 * t, 0) then none else ow b) = _
  rw [if_neg (hwf b c l h), if_neg (by rw [h]; exact fun e => hne (Option.some.inj e)), h]
 have e3 : ∀ b c l, ow' b = some (c, l) → b ≠ g → ow b = some (c, l) := fun b c l h hb => by
  have h' : (if b = g then some (2 * t, 0) else if ow b = some (2 * t, 0) then none else ow b) = some (c, l) := h
  rw [if_neg hb] at h'
  split at h'
  ·cases h'
  ·exact h'
 have h2 : ∀ k, ap [(3 * t + 1, PV.rw v' z xs')] σ (3 * k + 2) = σ (3 * k + 2) := fun k => ap1_ne _ _ (by omega)
 have h1 : ∀ k, k ≠ t → ap [(3 * t + 1, PV.rw v' z xs')] σ (3 * k + 1) = σ (3 * k + 1) := fun k hk => ap1_ne _ _ (by omega)
 have hrep : ∀ p v, RepC (FF F0 ow) w p v → RepC (FF F0 ow') w' p v := fun p v h => h.mono fun b o u hc hf => ⟨he.cell hc, hf.1, fun c l hcl => by
  have hb : b ≠ g := fun e => by
   have := World.block_lt_of_cell? w ⟨b, o, none⟩ hc
   simp only [] at this
   omega
  exact hf.2 c l (e3 b c l hcl hb)⟩
 have hnest : ∀ g q, ow g = some (2 * t, q + 1) → ow' g = some (2 * t, q + 1) ∧ w'.heap[g]? = w.heap[g]? := fun g' q h => ⟨e2 g' _ _ h (fun e => by injection e with _ e; omega), he.block g' (hI.owB g' _ _ h).2⟩
 refine ⟨ow', hI.objs (fun k => k = t) (.of (he.below hI.lowW)) (fun k => ap1_ne _ _ (by omega)) h2 h1 (fun k hk => ?_) (fun k hk => ?_) (fun k hk cs0 h => ?_) (fun k hk v1 z1 xs1 h => ?_) hrep
  (fun b c' l h hk => ⟨e2 b c' l h (fun e => by injection e with e _; exact hk t rfl e), he.block b (hI.owB b c' l h).2⟩) (fun b k hk h => ?_) (fun b c' l h => ?_) (fun b k hk h => ?_) (fun b b' k hk h h' => ?_) (fun p u k hk hp g1 g2 h => ?_), e1⟩
 ·subst hk; rw [ap1_self]; exact fun h => by cases h
 ·subst hk; rw [ap1_self]; exact hz
 ·subst hk; rw [hs] at h; cases h
 ·subst hk
  rw [ap1_self] at h
  cases h
  exact Or.inr ⟨v, z, xs, hs, by omega⟩
 ·by_cases hb : b = g
  ·subst hb
   rw [e1] at h
   injection h with h
   injection h with h _
   exact absurd (show k = t by omega) hk
  ·exact e3 b _ _ h hb
 ·by_cases hb : b = g
  ·subst hb
   exact ⟨Or.inl (by have := hI.lowW; omega), hg2⟩
  ·have := hI.owB b c' l (e3 b c' l h hb)
   exact ⟨this.1, Nat.lt_of_lt_of_le this.2 he.size⟩
 ·subst hk
  have hb : b = g := by
   by_cases hb : b = g
   ·exact hb
   ·exfalso
    have h' : (if b = g then some (2 * k, 0) else if ow b = some (2 * k, 0) then none else ow b) = some (2 * k, 0) := h
    rw [if_neg hb] at h'
    split at h'
    ·cases h'
    ·rename_i hn; exact hn h'
  subst hb
  exact Or.inr ⟨v', z, xs', N, ap1_self _ _ _, hrow ow' hrep hnest, fun e => by omega⟩
 ·subst hk
  have : ∀ b, ow' b = some (2 * k, 0) → b = g := fun b h => by
   by_cases hb : b = g
   ·exact hb
   ·exfalso
    have h' : (if b = g then some (2 * k, 0) else if ow b = some (2 * k, 0) then none else ow b) = some (2 * k, 0) := h
    rw [if_neg hb] at h'
    split at h'
    ·cases h'
    ·rename_i hn; exact hn h'
  rw [this b h, this b' h']
 ·subst hk
  have hvr : ∀ vr, Nat.ble vr v = true → ∀ z' xs1, ap [(3 * k + 1, PV.rw v' z xs')] σ (3 * k + 1) ≠ .rw vr z' xs1 := fun vr hb z' xs1 hx => by
   rw [ap1_self] at hx
   cases hx
   have := Nat.le_of_ble_eq_true hb
   omega
  cases p with
  | pt t o => cases hp; unfold boxOk at g2; simp only [hs] at g2
  | vw t' vr z' lo hi =>
   cases hp
   unfold tokOk at g1
   simp only [hs] at g1
   obtain ⟨h0', h⟩ := h
   refine ⟨h0', ?_⟩
   rcases h with ⟨a1, a2, a3⟩ | ⟨b, M, k1, k2, k3⟩
   ·exact Or.inl ⟨a1, a2, fun xs1 hx => absurd hx (hvr vr g1 z' xs1)⟩
   ·exact Or.inr ⟨b, M, k1, k2, fun xs1 hx => absurd hx (hvr vr g1 z' xs1)⟩
  | el t' vr z' i o =>
   cases hp
   unfold tokOk at g1
   simp only [hs] at g1
   obtain ⟨b, k1, k2⟩ := h
   exact ⟨b, k1, fun xs1 hx => absurd hx (hvr vr g1 z' xs1)⟩
  | _ => cases hp
theorem InvO.give (hI : InvO F0 B nt w0 ow σ a w) {t v z : Nat} {xs : List PV} (hs : σ (3 * t + 1) = .rw v z xs) (cd : Option (Nat × Nat)) (hcd : ∀ c l, cd = some (c, l) → ∀ k, (c, l) ≠ (2 * k, 0)) :
 InvO F0 B nt w0 (fun b => if ow b = some (2 * t, 0) then cd else ow b) (ap [(3 * t + 1, .s undef)] σ) a w := by
 have h2 : ∀ k, ap [(3 * t + 1, PV.s undef)] σ (3 * k + 2) = σ (3 * k + 2) := fun k => ap1_ne _ _ (by omega)
 have h1 : ∀ k, k ≠ t → ap [(3 * t + 1, PV.s undef)] σ (3 * k + 1) = σ (3 * k + 1) := fun k hk => ap1_ne _ _ (by omega)
 have hno : ∀ k b, (if ow b = some (2 * t, 0) then cd else ow b) = some (2 * k, 0) → k ≠ t ∧ ow b = some (2 * k, 0) := fun k b h => by
  split at h
  ·exact absurd rfl (hcd _ _ h k)
  ·rename_i hn
   exact ⟨fun e => by subst e; exact hn h, h⟩
 refine hI.objs (fun k => k = t) (.of (Below.refl _ _)) (fun k => ap1_ne _ _ (by omega)) h2 h1 (fun k hk => ?_) (fun k hk => ?_) (fun k hk cs0 h => ?_) (fun k hk v1 z1 xs1 h => ?_) (fun p v h => h.mono fun b o u hc hf => ⟨hc, hf.1, fun c l hcl => ?_⟩)
  (fun b c' l h hk => ⟨?_, rfl⟩) (fun b k hk h => (hno k b h).2) (fun b c' l h => ?_) (fun b k hk h => absurd hk (hno k b h).1) (fun b b' k hk h h' => absurd hk (hno k b h).1) (fun p u k hk hp g1 g2 h => ?_)
 ·subst hk; rw [ap1_self]; exact fun h => by cases h
 ·subst hk; rw [ap1_self]; trivial
 ·subst hk; rw [hs] at h; cases h
 ·subst hk; rw [ap1_self] at h; cases h
 ·replace hcl : (if ow b = some (2 * t, 0) then cd else ow b) = some (c, l) := hcl
  split at hcl
  ·rename_i hb
   have := (hf.2 _ _ hb).1
   omega
  ·exact hf.2 c l hcl
 ·show (if ow b = some (2 * t, 0) then cd else ow b) = _
  rw [if_neg (by rw [h]; exact fun e => by injection e with e; injection e with e _; exact hk t rfl e)]
  exact h
 ·replace h : (if ow b = some (2 * t, 0) then cd else ow b) = some (c', l) := h
  split at h
  ·rename_i hb; exact hI.owB b _ _ hb
  ·exact hI.owB b c' l h
 ·subst hk
  cases p with
  | pt t o => cases hp; unfold boxOk at g2; simp only [hs] at g2
  | vw t' vr z' lo hi =>
   cases hp
   obtain ⟨h0', h⟩ := h
   refine ⟨h0', ?_⟩
   rcases h with ⟨a1, a2, a3⟩ | ⟨b, M, k1, k2, k3⟩
   ·exact Or.inl ⟨a1, a2, fun xs1 hx => by rw [ap1_self] at hx; cases hx⟩
   ·exact Or.inr ⟨b, M, k1, k2, fun xs1 hx => by rw [ap1_self] at hx; cases hx⟩
  | el t' vr z' i o =>
   cases hp
   obtain ⟨b, k1, k2⟩ := h
   exact ⟨b, k1, fun xs1 hx => by rw [ap1_self] at hx; cases hx⟩
  | _ => cases hp
end
end Go.Ev
end
