/- Part 1 of this claim: several texts one behind the other: EvOpB, EvOpC, EvOpD. What each shows stands in its theorems; conditions: sizes of texts and lists, as the functions' definitions say. -/
import Derived.Test.YtodkjmbmlobihaaGreatDoorMWhyDepths0
section
namespace Go.Ev
open Go Go.RowKit
set_option linter.unusedVariables false
set_option linter.unusedSimpArgs false
def kOk (P : Program) (d : TypeDesc) : TyK → Prop
 | .sc => d.isRow = false
 | .str => d = .string
 | .bo => d = .bool
 | .it k => d = .int k
 | .sl e => d = .slice e
 | .st fs => ∃ fields, d = .struct fields ∧ fields.size = fs.length ∧ ∀ (f o : Nat) (ag : Bool) (n : Nat), fs[f]? = some (o, ag, n) → ∃ fd, fields[f]? = some fd ∧ fd.offset = o ∧ (∃ ti, P.info? fd.type = some ti ∧ ti.size = n ∧ 0 < n) ∧ ∃ d', P.underlying fd.type = some d' ∧ d'.isRow = ag
 | .ar n e => d = .array n e
structure TyOk (P : Program) (t : Nat) (i : TyI) : Prop where
 info : ∃ ti z, P.info? t = some ti ∧ ti.size = i.size ∧ ti.bytes = i.bytes ∧ ti.zero = some z ∧ z.cells.toList = i.zero
 len : i.zero.length = i.size
 one : ∀ v ∈ i.zero, v.oneCell' = true
 und : ∃ d, P.underlying t = some d ∧ kOk P d i.k
def TabOk (P : Program) (T : Tab) : Prop := ∀ t i, T.get t = some i → TyOk P t i
theorem TyOk.agg {P : Program} {t : Nat} {i : TyI} (h : TyOk P t i) : ∃ d, P.underlying t = some d ∧ d.isRow = i.agg := by
 obtain ⟨d, h1, h2⟩ := h.und
 refine ⟨d, h1, ?_⟩
 unfold TyI.agg
 cases hk : i.k with
 | sc => rw [hk] at h2; exact h2
 | str => rw [hk] at h2; obtain rfl := h2; rfl
 | bo => rw [hk] at h2; obtain rfl := h2; rfl
 | it k => rw [hk] at h2; obtain rfl := h2; rfl
 | sl e => rw [hk] at h2; obtain rfl := h2; rfl
 | st fs => rw [hk] at h2; obtain ⟨fields, rfl, _⟩ := h2; rfl
 | ar n e => rw [hk] at h2; obtain rfl := h2; rfl
theorem isStr_und {P : Program} {T : Tab} {t : Nat} (hT : TabOk P T) (h : T.isStr t = true) : P.underlying t = some .string := by
 unfold Tab.isStr at h
 split at h
 ·rename_i i hi
  obtain ⟨d, h1, h2⟩ := (hT t i hi).und
  split at h
  ·rename_i hk; rw [hk] at h2; rw [h1, show d = .string from h2]
  ·cases h
 ·cases h
theorem isBo_und {P : Program} {T : Tab} {t : Nat} (hT : TabOk P T) (h : T.isBo t = true) : P.underlying t = some .bool := by
 unfold Tab.isBo at h
 split at h
 ·rename_i i hi
  obtain ⟨d, h1, h2⟩ := (hT t i hi).und
  split at h
  ·rename_i hk; rw [hk] at h2; rw [h1, show d = .bool from h2]
  ·cases h
 ·cases h
theorem isSl_und {P : Program} {T : Tab} {t : Nat} (hT : TabOk P T) (h : T.isSl t = true) : ∃ e, P.underlying t = some (.slice e) := by
 unfold Tab.isSl at h
 split at h
 ·rename_i i hi
  obtain ⟨d, h1, h2⟩ := (hT t i hi).und
  split at h
  ·rename_i e hk; rw [hk] at h2; exact ⟨e, by rw [h1, show d = .slice e from h2]⟩
  ·cases h
 ·cases h
section
variable {P : Program} {T : Tab} {PC : Orc} {Q : Exit → Act → World → Prop} {o : Oper} {a : Act} {w : World} {B nt : Nat} {w0 : W0} {F0 : Nat → Nat → Prop} {ow : Ow} {σ : St} {K : List Nat → List (Nat × PV) → Prop}
theorem sim_pick {c x y : Operand} (ho : o.op = .pick c x y) (hI : InvO F0 B nt w0 ow σ a w) (hd : ∀ d, o.dst = some d → d < nt) (h : (opA P T o).run PC σ K) : o.wp P a w (Sim F0 B nt w0 σ K) Q := by
 unfold opA at h
 rw [ho] at h
 obtain ⟨p, R0, h1, h2, h3⟩ := evO_inv hI c _ _ h
 have hrun : ∀ b, a.eval c = .bool b → (execOp a.eval o).run P w = .ok (.value (if b then a.eval x else a.eval y)) w := fun b hb => by
  unfold execOp; rw [ho]; simp [hb, asBool]
 split at h3
 ·rename_i b
  have e := (h1.rep rfl).s_eq
  cases b
  ·obtain ⟨q, R1, g1, g2, g3⟩ := evO_inv hI y _ _ (h3.2 rfl)
   exact sim_put hI hd (hrun false e) g1 g2 (run_mono _ (fun R ws hk => by rw [List.append_assoc]; exact hk) g3)
  ·obtain ⟨q, R1, g1, g2, g3⟩ := evO_inv hI x _ _ (h3.1 rfl)
   exact sim_put hI hd (hrun true e) g1 g2 (run_mono _ (fun R ws hk => by rw [List.append_assoc]; exact hk) g3)
 ·have e : a.eval c = .bool true := h1.1.tt_eq
  obtain ⟨q, R1, g1, g2, g3⟩ := evO_inv hI x _ _ h3
  exact sim_put hI hd (hrun true e) g1 g2 (run_mono _ (fun R ws hk => by rw [List.append_assoc]; exact hk) g3)
 ·have e : a.eval c = .bool false := h1.1.ff_eq
  obtain ⟨q, R1, g1, g2, g3⟩ := evO_inv hI y _ _ h3
  exact sim_put hI hd (hrun false e) g1 g2 (run_mono _ (fun R ws hk => by rw [List.append_assoc]; exact hk) g3)
 ·exact h3.elim
theorem sim_nilCheck {x : Operand} (ho : o.op = .nilCheck x) (hI : InvO F0 B nt w0 ow σ a w) (hd : ∀ d, o.dst = some d → d < nt) (h : (opA P T o).run PC σ K) : o.wp P a w (Sim F0 B nt w0 σ K) Q := by
 unfold opA at h
 rw [ho] at h
 obtain ⟨p, R0, h1, h2, h3⟩ := evO_inv hI x _ _ h
 have hrun : ∀ ad, a.eval x = .pointer (some ad) → (execOp a.eval o).run P w = .ok (.value (.pointer (some ad))) w := fun ad hb => by
  unfold execOp; rw [ho]; simp [hb]
 split at h3
 ·have h1' := h1
  obtain ⟨b, g1, g2⟩ := h1
  exact sim_put hI hd (hrun _ g2) (g2 ▸ h1') h2 h3
 ·have h1' := h1
  obtain ⟨b, g2, g1⟩ := h1
  exact sim_put hI hd (hrun _ g2) (g2 ▸ h1') h2 h3
 ·have h1' := h1
  obtain ⟨g1, _⟩ := h1
  generalize hv : a.eval x = v at g1
  cases g1 with
  | rp cs b o u hcell hh => exact sim_put hI hd (hrun _ hv) (hv ▸ h1') h2 h3
 ·exact h3.elim
theorem allP_get {f : PV → Prop} : ∀ {l : List PV} {j : Nat} {q : PV}, allP f l → l[j]? = some q → f q
 | [], j, q, _, hj => by simp at hj
 | y :: r, 0, q, hl, hj => by simp at hj; subst hj; exact hl.1
 | y :: r, j + 1, q, hl, hj => allP_get hl.2 (by simpa using hj)
theorem clT {f : FuncId} {cs : List PV} {vs : Array Value} (hl : cs.length = vs.size) (hc : ∀ (j : Nat) (p : PV) (v : Value), cs[j]? = some p → vs[j]? = some v → RepC (FF F0 ow) w p v) : RepT F0 B ow w σ (.cl f cs) (.func (.func f) #[] vs) ∧ wfT σ (.cl f cs) := by
 refine ⟨⟨vs, rfl, hl, fun j p u hp hu => ?_⟩, ?_⟩
 ·have := hc j p u hp hu
  cases p <;> first | exact this | (cases this; done)
 ·show allP (boxOk σ) cs
  have hall : ∀ p ∈ cs, boxOk σ p := fun p hp => by
   obtain ⟨j, hj, rfl⟩ := List.getElem_of_mem hp
   have hcj := hc j cs[j] vs[j] (List.getElem?_eq_getElem hj) (Array.getElem?_eq_getElem (by omega))
   unfold boxOk
   split
   ·rename_i hpt; rw [hpt] at hcj; cases hcj
   ·trivial
  clear hc hl
  induction cs with
  | nil => trivial
  | cons p r ih => exact ⟨hall p (by simp), ih (fun q hq => hall q (by simp [hq]))⟩
theorem sim_extract {x : Operand} {i : Nat} (ho : o.op = .extract x i) (hI : InvO F0 B nt w0 ow σ a w) (hd : ∀ d, o.dst = some d → d < nt) (h : (opA P T o).run PC σ K) : o.wp P a w (Sim F0 B nt w0 σ K) Q := by
 unfold opA at h
 rw [ho] at h
 obtain ⟨p, R0, h1, h2, h3⟩ := evO_inv hI x _ _ h
 split at h3
 ·rename_i vs
  obtain ⟨us, hv, hl, hh⟩ := h1
  cases hq : vs[i]? with
  | none => rw [hq] at h3; exact h3.elim
  | some q =>
   rw [hq] at h3
   have hi : i < us.size := by have := (List.getElem?_eq_some_iff.1 hq).1; omega
   have hu : us[i]? = some us[i] := Array.getElem?_eq_getElem hi
   have hrun : (execOp a.eval o).run P w = .ok (.value us[i]) w := by
    unfold execOp; rw [ho]; simp [hv, Instr.extract, hi]
   have hr := hh i q us[i] hq hu
   have htok : tokOk σ q := allP_get h2 hq
   cases q with
   | tu ps => exact sim_put (PC := PC) (p := .any) hI hd hrun ⟨.any _, trivial⟩ trivial h3
   | pt t o => cases hr.1
   | vw t vr z lo hi => exact sim_put (PC := PC) (p := .vw t vr z lo hi) hI hd hrun hr htok h3
   | el t vr z i o => cases hr.1
   | cl f cs =>
    obtain ⟨hr, _⟩ := hr
    generalize us[i] = v at hr hrun
    cases hr with | cl f cs vs hl hc => exact sim_put (PC := PC) (p := .cl f cs) hI hd hrun (clT hl hc).1 (clT (B := B) hl hc).2 h3
   | sl k z xs => exact sim_put (PC := PC) (p := .sl k z xs) hI hd hrun ⟨hr.1, hr.2⟩ htok h3
   | s y => exact sim_put (PC := PC) (p := .s y) hI hd hrun ⟨hr.1, trivial⟩ trivial h3
   | tt => exact sim_put (PC := PC) (p := .tt) hI hd hrun ⟨hr.1, trivial⟩ trivial h3
   | ff => exact sim_put (PC := PC) (p := .ff) hI hd hrun ⟨hr.1, trivial⟩ trivial h3
   | ag cs => exact sim_put (PC := PC) (p := .ag cs) hI hd hrun ⟨hr.1, trivial⟩ trivial h3
   | rp cs => exact sim_put (PC := PC) (p := .rp cs) hI hd hrun ⟨hr.1, trivial⟩ trivial h3
   | nl n => exact sim_put (PC := PC) (p := .nl n) hI hd hrun ⟨hr.1, trivial⟩ trivial h3
   | fr n z => cases hr.1
   | rw v z xs => cases hr.1
   | xo z xs => cases hr.1
   | any => exact sim_put (PC := PC) (p := .any) hI hd hrun ⟨hr.1, trivial⟩ trivial h3
 ·exact h3.elim
theorem sim_unOp {op : UnOp} {t : TypeId} {x : Operand} (ho : o.op = .unOp op t x) (hI : InvO F0 B nt w0 ow σ a w) (hd : ∀ d, o.dst = some d → d < nt) (h : (opA P T o).run PC σ K) : o.wp P a w (Sim F0 B nt w0 σ K) Q := by
 unfold opA at h
 rw [ho] at h
 cases op with
 | not =>
  obtain ⟨p, R0, h1, h2, h3⟩ := evO_inv hI x _ _ h
  have hrun : ∀ b, a.eval x = .bool b → (execOp a.eval o).run P w = .ok (.value (.bool (!b))) w := fun b hb => by
   unfold execOp; rw [ho]; simp [hb, Op.unary]
  split at h3
  ·have e := (h1.rep rfl).s_eq
   exact sim_plain hI hd (hrun _ e) rfl (.s _) h3
  ·exact sim_plain hI hd (hrun _ h1.1.tt_eq) rfl .ff h3
  ·exact sim_plain hI hd (hrun _ h1.1.ff_eq) rfl .tt h3
  ·exact h3.elim
 | neg =>
  obtain ⟨p, R0, h1, h2, h3⟩ := evO_inv hI x _ _ h
  split at h3
  ·have e := (h1.rep rfl).s_eq
   refine sim_plain hI hd ?_ rfl (.s _) h3
   unfold execOp; rw [ho]; simp [e, Op.unary, Op.intArith]
  ·exact h3.elim
 | xor => exact h.elim
 | plus => exact h.elim
theorem sim_convert {s t : TypeId} {x : Operand} (hT : TabOk P T) (ho : o.op = .convert s t x) (hI : InvO F0 B nt w0 ow σ a w) (hd : ∀ d, o.dst = some d → d < nt) (h : (opA P T o).run PC σ K) : o.wp P a w (Sim F0 B nt w0 σ K) Q := by
 unfold opA at h
 rw [ho] at h
 obtain ⟨p, R0, h1, h2, h3⟩ := evO_inv hI x _ _ h
 split at h3
 ·have e := (h1.rep rfl).s_eq
  split at h3
  ·rename_i k' n1 b1 z1 i2 g1 g2
   obtain ⟨d1, u1, v1⟩ := (hT _ _ g1).und
   obtain ⟨d2, u2, v2⟩ := (hT _ _ g2).und
   rw [show d1 = .int k' from v1] at u1
   refine sim_plain hI hd ?_ rfl (.s _) h3
   unfold execOp; rw [ho]; simp [e, convert, run_underlying u1, run_underlying u2, Conv.intToInt]
  ·exact h3.elim
 ·have e := (h1.rep rfl).s_eq
  cases hb : T.isStr s && T.isStr t
  ·rw [hb] at h3; exact h3.elim
  ·rw [hb] at h3
   rw [Bool.and_eq_true] at hb
   refine sim_plain hI hd ?_ rfl (.s _) h3
   unfold execOp; rw [ho]; simp [e, convert, run_underlying (isStr_und hT hb.1), run_underlying (isStr_und hT hb.2)]
 ·exact h3.elim
theorem sim_makeFunc {fn : Fn} {fs cs : Array Operand} (ho : o.op = .makeFunc fn fs cs) (hI : InvO F0 B nt w0 ow σ a w) (hd : ∀ d, o.dst = some d → d < nt) (h : (opA P T o).run PC σ K) : o.wp P a w (Sim F0 B nt w0 σ K) Q := by
 unfold opA at h
 rw [ho] at h
 cases hc : fs.isEmpty && cs.isEmpty
 ·simp only [hc, cond_false] at h
  split at h
  ·rename_i f
   cases hf : fs.isEmpty
   ·rw [hf] at h; exact h.elim
   rw [hf] at h
   simp only [cond_true] at h
   obtain ⟨ps, R0, h1, h3⟩ := evOs_inv hI _ _ _ h
   cases hk : ps.all capOk
   ·rw [hk] at h3; exact h3.elim
   rw [hk] at h3
   simp only [cond_true] at h3
   rw [Array.isEmpty_iff] at hf
   subst hf
   have key : ∀ (ps : List PV) (vs : List Value), RepL F0 B ow w σ ps vs → ps.all capOk = true → ps.length = vs.length ∧ allP (boxOk σ) ps ∧ ∀ (j : Nat) (p : PV) (u : Value), ps[j]? = some p → vs[j]? = some u → RepCl F0 ow w σ p u := by
    intro ps
    induction ps with
    | nil => intro vs h _; cases vs with | nil => exact ⟨rfl, trivial, fun j p u h => by simp at h⟩ | cons => exact h.elim
    | cons p r ih =>
     intro vs h hk
     cases vs with
     | nil => exact h.elim
     | cons v vs =>
      simp only [List.all_cons, Bool.and_eq_true] at hk
      obtain ⟨g1, g2, g3⟩ := ih vs h.2 hk.2
      have hp : RepCl F0 ow w σ p v ∧ boxOk σ p := by
       obtain ⟨⟨q1, q2⟩, _⟩ := h
       cases p <;> first | exact ⟨q1, q2⟩ | exact ⟨q1.1, trivial⟩ | simp [capOk, argOk] at hk
      refine ⟨by simp [g1], ⟨hp.2, g2⟩, fun j q u hq hu => ?_⟩
      cases j with
      | zero => simp at hq hu; subst hq; subst hu; exact hp.1
      | succ j => exact g3 j q u (by simpa using hq) (by simpa using hu)
   obtain ⟨k1, k2, k3⟩ := key _ _ h1 hk
   refine sim_put (PC := PC) (v := .func (.func f) #[] (cs.map a.eval)) (p := .cl f ps) hI hd ?_ ⟨_, rfl, by simpa using k1, fun j p u hp hu => k3 j p u hp (by simpa using hu)⟩ k2 h3
   unfold execOp; rw [ho]; simp [Instr.makeFunc]
  ·exact h.elim
 ·simp only [hc, cond_true] at h
  rw [Bool.and_eq_true, Array.isEmpty_iff, Array.isEmpty_iff] at hc
  obtain ⟨rfl, rfl⟩ := hc
  refine sim_plain (R0 := []) hI hd ?_ rfl (.s _) h
  unfold execOp; rw [ho]; simp [Instr.makeFunc]
theorem fldOk {t : TypeId} {fs : List (Nat × Bool × Nat)} {i : TyI} (hT : TabOk P T) (ht : T.get t = some i) (hk : i.k = .st fs) : ∃ fields, P.underlying t = some (.struct fields) ∧ ∀ (f off : Nat) (ag : Bool) (n : Nat), fs[f]? = some (off, ag, n) → ∃ fd, fields[f]? = some fd ∧ fd.offset = off ∧ (∃ ti, P.info? fd.type = some ti ∧ ti.size = n ∧ 0 < n) ∧ ∃ d', P.underlying fd.type = some d' ∧ d'.isRow = ag := by
 obtain ⟨d, h1, h2⟩ := (hT t i ht).und
 rw [hk] at h2
 obtain ⟨fields, rfl, _, h3⟩ := h2
 exact ⟨fields, h1, h3⟩
theorem sim_fieldAddr {t : TypeId} {x : Operand} {f : Nat} (hT : TabOk P T) (ho : o.op = .fieldAddr t x f) (hI : InvO F0 B nt w0 ow σ a w) (hd : ∀ d, o.dst = some d → d < nt) (h : (opA P T o).run PC σ K) : o.wp P a w (Sim F0 B nt w0 σ K) Q := by
 unfold opA at h
 rw [ho] at h
 obtain ⟨p, R0, h1, h2, h3⟩ := evO_inv hI x _ _ h
 have hrun : ∀ fs fields fd b k, P.underlying t = some (.struct fields) → fields[f]? = some fd → (∃ ti n, P.info? fd.type = some ti ∧ ti.size = n ∧ 0 < n) → a.eval x = .pointer (some ⟨b, k, none⟩) → fs = fd.offset → (execOp a.eval o).run P w = .ok (.value (.pointer (some ⟨b, k + fs, none⟩))) w := by
  intro fs fields fd b k g1 g2 ⟨ti, n, g5, g6, g7⟩ g3 g4
  subst g4
  have : ti.size ≠ 0 := by omega
  unfold execOp; rw [ho]; simp [g3, Instr.fieldAt, run_underlying g1, g2, Instr.sureAddr, fieldPlace, sizeOf, typeInfo, g5, this, Addr.add_lit]
 split at h3
 ·rename_i fs n by_ z b k ht
  split at h3
  ·rename_i off ag m hf
   obtain ⟨fields, u1, u2⟩ := fldOk hT ht rfl
   obtain ⟨fd, v1, v2, v3, _⟩ := u2 f off ag m hf
   obtain ⟨g, g1, g2⟩ := h1
   exact sim_put (p := .pt b (k + off)) hI hd (hrun off fields fd g k u1 v1 ⟨_, _, v3.choose_spec⟩ g2 v2.symm) ⟨g, g1, rfl⟩ h2 h3
  ·exact h3.elim
 ·rename_i fs n by_ z cs ht
  split at h3
  ·rename_i off ag m hf
   obtain ⟨fields, u1, u2⟩ := fldOk hT ht rfl
   obtain ⟨fd, v1, v2, v3, _⟩ := u2 f off ag m hf
   obtain ⟨g1, _⟩ := h1
   generalize hv : a.eval x = v at g1
   cases g1 with
   | rp cs b k u hcell hh =>
    refine sim_plain hI hd (hrun off fields fd b k u1 v1 ⟨_, _, v3.choose_spec⟩ hv v2.symm) rfl (.rp _ b (k + off) (fun j => u (off + j)) (fun j hj => ?_) (fun j p hp => ?_)) h3
    ·rw [List.length_drop] at hj
     rw [Nat.add_assoc]
     exact hcell (off + j) (by omega)
    ·rw [List.getElem?_drop] at hp
     exact hh (off + j) p hp
  ·exact h3.elim
 ·rename_i fs n by_ zz tk v z ix k ht
  split at h3
  ·rename_i off ag m hf
   obtain ⟨fields, u1, u2⟩ := fldOk hT ht rfl
   obtain ⟨fd, v1, v2, v3, _⟩ := u2 f off ag m hf
   obtain ⟨g, g2, g1⟩ := h1
   refine sim_put (p := .el tk v z ix (k + off)) hI hd (hrun off fields fd g (ix * z + k) u1 v1 ⟨_, _, v3.choose_spec⟩ g2 v2.symm) ⟨g, ?_, g1⟩ h2 h3
   rw [Nat.add_assoc]
  ·exact h3.elim
 ·exact h3.elim
theorem plain_ro {F : Nat → Nat → Prop} {p : PV} {v : Value} (h : RepC F w p v) (h1 : v.oneCell' = true) : plainP p.ro = true := by
 cases h <;> first | rfl | simp [Value.oneCell'] at h1
theorem isAgg_run {t : TypeId} {i : TyI} (hT : TyOk P t i) (w : World) : (isAgg t).run P w = .ok i.agg w := by
 obtain ⟨d, h1, h2⟩ := hT.agg
 unfold isAgg
 rw [Sem.run_bind, run_underlying h1 w, ← h2]
 cases d <;> simp
theorem sizeOf_run {t : TypeId} {i : TyI} (hT : TyOk P t i) (w : World) : (sizeOf t).run P w = .ok i.size w := by
 obtain ⟨ti, z, h1, h2, _⟩ := hT.info
 simp [sizeOf, typeInfo, h1, h2]
theorem loadVar_agg {t : TypeId} {i : TyI} (hT : TyOk P t i) (hag : i.agg = true) (b k : Nat) (cs : List Value) (hl : cs.length = i.size) (hc : w.rangeAt b k cs) : (Instr.loadAt t (.pointer (some ⟨b, k, none⟩))).run P w = .ok (.agg cs.toArray) w := by
 obtain ⟨d, h1, h2⟩ := hT.agg
 obtain ⟨ti, z, g1, g2, _⟩ := hT.info
 exact run_loadAt_mid w b k t cs d hc h1 (h2.trans hag) (by rw [g1]; simp [g2, hl])
theorem loadVar_sc {t : TypeId} {i : TyI} (hT : TyOk P t i) (hag : i.agg = false) (b k : Nat) (v : Value) (hc : w.cell? ⟨b, k, none⟩ = some v) : (Instr.loadAt t (.pointer (some ⟨b, k, none⟩))).run P w = .ok v w := by
 simp [Instr.loadAt, Instr.sureAddr, loadVar, isAgg_run hT, hag, load, Sem.run, hc]
theorem wf_box {b k : Nat} (h : wfT σ (.pt b k)) : ∃ cs, σ (3 * b + 1) = .ag cs := by
 unfold wfT wf1 at h
 simp only [] at h
 split at h
 ·exact ⟨_, by assumption⟩
 ·exact h.elim
theorem sim_load {t : TypeId} {x : Operand} (hT : TabOk P T) (ho : o.op = .load t x) (hI : InvO F0 B nt w0 ow σ a w) (hd : ∀ d, o.dst = some d → d < nt)
 (hX : ∀ i tk v z ix off R0, T.get t = some i → RepV ow w σ (.el tk v z ix off) (a.eval x) → (loadX T i o.dst tk v z ix off).run PC σ (fun R ws => K (R0 ++ R) ws) → o.wp P a w (Sim F0 B nt w0 σ K) Q)
 (h : (opA P T o).run PC σ K) : o.wp P a w (Sim F0 B nt w0 σ K) Q := by
 unfold opA at h
 rw [ho] at h
 obtain ⟨p, R0, h1, h2, h3⟩ := evO_inv hI x _ _ h
 have hrun : ∀ v, (Instr.loadAt t (a.eval x)).run P w = .ok v w → (execOp a.eval o).run P w = .ok (.value v) w := fun v hv => by
  unfold execOp; rw [ho]; simp [hv]
 split at h3
 ·rename_i i b k ht
  have hti := hT t i ht
  obtain ⟨g, g1, g2⟩ := h1
  obtain ⟨cs0, hcs0⟩ := wf_box h2
  obtain ⟨cs, c, Ty, b1, b2, b3, b4⟩ := (hI.boxes g b g1).box hcs0
  have hw := hI.wf (3 * b + 1)
  simp only [AM.run, force_eq, b1] at h3
  rw [b1] at hw
  have htok : allP (tokOk σ) cs := by
   have : Nat.beq ((3 * b + 1) % 3) 1 = true := by rw [show (3 * b + 1) % 3 = 1 by omega]; rfl
   simp only [wf1, this, cond_true] at hw
   exact hw
  have hcell : ∀ j v, c[j]? = some v → w.cell? ⟨g, j, none⟩ = some v := fun j v hv => (cell_of_row w g j c Ty (0, 0) b2).trans hv
  cases hag : i.agg
  ·rw [hag] at h3
   simp only [cond_false] at h3
   cases hk : cs[k]? with
   | none => rw [hk] at h3; exact h3.elim
   | some q =>
    rw [hk] at h3
    have hkl : k < c.size := by have := (List.getElem?_eq_some_iff.1 hk).1; omega
    have hv : c[k]? = some c[k] := Array.getElem?_eq_getElem hkl
    obtain ⟨o1, o2, o3⟩ := b4 k q c[k] hk hv
    have hr := hrun _ (g2 ▸ loadVar_sc hti hag g k _ (hcell k _ hv))
    have ht := allP_get htok hk
    have hput : ∀ R ws, K (R0 ++ (3 * b + 1) :: R) ws → K ((R0 ++ [3 * b + 1]) ++ R) ws := fun R ws hk => by rw [List.append_assoc]; exact hk
    replace h3 := run_mono _ hput h3
    cases q with
    | sl k z xs => exact sim_put (PC := PC) (p := .sl k z xs) hI hd hr ⟨o2, o3⟩ ht h3
    | pt t o => cases o2
    | fr n z => cases o2
    | vw => cases o2
    | el => cases o2
    | rw => cases o2
    | xo => cases o2
    | nl n => exact sim_put (PC := PC) (p := .nl n) hI hd hr ⟨o2, o3⟩ trivial h3
    | cl f cs =>
     generalize hvv : c[k] = v at o1 o2 hr
     cases o2 with
     | cl f cs vs hl hc => exact sim_put (PC := PC) (p := .cl f cs) hI hd hr (clT hl hc).1 (clT (B := B) hl hc).2 h3
    | tu ps =>
     generalize hvv : c[k] = v at o1 o2
     cases o2
     simp [Value.oneCell'] at o1
    | s y => exact sim_put (PC := PC) (p := .s y) hI hd hr ⟨o2, o3⟩ trivial h3
    | tt => exact sim_put (PC := PC) (p := .tt) hI hd hr ⟨o2, o3⟩ trivial h3
    | ff => exact sim_put (PC := PC) (p := .ff) hI hd hr ⟨o2, o3⟩ trivial h3
    | ag cs => exact sim_put (PC := PC) (p := .ag cs) hI hd hr ⟨o2, o3⟩ trivial h3
    | rp cs => exact sim_put (PC := PC) (p := .rp cs) hI hd hr ⟨o2, o3⟩ trivial h3
    | any => exact sim_put (PC := PC) (p := .any) hI hd hr ⟨o2, o3⟩ trivial h3
  ·rw [hag] at h3
   simp only [cond_true] at h3
   cases hbl : Nat.ble (k + i.size) cs.length
   ·rw [hbl] at h3; exact h3.elim
   ·rw [hbl] at h3
    have hle := Nat.le_of_ble_eq_true hbl
    have hlen : ((c.toList.drop k).take i.size).length = i.size := by simp; omega
    have hget : ∀ j, j < i.size → ((c.toList.drop k).take i.size)[j]? = c[k + j]? := fun j hj => by
     rw [List.getElem?_take, if_pos hj, List.getElem?_drop]; simp
    have hr := hrun _ (g2 ▸ loadVar_agg hti hag g k ((c.toList.drop k).take i.size) hlen (fun j v hv => by
     have hj : j < i.size := by have := (List.getElem?_eq_some_iff.1 hv).1; omega
     rw [hget j hj] at hv
     exact hcell _ _ hv))
    have hput : ∀ R ws, K (R0 ++ (3 * b + 1) :: R) ws → K ((R0 ++ [3 * b + 1]) ++ R) ws := fun R ws hk => by rw [List.append_assoc]; exact hk
    refine sim_plain (PC := PC) (p := .ag (((cs.drop k).take i.size).map PV.ro)) hI hd hr rfl (.ag _ _ ?_ ?_ ?_) (run_mono _ hput h3)
    ·simp; omega
    ·intro v hv
     obtain ⟨j, hj, hjv⟩ := List.getElem_of_mem hv
     have hj2 : j < i.size := by simpa [hlen] using hj
     have hv2 : c[k + j]? = some v := by
      rw [← hget j hj2, ← hjv]; exact List.getElem?_eq_getElem (by simpa using hj)
     have hjc : k + j < cs.length := by omega
     exact (b4 (k + j) cs[k + j] v (List.getElem?_eq_getElem hjc) hv2).1
    ·intro j p v hp hv
     have hj : j < i.size := by
      have := (Array.getElem?_eq_some_iff.1 hv).1
      simp at this; omega
     rw [List.getElem?_map, List.getElem?_take, if_pos hj, List.getElem?_drop] at hp
     have hv2 : c[k + j]? = some v := by rw [← hget j hj]; simpa using hv
     obtain ⟨q, hq, rfl⟩ := Option.map_eq_some_iff.1 hp
     exact (b4 (k + j) q v hq hv2).2.1.ro
 ·rename_i i cs ht
  have hti := hT t i ht
  obtain ⟨g1, _⟩ := h1
  generalize hv : a.eval x = v at g1
  cases g1 with
  | rp cs b k u hcell hh =>
   cases hag : i.agg
   ·rw [hag] at h3
    simp only [cond_false] at h3
    cases hk : cs[0]? with
    | none => rw [hk] at h3; exact h3.elim
    | some q =>
     rw [hk] at h3
     obtain ⟨c1, c2, c3⟩ := hcell 0 (List.getElem?_eq_some_iff.1 hk).1
     have hr := hh 0 q hk
     exact sim_plain (PC := PC) hI hd (hrun _ (hv ▸ loadVar_sc hti hag b k _ c1)) (plain_ro hr c3) hr.ro h3
   ·rw [hag] at h3
    simp only [cond_true] at h3
    cases hbl : Nat.ble i.size cs.length
    ·rw [hbl] at h3; exact h3.elim
    ·rw [hbl] at h3
     have hle := Nat.le_of_ble_eq_true hbl
     have hget : ∀ j, j < i.size → ((List.range i.size).map u)[j]? = some (u j) := fun j hj => by simp [hj]
     have hra : w.rangeAt b k ((List.range i.size).map u) := fun j v hv => by
      have hj : j < i.size := by have := (List.getElem?_eq_some_iff.1 hv).1; simpa using this
      rw [hget j hj] at hv
      cases hv
      exact (hcell j (by omega)).1
     refine sim_plain (PC := PC) (p := .ag (cs.take i.size)) hI hd (hrun _ (hv ▸ loadVar_agg hti hag b k ((List.range i.size).map u) (by simp) hra)) rfl (.ag _ _ ?_ ?_ ?_) h3
     ·simp; omega
     ·intro v hv
      simp only [List.mem_map, List.mem_range] at hv
      obtain ⟨j, hj, rfl⟩ := hv
      exact (hcell j (by omega)).2.2
     ·intro j p v hp hv
      have hj : j < i.size := by have := (Array.getElem?_eq_some_iff.1 hv).1; simpa using this
      rw [List.getElem?_take, if_pos hj] at hp
      have hv2 : v = u j := by
       have : ((List.range i.size).map u)[j]? = some v := by simpa using hv
       rw [hget j hj] at this; cases this; rfl
      rw [hv2]
      exact hh j p hp
 ·rename_i i tk v z ix off ht
  exact hX i tk v z ix off _ ht h1 h3
 ·exact h3.elim
theorem sim_field {t : TypeId} {x : Operand} {f : Nat} (hT : TabOk P T) (ho : o.op = .field t x f) (hI : InvO F0 B nt w0 ow σ a w) (hd : ∀ d, o.dst = some d → d < nt) (h : (opA P T o).run PC σ K) : o.wp P a w (Sim F0 B nt w0 σ K) Q := by
 unfold opA at h
 rw [ho] at h
 obtain ⟨p, R0, h1, h2, h3⟩ := evO_inv hI x _ _ h
 split at h3
 ·rename_i fs n by_ z cs ht
  split at h3
  ·rename_i off ag m hf
   obtain ⟨fields, u1, u2⟩ := fldOk hT ht rfl
   obtain ⟨fd, v1, v2, ⟨ti, v3, v4, v5⟩, d', v6, v7⟩ := u2 f off ag m hf
   obtain ⟨g1, _⟩ := h1
   cases hbl : Nat.ble (off + m) cs.length
   ·rw [hbl] at h3; exact h3.elim
   rw [hbl] at h3
   simp only [cond_true] at h3
   have hle := Nat.le_of_ble_eq_true hbl
   generalize hv : a.eval x = v at g1
   cases g1 with
   | ag cs vs hl hone hh =>
    have hagg : (isAgg fd.type).run P w = .ok ag w := by
     unfold isAgg
     rw [Sem.run_bind, run_underlying v6 w, ← v7]
     cases d' <;> simp
    cases ag
    ·simp only [cond_false] at h3
     cases hk : cs[off]? with
     | none => rw [hk] at h3; exact h3.elim
     | some q =>
      rw [hk] at h3
      have hko : off < vs.size := by have := (List.getElem?_eq_some_iff.1 hk).1; omega
      have hvk : vs[off]? = some vs[off] := Array.getElem?_eq_getElem hko
      have hr := hh off q _ hk hvk
      refine sim_plain (PC := PC) hI hd (v := vs[off]) ?_ (plain_ro hr (hone _ (by simp))) hr.ro h3
      unfold execOp; rw [ho]; simp [hv, Instr.field, run_underlying u1, v1, asAgg, part, hagg, v2, hvk]
    ·simp only [cond_true] at h3
     refine sim_plain (PC := PC) (p := .ag ((cs.drop off).take m)) hI hd (v := .agg (vs.extract off (off + m))) ?_ rfl (.ag _ _ ?_ ?_ ?_) h3
     ·unfold execOp; rw [ho]; simp [hv, Instr.field, run_underlying u1, v1, asAgg, part, hagg, v2, sizeOf, typeInfo, v3, v4]
     ·simp; omega
     ·intro v hv
      refine hone v ?_
      rw [Array.toList_extract] at hv
      exact List.mem_of_mem_drop (List.mem_of_mem_take hv)
     ·intro j p v hp hv
      rw [List.getElem?_take] at hp
      split at hp
      ·rename_i hj
       rw [List.getElem?_drop] at hp
       rw [Array.getElem?_extract] at hv
       split at hv
       ·exact hh (off + j) p v hp hv
       ·cases hv
      ·cases hp
  ·exact h3.elim
 ·exact h3.elim
theorem idx_some {xs : List PV} {i : Int} {x : PV} (h : idx xs i = some x) : 0 ≤ i ∧ i.toNat < xs.length ∧ xs[i.toNat]? = some x := by
 unfold idx at h
 split at h
 ·exact ⟨by assumption, (List.getElem?_eq_some_iff.1 h).1, h⟩
 ·cases h
theorem lenV_eq (lo hi : Nat) : lenV lo hi = hi - lo := by
 unfold lenV
 cases h : Nat.beq lo 0
 ·rfl
 ·rw [Nat.eq_of_beq_eq_true h]; rfl
theorem sim_indexAddr {t : TypeId} {x y : Operand} (hT : TabOk P T) (ho : o.op = .indexAddr t x y) (hI : InvO F0 B nt w0 ow σ a w) (hd : ∀ d, o.dst = some d → d < nt) (h : (opA P T o).run PC σ K) : o.wp P a w (Sim F0 B nt w0 σ K) Q := by
 unfold opA at h
 rw [ho] at h
 obtain ⟨p, R0, h1, h2, h3⟩ := evO_inv hI x _ _ h
 obtain ⟨q, R1, k1, k2, k3⟩ := evO_inv hI y _ _ h3
 replace k3 := run_mono (K' := fun R ws => K ((R0 ++ R1) ++ R) ws) _ (fun R ws hk => by rw [List.append_assoc]; exact hk) k3
 split at k3
 ·rename_i e n by_ zz kk z xs ik i ht
  obtain ⟨d, hu, hk⟩ := (hT _ _ ht).und
  obtain rfl : d = .slice e := hk
  have ey := (k1.rep rfl).s_eq
  split at k3
  ·rename_i ie hte
   cases hz : Nat.beq z ie.size
   ·rw [hz] at k3; exact k3.elim
   rw [hz] at k3
   have hz' := Nat.eq_of_beq_eq_true hz
   obtain ⟨x', hx', k4⟩ := k3
   obtain ⟨i0, i1, i2⟩ := idx_some hx'
   have g1 := h1.rep rfl
   generalize hv : a.eval x = v at g1
   cases g1 with
   | nil => simp at i1
   | emp => simp at i1
   | sl k z xs b off cap u hk hc hzz hcell hh =>
    have hlen := hzz x' (List.mem_of_getElem? i2)
    refine sim_plain (PC := PC) (p := .rp x'.cells) hI hd (v := .pointer (some ⟨b, off + i.toNat * z, none⟩)) ?_ rfl (.rp _ b (off + i.toNat * z) (u i.toNat) (fun j hj => hcell _ j i1 (by omega)) (fun j p hp => hh _ x' j p i2 hp)) k4
    have hlt : i < (xs.length : Int) := by omega
    unfold execOp; rw [ho]; simp [hv, ey, Instr.indexAt, asIntOf, run_underlying hu, i0, hlt, sizeOf_run (hT _ _ hte), ← hz', Addr.add_lit]
  ·exact k3.elim
 ·rename_i e n by_ zz tk v z lo hi ik i ht
  obtain ⟨d, hu, hk⟩ := (hT _ _ ht).und
  obtain rfl : d = .slice e := hk
  have ey := (k1.rep rfl).s_eq
  split at k3
  ·rename_i ie hte
   cases hz : Nat.beq z ie.size
   ·rw [hz] at k3; exact k3.elim
   rw [hz] at k3
   have hz' := Nat.eq_of_beq_eq_true hz
   obtain ⟨⟨i0, i1⟩, k4⟩ := k3
   rw [lenV_eq] at i1
   obtain ⟨hlo, h1⟩ := h1
   rcases h1 with ⟨e1, _⟩ | ⟨b, N, hN, hv, hcur⟩
   ·omega
   ·refine sim_put (PC := PC) (p := .el tk v z (lo + i.toNat) 0) hI hd (v := .pointer (some ⟨b, (lo + i.toNat) * z + 0, none⟩)) ?_ ⟨b, rfl, fun xs hx => (hcur xs hx).1⟩ (by exact h2) k4
    have hlt : i < ((hi - lo : Nat) : Int) := i1
    unfold execOp; rw [ho]; simp [hv, ey, Instr.indexAt, asIntOf, run_underlying hu, i0, hlt, sizeOf_run (hT _ _ hte), ← hz', Addr.add_lit, Nat.add_mul]
  ·exact k3.elim
 ·exact k3.elim
theorem sim_index {t : TypeId} {x y : Operand} (hT : TabOk P T) (ho : o.op = .index t x y) (hI : InvO F0 B nt w0 ow σ a w) (hd : ∀ d, o.dst = some d → d < nt) (h : (opA P T o).run PC σ K) : o.wp P a w (Sim F0 B nt w0 σ K) Q := by
 unfold opA at h
 rw [ho] at h
 obtain ⟨p, R0, h1, h2, h3⟩ := evO_inv hI x _ _ h
 obtain ⟨q, R1, k1, k2, k3⟩ := evO_inv hI y _ _ h3
 replace k3 := run_mono (K' := fun R ws => K ((R0 ++ R1) ++ R) ws) _ (fun R ws hk => by rw [List.append_assoc]; exact hk) k3
 split at k3
 ·rename_i s ik i
  cases hb : T.isStr t
  ·rw [hb] at k3; exact k3.elim
  rw [hb] at k3
  have hu := isStr_und hT hb
  obtain ⟨x', hx', k4⟩ := k3
  have ex := (h1.rep rfl).s_eq
  have ey := (k1.rep rfl).s_eq
  unfold strIdx at hx'
  split at hx'
  ·rename_i i0
   obtain ⟨b, hb, rfl⟩ := Option.map_eq_some_iff.1 hx'
   refine sim_plain (PC := PC) hI hd ?_ rfl (.s _) k4
   unfold execOp; rw [ho]; simp [ex, ey, Instr.index, asIntOf, run_underlying hu, i0, hb]
  ·cases hx'
 ·exact k3.elim
theorem sim_bopI {op : BinOp} {t t' : TypeId} {x y : Operand} (ho : o.op = .binOp op t x y t') (hI : InvO F0 B nt w0 ow σ a w) (hd : ∀ d, o.dst = some d → d < nt) {k k' : IntKind} {m n : Int} {R0 : List Nat}
 (ex : a.eval x = .int k m) (ey : a.eval y = .int k' n) (hkk : op = .shr ∨ op = .shl ∨ k = k') (h : (bopI o.dst op k m n).run PC σ fun R ws => K (R0 ++ R) ws) : o.wp P a w (Sim F0 B nt w0 σ K) Q := by
 have hrun : ∀ v, (binOp op t (.int k m) (.int k' n)).run P w = .ok v w → (execOp a.eval o).run P w = .ok (.value v) w := fun v hv => by
  unfold execOp; rw [ho]
  have hg : (eqGuard op t x y (.int k m) (.int k' n)).run P w = .ok () w := by
   unfold eqGuard
   cases op <;> rfl
  simp [ex, ey, hg, hv]
 unfold bopI at h
 split at h
 ·obtain rfl : k = k' := by rcases hkk with e | e | e <;> first | exact e | cases e
  exact sim_plain hI hd (hrun _ (by simp [binOp, Op.intArith])) rfl (.s _) h
 ·obtain rfl : k = k' := by rcases hkk with e | e | e <;> first | exact e | cases e
  exact sim_plain hI hd (hrun _ (by simp [binOp, Op.intArith])) rfl (.s _) h
 ·obtain rfl : k = k' := by rcases hkk with e | e | e <;> first | exact e | cases e
  exact sim_plain hI hd (hrun _ (by simp [binOp, Op.intArith])) rfl (.s _) h
 ·obtain rfl : k = k' := by rcases hkk with e | e | e <;> first | exact e | cases e
  exact sim_plain hI hd (hrun _ (by simp [binOp, Op.intDiv, h.1])) rfl (.s _) h.2
 ·obtain rfl : k = k' := by rcases hkk with e | e | e <;> first | exact e | cases e
  exact sim_plain hI hd (hrun _ (by simp [binOp, Op.intDiv, h.1])) rfl (.s _) h.2
 ·obtain rfl : k = k' := by rcases hkk with e | e | e <;> first | exact e | cases e
  exact sim_plain hI hd (hrun _ (by simp [binOp, Op.intCmp])) rfl (.s _) h
 ·obtain rfl : k = k' := by rcases hkk with e | e | e <;> first | exact e | cases e
  exact sim_plain hI hd (hrun _ (by simp [binOp, Op.intCmp])) rfl (.s _) h
 ·obtain rfl : k = k' := by rcases hkk with e | e | e <;> first | exact e | cases e
  exact sim_plain hI hd (hrun _ (by simp [binOp, Op.intCmp])) rfl (.s _) h
 ·obtain rfl : k = k' := by rcases hkk with e | e | e <;> first | exact e | cases e
  exact sim_plain hI hd (hrun _ (by simp [binOp, Op.intCmp])) rfl (.s _) h
 ·obtain rfl : k = k' := by rcases hkk with e | e | e <;> first | exact e | cases e
  exact sim_plain hI hd (hrun _ (by simp [binOp, Op.intCmp])) rfl (.s _) h
 ·obtain rfl : k = k' := by rcases hkk with e | e | e <;> first | exact e | cases e
  exact sim_plain hI hd (hrun _ (by simp [binOp, Op.intCmp])) rfl (.s _) h
 ·have h1 := h.1
  have : ¬ n < 0 := by omega
  exact sim_plain hI hd (hrun _ (by simp [binOp, Op.shift, this])) rfl (.s _) h.2
 ·have h1 := h.1
  have : ¬ n < 0 := by omega
  exact sim_plain hI hd (hrun _ (by simp [binOp, Op.shift, this])) rfl (.s _) h.2
 ·exact h.elim
theorem sim_bopS {op : BinOp} {t t' : TypeId} {x y : Operand} (ho : o.op = .binOp op t x y t') (hI : InvO F0 B nt w0 ow σ a w) (hd : ∀ d, o.dst = some d → d < nt) {m n : ByteArray} {R0 : List Nat}
 (ex : a.eval x = .string m) (ey : a.eval y = .string n) (h : (bopS o.dst op m n).run PC σ fun R ws => K (R0 ++ R) ws) : o.wp P a w (Sim F0 B nt w0 σ K) Q := by
 have hrun : ∀ v, (Op.stringOp op m n).run P w = .ok v w → (execOp a.eval o).run P w = .ok (.value v) w := fun v hv => by
  unfold execOp; rw [ho]
  have hg : (eqGuard op t x y (.string m) (.string n)).run P w = .ok () w := by
   unfold eqGuard
   cases op <;> rfl
  have hb : binOp op t (.string m) (.string n) = Op.stringOp op m n := by cases op <;> rfl
  simp [ex, ey, hg, hb, hv]
 unfold bopS at h
 split at h
 ·have h1 := h.1
  exact sim_plain hI hd (hrun _ (by
   have : ¬ ((m.size + n.size : Nat) : Int) > IntKind.i64.max := by omega
   unfold Op.stringOp; simp only []; rw [if_neg this]; rfl)) rfl (.s _) h.2
 ·exact sim_plain hI hd (hrun _ (by simp [Op.stringOp])) rfl (.s _) h
 ·exact sim_plain hI hd (hrun _ (by simp [Op.stringOp])) rfl (.s _) h
 ·exact sim_plain hI hd (hrun _ (by simp [Op.stringOp])) rfl (.s _) h
 ·exact sim_plain hI hd (hrun _ (by simp [Op.stringOp])) rfl (.s _) h
 ·exact sim_plain hI hd (hrun _ (by simp [Op.stringOp])) rfl (.s _) h
 ·exact sim_plain hI hd (hrun _ (by simp [Op.stringOp])) rfl (.s _) h
 ·exact h.elim
theorem cellsEq_s : ∀ {ps qs : List PV} {b : Bool} {xs ys : List Value}, cellsEq ps qs = some b → ps.length = xs.length → qs.length = ys.length → (∀ (j : Nat) p v, ps[j]? = some p → xs[j]? = some v → RepC (FF F0 ow) w p v) → (∀ (j : Nat) p v, qs[j]? = some p → ys[j]? = some v → RepC (FF F0 ow) w p v) →
 ps = xs.map PV.s ∧ qs = ys.map PV.s
 | [], [], b, xs, ys, _, hx, hy, _, _ => by
  obtain rfl := List.eq_nil_of_length_eq_zero hx.symm
  obtain rfl := List.eq_nil_of_length_eq_zero hy.symm
  exact ⟨rfl, rfl⟩
 | p :: ps, q :: qs, b, x :: xs, y :: ys, h, hx, hy, h1, h2 => by
  have key : ∃ c, cellsEq ps qs = some c ∧ ∃ s t, p = .s s ∧ q = .s t := by
   unfold cellsEq at h
   split at h <;> first
    | (simp_all; done)
    | (simp_all; rcases h with h | h <;> simp [h.1])
  obtain ⟨c, hc, s, t, rfl, rfl⟩ := key
  have ih := cellsEq_s hc (by simpa using hx) (by simpa using hy) (fun j p v a b => h1 (j + 1) p v (by simpa using a) (by simpa using b)) (fun j p v a b => h2 (j + 1) p v (by simpa using a) (by simpa using b))
  have e1 := (h1 0 _ _ rfl rfl).s_eq
  have e2 := (h2 0 _ _ rfl rfl).s_eq
  subst e1 e2
  rw [ih.1, ih.2]
  exact ⟨rfl, rfl⟩
 | p :: ps, q :: qs, b, [], ys, h, hx, hy, h1, h2 => by simp at hx
 | p :: ps, q :: qs, b, x :: xs, [], h, hx, hy, h1, h2 => by simp at hy
 | [], q :: qs, b, xs, ys, h, hx, hy, h1, h2 => by simp [cellsEq] at h
 | p :: ps, [], b, xs, ys, h, hx, hy, h1, h2 => by simp [cellsEq] at h
theorem equal_bool {t : TypeId} (hu : P.underlying t = some .bool) (m n : Bool) (w : World) : (Op.equal t (.bool m) (.bool n)).run P w = .ok (m == n) w := by
 rw [show Op.equal t (.bool m) (.bool n) = Op.equalIn (9999 + 1) t (.bool m) (.bool n) from rfl, Op.equalIn, Sem.run_bind, run_underlying hu]
 rfl
theorem sim_binOp {op : BinOp} {t t' : TypeId} {x y : Operand} (hT : TabOk P T) (ho : o.op = .binOp op t x y t') (hI : InvO F0 B nt w0 ow σ a w) (hd : ∀ d, o.dst = some d → d < nt) (h : (opA P T o).run PC σ K) : o.wp P a w (Sim F0 B nt w0 σ K) Q := by
 unfold opA at h
 rw [ho] at h
 obtain ⟨p, R0, h1, h2, h3⟩ := evO_inv hI x _ _ h
 obtain ⟨q, R1, k1, k2, k3⟩ := evO_inv hI y _ _ h3
 replace k3 := run_mono (K' := fun R ws => K ((R0 ++ R1) ++ R) ws) _ (fun R ws hk => by rw [List.append_assoc]; exact hk) k3
 have nbr : ∀ p v, RepT F0 B ow w σ p v → isT p.nb = false → RepC (FF F0 ow) w p.nb v := fun p v hp hn => (hp.rep (by cases p <;> first | rfl | cases hn)).nb
 unfold bopA at k3
 split at k3
 ·rename_i k m k' n e1 e2
  have ex := (e1 ▸ nbr p _ h1 (by rw [e1]; rfl)).s_eq
  have ey := (e2 ▸ nbr q _ k1 (by rw [e2]; rfl)).s_eq
  cases hsh : isSh op
  ·rw [hsh] at k3
   simp only [cond_false] at k3
   split at k3
   ·rename_i hk _
    subst hk
    exact sim_bopI ho hI hd ex ey (Or.inr (Or.inr rfl)) k3
   ·exact k3.elim
  ·rw [hsh] at k3
   refine sim_bopI ho hI hd ex ey ?_ k3
   cases op <;> first | exact Or.inl rfl | exact Or.inr (Or.inl rfl) | cases hsh
 ·rename_i m n e1 e2
  have ex := (e1 ▸ nbr p _ h1 (by rw [e1]; rfl)).s_eq
  have ey := (e2 ▸ nbr q _ k1 (by rw [e2]; rfl)).s_eq
  exact sim_bopS ho hI hd ex ey k3
 ·rename_i m n e1 e2
  have ex := (e1 ▸ nbr p _ h1 (by rw [e1]; rfl)).s_eq
  have ey := (e2 ▸ nbr q _ k1 (by rw [e2]; rfl)).s_eq
  split at k3
  ·cases hb : T.isBo t
   ·rw [hb] at k3; exact k3.elim
   rw [hb] at k3
   refine sim_plain hI hd (v := .bool (m == n)) ?_ rfl (.s _) k3
   unfold execOp; rw [ho]; simp [ex, ey, eqGuard, binOp, equal_bool (isBo_und hT hb)]
  ·cases hb : T.isBo t
   ·rw [hb] at k3; exact k3.elim
   rw [hb] at k3
   refine sim_plain hI hd (v := .bool (!(m == n))) ?_ rfl (.s _) k3
   unfold execOp; rw [ho]; simp [ex, ey, eqGuard, binOp, equal_bool (isBo_und hT hb)]
  ·exact k3.elim
 ·rename_i ps qs e1 e2
  have ex := e1 ▸ nbr p _ h1 (by rw [e1]; rfl)
  have ey := e2 ▸ nbr q _ k1 (by rw [e2]; rfl)
  generalize hvx : a.eval x = vx at ex
  generalize hvy : a.eval y = vy at ey
  cases ex with
  | ag ps xs hl hone hh =>
   cases ey with
   | ag qs ys hl2 hone2 hh2 =>
    have hcs : ∀ b, cellsEq ps qs = some b → cellsEq (xs.toList.map PV.s) (ys.toList.map PV.s) = some b := fun b hb => by
     obtain ⟨u1, u2⟩ := cellsEq_s (w := w) (F0 := F0) (ow := ow) (xs := xs.toList) (ys := ys.toList) hb (by simpa using hl) (by simpa using hl2) (fun j p v a b => hh j p v a (by simpa using b)) (fun j p v a b => hh2 j p v a (by simpa using b))
     rw [← u1, ← u2]; exact hb
    split at k3
    ·rename_i i ht
     cases hkd : kindsP i.zero ps && kindsP i.zero qs
     ·rw [hkd] at k3; exact k3.elim
     rw [hkd] at k3
     rw [Bool.and_eq_true] at hkd
     simp only [cond_true] at k3
     split at k3
     ·rename_i b hb
      obtain ⟨u1, u2⟩ := cellsEq_s (w := w) (F0 := F0) (ow := ow) (xs := xs.toList) (ys := ys.toList) hb (by simpa using hl) (by simpa using hl2) (fun j p v a b => hh j p v a (by simpa using b)) (fun j p v a b => hh2 j p v a (by simpa using b))
      obtain ⟨g1, g2⟩ := k3.1 w xs ys b (u1 ▸ hkd.1) (u2 ▸ hkd.2) (hcs b hb)
      refine sim_plain hI hd (v := .bool b) ?_ rfl (.s _) k3.2
      unfold execOp; rw [ho]; simp [hvx, hvy, (g2 x y).1, binOp, g1]
     ·rename_i b hb
      obtain ⟨u1, u2⟩ := cellsEq_s (w := w) (F0 := F0) (ow := ow) (xs := xs.toList) (ys := ys.toList) hb (by simpa using hl) (by simpa using hl2) (fun j p v a b => hh j p v a (by simpa using b)) (fun j p v a b => hh2 j p v a (by simpa using b))
      obtain ⟨g1, g2⟩ := k3.1 w xs ys b (u1 ▸ hkd.1) (u2 ▸ hkd.2) (hcs b hb)
      refine sim_plain hI hd (v := .bool (!b)) ?_ rfl (.s _) k3.2
      unfold execOp; rw [ho]; simp [hvx, hvy, (g2 x y).2, binOp, g1]
     ·exact k3.elim
    ·exact k3.elim
 ·exact k3.elim
theorem slice_run {t e : TypeId} {lo hi mx : Option Operand} {x : Operand} (ho : o.op = .slice t x lo hi mx) (hu : P.underlying t = some (.slice e)) {r : Value}
 (hr : (Instr.slice t (a.eval x) (lo.map a.eval) (hi.map a.eval) (mx.map a.eval)).run P w = .ok r w) : (execOp a.eval o).run P w = .ok (.value r) w := by
 unfold execOp; rw [ho]; simp [Instr.sliceAt, run_underlying hu, hr]
theorem slice_runS {t : TypeId} {lo hi mx : Option Operand} {x : Operand} (ho : o.op = .slice t x lo hi mx) (hu : P.underlying t = some .string) {r : Value}
 (hr : (Instr.slice t (a.eval x) (lo.map a.eval) (hi.map a.eval) (mx.map a.eval)).run P w = .ok r w) : (execOp a.eval o).run P w = .ok (.value r) w := by
 unfold execOp; rw [ho]; simp [Instr.sliceAt, run_underlying hu, hr]
end
section
variable {P : Program} {T : Tab} {PC : Orc} {Q : Exit → Act → World → Prop} {o : Oper} {a : Act} {w : World} {B nt : Nat} {w0 : W0} {F0 : Nat → Nat → Prop} {ow : Ow} {σ : St} {K : List Nat → List (Nat × PV) → Prop}
theorem run_sliceBound (k : IntKind) (i : Int) (y : Nat) (c : BoundsCode) (h0 : 0 ≤ i) (h1 : i ≤ y) : (Instr.sliceBound (.int k i) y c).run P w = .ok i.toNat w := by
 simp [Instr.sliceBound, asIntOf, h0, h1]
def loIs (v : Option Value) (l : Int) : Prop := (v = none ∧ l = 0) ∨ ∃ k, v = some (.int k l)
def hiIs (v : Option Value) (n : Nat) (h : Int) : Prop := (v = none ∧ h = n) ∨ ∃ k, v = some (.int k h)
theorem run_bounds (isS : Bool) (n c : Nat) (hnc : n ≤ c) (lo hi : Option Value) (l h : Int) (hlo : loIs lo l) (hhi : hiIs hi n h) (h0 : 0 ≤ l) (h1 : l ≤ h) (h2 : h ≤ n) :
 (Instr.sliceBounds isS n c lo hi none).run P w = .ok (l.toNat, h.toNat, c) w := by
 have e1 : (h.toNat : Int) = h := Int.toNat_of_nonneg (by omega)
 rcases hlo with ⟨rfl, rfl⟩ | ⟨k, rfl⟩ <;> rcases hhi with ⟨rfl, rfl⟩ | ⟨k', rfl⟩
 ·simp [Instr.sliceBounds]
 ·simp [Instr.sliceBounds, run_sliceBound k' h c _ (by omega) (by omega)]
 ·simp [Instr.sliceBounds, run_sliceBound k l n _ h0 (by omega)]
 ·have : (Instr.sliceBound (.int k l) h.toNat .sliceB).run P w = .ok l.toNat w := run_sliceBound k l h.toNat _ h0 (by omega)
  simp [Instr.sliceBounds, run_sliceBound k' h c _ (by omega) (by omega), this]
theorem run_sliceStr {t : TypeId} (hu : P.underlying t = some .string) (s : ByteArray) (lo hi : Option Value) (l h : Int) (hlo : loIs lo l) (hhi : hiIs hi s.size h) (h0 : 0 ≤ l) (h1 : l ≤ h) (h2 : h ≤ s.size) :
 (Instr.slice t (.string s) lo hi none).run P w = .ok (.string (s.extract l.toNat h.toNat)) w := by
 simp [Instr.slice, run_underlying hu, run_bounds false s.size s.size (Nat.le_refl _) lo hi l h hlo hhi h0 h1 h2]
theorem run_sliceSl {t e : TypeId} {ie : TyI} (hu : P.underlying t = some (.slice e)) (hT : TyOk P e ie) (A : Option Addr) (n c : Nat) (hnc : n ≤ c) (lo hi : Option Value) (l h : Int) (hlo : loIs lo l) (hhi : hiIs hi n h) (h0 : 0 ≤ l) (h1 : l ≤ h) (h2 : h ≤ n) :
 (Instr.slice t (.slice A n c) lo hi none).run P w = .ok (.slice (if c = l.toNat then A else A.map (·.add (l.toNat * ie.size))) (h.toNat - l.toNat) (c - l.toNat)) w := by
 simp [Instr.slice, run_underlying hu, run_bounds true n c hnc lo hi l h hlo hhi h0 h1 h2, sizeOf_run hT]
theorem run_slice3 {t e : TypeId} {ie : TyI} (hu : P.underlying t = some (.slice e)) (hT : TyOk P e ie) (A : Option Addr) (n c : Nat) (hnc : n ≤ c) (k k' : IntKind) (h : Int) (h0 : 0 ≤ h) (h2 : h ≤ n) :
 (Instr.slice t (.slice A n c) none (some (.int k h)) (some (.int k' h))).run P w = .ok (.slice A h.toNat h.toNat) w := by
 have e1 : (h.toNat : Int) = h := Int.toNat_of_nonneg (by omega)
 have b1 : (Instr.sliceBound (.int k' h) c .slice3Acap).run P w = .ok h.toNat w := run_sliceBound k' h c _ h0 (by omega)
 have b2 : (Instr.sliceBound (.int k h) h.toNat .slice3B).run P w = .ok h.toNat w := run_sliceBound k h _ _ h0 (by omega)
 simp [Instr.slice, run_underlying hu, Instr.sliceBounds, b1, b2, sizeOf_run hT]
 intro _
 cases A <;> simp [Addr.add]
theorem RepC.sl_len {F : Nat → Nat → Prop} {k z : Nat} {xs : List PV} {v : Value} (hr : RepC F w (.sl k z xs) v) : ∃ A c, v = .slice A xs.length c ∧ xs.length ≤ c := by
 cases hr with
 | nil => exact ⟨none, 0, rfl, Nat.le_refl _⟩
 | emp k z a cap hk => exact ⟨some a, cap, rfl, Nat.zero_le _⟩
 | sl k z xs b o cap u hk hc hz hcell hh => exact ⟨_, _, rfl, hc⟩
theorem RepC.cut {F : Nat → Nat → Prop} {k k' z : Nat} {xs : List PV} {A : Option Addr} {n c l h c' : Nat} (hr : RepC F w (.sl k z xs) (.slice A n c)) (h1 : l ≤ h) (h2 : h ≤ xs.length) (hc' : h - l ≤ c') (hn : A = none → c' = 0) (hk' : k' = 1 → c' = h - l) :
 RepC F w (.sl k' z ((xs.take h).drop l)) (.slice (if c = l then A else A.map (·.add (l * z))) (h - l) c') := by
 generalize hv : Value.slice A n c = v at hr
 cases hr with
 | nil =>
  injection hv with e1 e2 e3
  subst e1
  subst e2
  subst e3
  simp at h2
  subst h2
  obtain rfl : l = 0 := by omega
  obtain rfl := hn rfl
  simp
  exact .nil _ _
 | emp k z a cap hk =>
  injection hv with e1 e2 e3
  subst e1
  subst e2
  subst e3
  simp at h2
  subst h2
  obtain rfl : l = 0 := by omega
  have e0 : (if c = 0 then some a else (some a).map (·.add (0 * z))) = some a := by split <;> simp [Addr.add]
  rw [e0]
  simp
  exact .emp _ _ _ _ (fun e => by rw [hk' e])
 | sl k z xs b o cap u hk hc hz hcell hh =>
  injection hv with e1 e2 e3
  subst e1
  subst e2
  subst e3
  have hlen : ((xs.take h).drop l).length = h - l := by simp; omega
  have hget : ∀ i x, ((xs.take h).drop l)[i]? = some x → xs[l + i]? = some x := fun i x hx => by
   rw [List.getElem?_drop, List.getElem?_take] at hx
   split at hx
   ·exact hx
   ·cases hx
  by_cases hcl : c = l
  ·rw [if_pos hcl]
   have e0 : (xs.take h).drop l = [] := List.eq_nil_of_length_eq_zero (by omega)
   have hz0 : h - l = 0 := by omega
   rw [e0, hz0]
   exact .sl k' z [] b o c' u (fun e => by rw [hk' e, hz0]; rfl) (Nat.zero_le _) (fun x hx => by cases hx) (fun i j hi _ => by simp at hi) (fun i x j p hi _ => by simp at hi)
  ·rw [if_neg hcl, ← hlen]
   simp only [Option.map_some, Addr.add_lit]
   refine .sl k' z _ b (o + l * z) c' (fun i j => u (l + i) j) (fun e => by rw [hk' e, hlen]) (by omega) (fun x hx => hz x (List.mem_of_mem_take (List.mem_of_mem_drop hx))) (fun i j hi hj => ?_) (fun i x j p hx hp => hh (l + i) x j p (hget i x hx) hp)
   have := hcell (l + i) j (by omega) hj
   rw [Nat.add_mul] at this
   rw [show o + l * z + i * z + j = o + (l * z + i * z) + j by omega]
   exact this
theorem RepC.cut0 {F : Nat → Nat → Prop} {k k' z : Nat} {xs : List PV} {A : Option Addr} {n c h : Nat} (hr : RepC F w (.sl k z xs) (.slice A n c)) (h2 : h ≤ xs.length) (hn : A = none → h = 0) :
 RepC F w (.sl k' z (xs.take h)) (.slice A h h) := by
 have := RepC.cut (k' := k') (l := 0) (c' := h) hr (Nat.zero_le _) h2 (by omega) hn (fun _ => rfl)
 simp only [Nat.zero_mul, List.drop_zero, Nat.sub_zero] at this
 have e : (if c = 0 then A else A.map (·.add 0)) = A := by cases A <;> simp [Addr.add]
 rw [e] at this
 exact this
theorem viewCut {t vr z lo hi l h n : Nat} {v : Value} (hv : RepV ow w σ (.vw t vr z lo hi) v) (hl : l ≤ h) (hn : v = .slice none 0 0 ∨ True) (hh : h ≤ hi - lo ∨ ∃ xs, σ (3 * t + 1) = .rw vr z xs ∧ h + lo ≤ xs.length ∧ xs.length = n)
 (huq : ∀ b b', ow b = some (2 * t, 0) → ow b' = some (2 * t, 0) → b = b') (hrow : ∀ b xs, ow b = some (2 * t, 0) → σ (3 * t + 1) = .rw vr z xs → ∀ cur e N, w.heap[b]? = some (.cells cur e (0, 0)) → cur.size = N * z → 0 < z → xs.length ≤ N) (hz : 0 < z) :
 ∃ A c, v = .slice A (hi - lo) c ∧ hi - lo ≤ c ∧ h ≤ c ∧ RepV ow w σ (.vw t vr z (lo + l) (lo + h)) (.slice (if c = l then A else A.map (·.add (l * z))) (h - l) (c - l)) := by
 obtain ⟨h0, hv⟩ := hv
 rcases hv with ⟨e1, ⟨A, rfl⟩, e3⟩ | ⟨b, N, h1, rfl, h3⟩
 ·have hh0 : h = 0 := by
   rcases hh with hh | ⟨xs, hx, hh, _⟩
   ·omega
   ·have := (e3 xs hx).1; omega
  subst hh0
  obtain rfl : l = 0 := by omega
  refine ⟨A, 0, by rw [show hi - lo = 0 by omega], by omega, Nat.le_refl _, by omega, Or.inl ⟨rfl, ⟨A, by simp⟩, fun xs hx => ⟨by have := (e3 xs hx).1; omega, (e3 xs hx).2⟩⟩⟩
 ·have hhN : lo + h ≤ N := by
   rcases hh with hh | ⟨xs, hx, hh, _⟩
   ·omega
   ·obtain ⟨g1, g2, cur, e, g3, g4⟩ := h3 xs hx
    have := hrow b xs g1 hx cur e N g3 g4 hz
    omega
  refine ⟨some ⟨b, lo * z, none⟩, N - lo, rfl, by omega, by omega, by omega, ?_⟩
  by_cases hc : N - lo = l
  ·refine Or.inl ⟨by omega, ⟨_, by rw [show h - l = 0 by omega, show N - lo - l = 0 by omega]⟩, fun xs hx => ?_⟩
   obtain ⟨g1, g2, cur, e, g3, g4⟩ := h3 xs hx
   have := hrow b xs g1 hx cur e N g3 g4 hz
   refine ⟨?_, fun b' hb' cur' e' hc' => ?_⟩
   ·rcases hh with hh | ⟨xs', hx', hh, _⟩
    ·omega
    ·rw [hx] at hx'; cases hx'; omega
   ·obtain rfl := huq _ _ hb' g1
    rw [g3] at hc'
    cases hc'
    rw [g4, show lo + l = N by omega]
  ·refine Or.inr ⟨b, N, hhN, ?_, fun xs hx => ?_⟩
   ·rw [if_neg hc, Option.map_some, Addr.add_lit, ← Nat.add_mul, show lo + h - (lo + l) = h - l by omega, show N - (lo + l) = N - lo - l by omega]
   ·obtain ⟨g1, g2, cur, e, g3, g4⟩ := h3 xs hx
    refine ⟨g1, ?_, cur, e, g3, g4⟩
    rcases hh with hh | ⟨xs', hx', hh, _⟩
    ·omega
    ·rw [hx] at hx'; cases hx'; omega
theorem run_sliceSlC {t e : TypeId} {ie : TyI} (hu : P.underlying t = some (.slice e)) (hT : TyOk P e ie) (A : Option Addr) (n c : Nat) (lo hi : Option Value) (l h : Int) (hlo : loIs lo l) (hhi : hiIs hi n h) (hnc : n ≤ c) (h0 : 0 ≤ l) (h1 : l ≤ h) (h2 : h ≤ c) :
 (Instr.slice t (.slice A n c) lo hi none).run P w = .ok (.slice (if c = l.toNat then A else A.map (·.add (l.toNat * ie.size))) (h.toNat - l.toNat) (c - l.toNat)) w := by
 have e1 : (h.toNat : Int) = h := Int.toNat_of_nonneg (by omega)
 have hb : (Instr.sliceBounds true n c lo hi none).run P w = .ok (l.toNat, h.toNat, c) w := by
  rcases hlo with ⟨rfl, rfl⟩ | ⟨k, rfl⟩ <;> rcases hhi with ⟨rfl, rfl⟩ | ⟨k', rfl⟩
  ·simp [Instr.sliceBounds]
  ·simp [Instr.sliceBounds, run_sliceBound k' h c _ (by omega) (by omega)]
  ·simp [Instr.sliceBounds, run_sliceBound k l n _ h0 (by omega)]
  ·have : (Instr.sliceBound (.int k l) h.toNat .sliceB).run P w = .ok l.toNat w := run_sliceBound k l h.toNat _ h0 (by omega)
   simp [Instr.sliceBounds, run_sliceBound k' h c _ (by omega) (by omega), this]
 simp [Instr.slice, run_underlying hu, hb, sizeOf_run hT]
theorem run_slice3m {t e : TypeId} {ie : TyI} (hu : P.underlying t = some (.slice e)) (hT : TyOk P e ie) (A : Option Addr) (n c : Nat) (k k' k'' : IntKind) (l h m : Int) (h0 : 0 ≤ l) (h1 : l ≤ h) (h2 : h ≤ m) (h3 : m ≤ c) :
 ∃ v, (Instr.slice t (.slice A n c) (some (.int k l)) (some (.int k' h)) (some (.int k'' m))).run P w = .ok v w := by
 have e1 : (m.toNat : Int) = m := Int.toNat_of_nonneg (by omega)
 have e2 : (h.toNat : Int) = h := Int.toNat_of_nonneg (by omega)
 have b1 : (Instr.sliceBound (.int k'' m) c .slice3Acap).run P w = .ok m.toNat w := run_sliceBound k'' m c _ (by omega) (by omega)
 have b2 : (Instr.sliceBound (.int k' h) m.toNat .slice3B).run P w = .ok h.toNat w := run_sliceBound k' h _ _ (by omega) (by omega)
 have b3 : (Instr.sliceBound (.int k l) h.toNat .slice3C).run P w = .ok l.toNat w := run_sliceBound k l _ _ (by omega) (by omega)
 exact ⟨_, by simp [Instr.slice, run_underlying hu, Instr.sliceBounds, b1, b2, b3, sizeOf_run hT]; rfl⟩
theorem rowLen (hI : InvO F0 B nt w0 ow σ a w) {t vr z : Nat} : ∀ b xs, ow b = some (2 * t, 0) → σ (3 * t + 1) = .rw vr z xs → ∀ cur e N, w.heap[b]? = some (.cells cur e (0, 0)) → cur.size = N * z → 0 < z → xs.length ≤ N := by
 intro b xs hb hx cur e N hc hs hz
 obtain ⟨M, cur', e', g1, g2, g3, g4, _⟩ := (hI.boxes b t hb).row hx
 rw [hc] at g1
 cases g1
 have : N * z = M * z := by omega
 have := Nat.eq_of_mul_eq_mul_right hz this
 omega
theorem sim_slice {t : TypeId} {x : Operand} {lo hi mx : Option Operand} (hT : TabOk P T) (ho : o.op = .slice t x lo hi mx) (hI : InvO F0 B nt w0 ow σ a w) (hd : ∀ d, o.dst = some d → d < nt) (h : (opA P T o).run PC σ K) : o.wp P a w (Sim F0 B nt w0 σ K) Q := by
 unfold opA at h
 rw [ho] at h
 obtain ⟨p, R0, h1, h2, h3⟩ := evO_inv hI x _ _ h
 clear h
 split at h3
 ·rename_i s
  have ex := (h1.rep rfl).s_eq
  have fin : ∀ (l h : Int) (R1 : List Nat), loIs (lo.map a.eval) l → hiIs (hi.map a.eval) s.size h → mx = none →
   (bif T.isStr t then AM.need (0 ≤ l ∧ l ≤ h ∧ h ≤ s.size) (Ev.put o.dst (.s (.string (s.extract l.toNat h.toNat)))) else .bad).run PC σ (fun R ws => K (R1 ++ R) ws) → o.wp P a w (Sim F0 B nt w0 σ K) Q := by
   intro l h R1 hl hh hm hk
   cases hb : T.isStr t
   ·rw [hb] at hk; exact hk.elim
   rw [hb] at hk
   have u1 := isStr_und hT hb
   obtain ⟨⟨u2, u3, u4⟩, u5⟩ := hk
   refine sim_plain (PC := PC) hI hd (slice_runS ho u1 (r := .string (s.extract l.toNat h.toNat)) ?_) rfl (.s _) u5
   subst hm
   rw [ex]
   exact run_sliceStr u1 s _ _ l h hl hh u2 u3 u4
  simp only [] at h3
  split at h3
  ·exact fin _ _ _ (Or.inl ⟨rfl, rfl⟩) (Or.inl ⟨rfl, rfl⟩) rfl h3
  ·rename_i lo'
   obtain ⟨q, R1, k1, k2, k3⟩ := evO_inv hI lo' _ _ h3
   replace k3 := run_mono (K' := fun R ws => K ((R0 ++ R1) ++ R) ws) _ (fun R ws hk => by rw [List.append_assoc]; exact hk) k3
   split at k3
   ·have ey := (k1.rep rfl).s_eq
    exact fin _ _ _ (Or.inr ⟨_, congrArg some ey⟩) (Or.inl ⟨rfl, rfl⟩) rfl k3
   ·exact k3.elim
  ·rename_i hi'
   obtain ⟨q, R1, k1, k2, k3⟩ := evO_inv hI hi' _ _ h3
   replace k3 := run_mono (K' := fun R ws => K ((R0 ++ R1) ++ R) ws) _ (fun R ws hk => by rw [List.append_assoc]; exact hk) k3
   split at k3
   ·have ey := (k1.rep rfl).s_eq
    exact fin _ _ _ (Or.inl ⟨rfl, rfl⟩) (Or.inr ⟨_, congrArg some ey⟩) rfl k3
   ·exact k3.elim
  ·rename_i lo' hi'
   obtain ⟨q, R1, k1, k2, k3⟩ := evO_inv hI lo' _ _ h3
   obtain ⟨q', R2, m1, m2, m3⟩ := evO_inv hI hi' _ _ k3
   replace m3 := run_mono (K' := fun R ws => K ((R0 ++ (R1 ++ R2)) ++ R) ws) _ (fun R ws hk => by rw [List.append_assoc, List.append_assoc]; exact hk) m3
   split at m3
   ·have ey := (k1.rep rfl).s_eq
    have ez := (m1.rep rfl).s_eq
    exact fin _ _ _ (Or.inr ⟨_, congrArg some ey⟩) (Or.inr ⟨_, congrArg some ez⟩) rfl m3
   ·exact m3.elim
  ·exact h3.elim
 ·rename_i k z xs
  split at h3
  ·rename_i e n by_ zz ht
   obtain ⟨d, hu, hk⟩ := (hT _ _ ht).und
   obtain rfl : d = .slice e := hk
   split at h3
   ·rename_i ie hte
    have hr := h1.rep rfl
    obtain ⟨A, c, ev, hlc⟩ := hr.sl_len
    rw [ev] at hr
    have fin : ∀ (l h : Int) (R1 : List Nat), loIs (lo.map a.eval) l → hiIs (hi.map a.eval) xs.length h → mx = none →
     (bif Nat.beq z ie.size then AM.need (0 ≤ l ∧ l ≤ h ∧ h ≤ xs.length) (Ev.put o.dst (.sl 0 z ((xs.take h.toNat).drop l.toNat))) else .bad).run PC σ (fun R ws => K (R1 ++ R) ws) → o.wp P a w (Sim F0 B nt w0 σ K) Q := by
     intro l h R1 hl hh hm hk
     cases hz : Nat.beq z ie.size
     ·rw [hz] at hk; exact hk.elim
     rw [hz] at hk
     have hz' := Nat.eq_of_beq_eq_true hz
     obtain ⟨⟨u2, u3, u4⟩, u5⟩ := hk
     refine sim_plain (PC := PC) hI hd (slice_run ho hu (r := .slice (if c = l.toNat then A else A.map (·.add (l.toNat * ie.size))) (h.toNat - l.toNat) (c - l.toNat)) ?_) rfl ?_ u5
     ·subst hm
      rw [ev]
      exact run_sliceSl hu (hT _ _ hte) A _ c hlc _ _ l h hl hh u2 u3 u4
     ·rw [← hz']
      refine hr.cut (by omega) (by omega) (by omega) (fun e => ?_) (fun e => by cases e)
      subst e
      generalize hvv : Value.slice none xs.length c = vv at hr
      cases hr with
      | nil => injection hvv with _ _ e3; omega
      | emp => injection hvv with e1 _ _; cases e1
      | sl => injection hvv with e1 _ _; cases e1
    simp only [] at h3
    split at h3
    ·exact fin _ _ _ (Or.inl ⟨rfl, rfl⟩) (Or.inl ⟨rfl, rfl⟩) rfl h3
    ·rename_i lo'
     obtain ⟨q, R1, k1, k2, k3⟩ := evO_inv hI lo' _ _ h3
     replace k3 := run_mono (K' := fun R ws => K ((R0 ++ R1) ++ R) ws) _ (fun R ws hk => by rw [List.append_assoc]; exact hk) k3
     split at k3
     ·have ey := (k1.rep rfl).s_eq
      exact fin _ _ _ (Or.inr ⟨_, congrArg some ey⟩) (Or.inl ⟨rfl, rfl⟩) rfl k3
     ·exact k3.elim
    ·rename_i hi'
     obtain ⟨q, R1, k1, k2, k3⟩ := evO_inv hI hi' _ _ h3
     replace k3 := run_mono (K' := fun R ws => K ((R0 ++ R1) ++ R) ws) _ (fun R ws hk => by rw [List.append_assoc]; exact hk) k3
     split at k3
     ·have ey := (k1.rep rfl).s_eq
      exact fin _ _ _ (Or.inl ⟨rfl, rfl⟩) (Or.inr ⟨_, congrArg some ey⟩) rfl k3
     ·exact k3.elim
    ·rename_i lo' hi'
     obtain ⟨q, R1, k1, k2, k3⟩ := evO_inv hI lo' _ _ h3
     obtain ⟨q', R2, m1, m2, m3⟩ := evO_inv hI hi' _ _ k3
     replace m3 := run_mono (K' := fun R ws => K ((R0 ++ (R1 ++ R2)) ++ R) ws) _ (fun R ws hk => by rw [List.append_assoc, List.append_assoc]; exact hk) m3
     split at m3
     ·have ey := (k1.rep rfl).s_eq
      have ez := (m1.rep rfl).s_eq
      exact fin _ _ _ (Or.inr ⟨_, congrArg some ey⟩) (Or.inr ⟨_, congrArg some ez⟩) rfl m3
     ·exact m3.elim
    ·rename_i hi' mx'
     obtain ⟨q, R1, k1, k2, k3⟩ := evO_inv hI hi' _ _ h3
     obtain ⟨q', R2, m1, m2, m3⟩ := evO_inv hI mx' _ _ k3
     replace m3 := run_mono (K' := fun R ws => K ((R0 ++ (R1 ++ R2)) ++ R) ws) _ (fun R ws hk => by rw [List.append_assoc, List.append_assoc]; exact hk) m3
     split at m3
     ·have ey := (k1.rep rfl).s_eq
      have ez := (m1.rep rfl).s_eq
      obtain ⟨rfl, hk⟩ := m3
      cases hz : Nat.beq z ie.size
      ·rw [hz] at hk; exact hk.elim
      rw [hz] at hk
      obtain ⟨⟨u2, u3, u4⟩, u5⟩ := hk
      rename_i h _
      have hcut : RepC (FF F0 ow) w (.sl 1 z (xs.take h.toNat)) (.slice A h.toNat h.toNat) := hr.cut0 (by omega) (fun e => by
       subst e
       generalize hvv : Value.slice none xs.length c = vv at hr
       cases hr with
       | nil => injection hvv with _ _ e3; simp at u4; omega
       | emp => injection hvv with e1 _ _; cases e1
       | sl => injection hvv with e1 _ _; cases e1)
      simp only [Int.toNat_zero, List.drop_zero] at u5
      refine sim_put (PC := PC) (p := .sl 1 z (xs.take h.toNat)) hI hd (slice_run ho hu (r := .slice A h.toNat h.toNat) ?_) ⟨hcut, ?_⟩ trivial u5
      ·rw [ev]
       show (Instr.slice t _ none (some (a.eval hi')) (some (a.eval mx'))).run P w = _
       rw [ey, ez]
       exact run_slice3 hu (hT _ _ hte) A _ c hlc _ _ h u3 u4
      ·have : (xs.take h.toNat).length = h.toNat := by simp; omega
       exact ⟨A, by rw [this]⟩
     ·exact m3.elim
    ·exact h3.elim
   ·exact h3.elim
  ·exact h3.elim
 ·rename_i tk vr z l0 h0
  split at h3
  ·rename_i e n by_ zz ht
   obtain ⟨d, hu, hk⟩ := (hT _ _ ht).und
   obtain rfl : d = .slice e := hk
   split at h3
   ·rename_i ie hte
    have hvw : RepV ow w σ (.vw tk vr z l0 h0) (a.eval x) := h1
    have fin : ∀ (l h : Int) (R1 : List Nat), loIs (lo.map a.eval) l → hiIs (hi.map a.eval) (h0 - l0) h → mx = none →
     (bif Nat.beq z ie.size && Nat.blt 0 z then (bif T.isXo o.dst then curRw tk vr z fun xs => AM.need (0 ≤ l ∧ l ≤ h ∧ h + l0 ≤ xs.length) (Ev.put o.dst (.vw tk vr z (l0 + l.toNat) (l0 + h.toNat)))
      else AM.need (0 ≤ l ∧ l ≤ h ∧ h ≤ (lenV l0 h0 : Nat)) (Ev.put o.dst (.vw tk vr z (l0 + l.toNat) (l0 + h.toNat)))) else .bad).run PC σ (fun R ws => K (R1 ++ R) ws) → o.wp P a w (Sim F0 B nt w0 σ K) Q := by
     intro l h R1 hl hh hm hk
     subst hm
     cases hz : Nat.beq z ie.size && Nat.blt 0 z
     ·rw [hz] at hk; exact hk.elim
     rw [hz] at hk
     rw [Bool.and_eq_true] at hz
     have hz' := Nat.eq_of_beq_eq_true hz.1
     have hz0 : 0 < z := Nat.le_of_ble_eq_true hz.2
     simp only [cond_true] at hk
     have goal : ∀ R2, 0 ≤ l → l ≤ h → (h.toNat ≤ h0 - l0 ∨ ∃ xs, σ (3 * tk + 1) = .rw vr z xs ∧ h.toNat + l0 ≤ xs.length ∧ xs.length = xs.length) → (Ev.put o.dst (.vw tk vr z (l0 + l.toNat) (l0 + h.toNat))).run PC σ (fun R ws => K (R2 ++ R) ws) → 0 < z → o.wp P a w (Sim F0 B nt w0 σ K) Q := by
      intro R2 u2 u3 u4 u5 hzp
      have u4' : h.toNat ≤ h0 - l0 ∨ ∃ xs, σ (3 * tk + 1) = .rw vr z xs ∧ h.toNat + l0 ≤ xs.length ∧ xs.length = (match σ (3 * tk + 1) with | .rw _ _ xs => xs.length | _ => 0) := u4.imp id fun ⟨xs, a, b, _⟩ => ⟨xs, a, b, by rw [a]⟩
      obtain ⟨A, c, ev, c1, c2, hr⟩ := viewCut hvw (l := l.toNat) (h := h.toNat) (by omega) (Or.inr trivial) u4' (fun b b' h h' => hI.uniq b b' tk h h') (rowLen hI) hzp
      refine sim_put (PC := PC) (p := .vw tk vr z (l0 + l.toNat) (l0 + h.toNat)) hI hd (slice_run ho hu (r := .slice (if c = l.toNat then A else A.map (·.add (l.toNat * ie.size))) (h.toNat - l.toNat) (c - l.toNat)) ?_) (by rw [← hz']; exact hr) (by exact h2) u5
      rw [ev]
      exact run_sliceSlC hu (hT _ _ hte) A _ c _ _ l h hl hh c1 u2 u3 (by omega)
     cases hX : T.isXo o.dst
     ·rw [hX] at hk
      simp only [cond_false] at hk
      obtain ⟨⟨u2, u3, u4⟩, u5⟩ := hk
      rw [lenV_eq] at u4
      exact goal _ u2 u3 (Or.inl (by omega)) u5 hz0
     ·rw [hX] at hk
      simp only [cond_true, curRw, AM.run, force_eq] at hk
      split at hk
      ·rename_i v' z' xs hx
       cases hvz : Nat.beq vr v' && Nat.beq z z'
       ·rw [hvz] at hk; exact hk.elim
       rw [hvz] at hk
       rw [Bool.and_eq_true] at hvz
       obtain rfl := Nat.eq_of_beq_eq_true hvz.1
       obtain rfl := Nat.eq_of_beq_eq_true hvz.2
       simp only [cond_true] at hk
       obtain ⟨⟨u2, u3, u4⟩, u5⟩ := hk
       refine goal (R1 ++ [3 * tk + 1]) u2 u3 (Or.inr ⟨xs, hx, by omega, rfl⟩) (run_mono _ (fun R ws hk => ?_) u5) hz0
       rw [List.append_assoc]; exact hk
      ·exact hk.elim
    simp only [] at h3
    split at h3
    ·rename_i lo'
     obtain ⟨q, R1, k1, k2, k3⟩ := evO_inv hI lo' _ _ h3
     replace k3 := run_mono (K' := fun R ws => K ((R0 ++ R1) ++ R) ws) _ (fun R ws hk => by rw [List.append_assoc]; exact hk) k3
     split at k3
     ·have ey := (k1.rep rfl).s_eq
      exact fin _ _ _ (Or.inr ⟨_, congrArg some ey⟩) (Or.inl ⟨rfl, by rw [lenV_eq]⟩) rfl k3
     ·exact k3.elim
    ·rename_i hi'
     obtain ⟨q, R1, k1, k2, k3⟩ := evO_inv hI hi' _ _ h3
     replace k3 := run_mono (K' := fun R ws => K ((R0 ++ R1) ++ R) ws) _ (fun R ws hk => by rw [List.append_assoc]; exact hk) k3
     split at k3
     ·have ey := (k1.rep rfl).s_eq
      exact fin _ _ _ (Or.inl ⟨rfl, rfl⟩) (Or.inr ⟨_, congrArg some ey⟩) rfl k3
     ·exact k3.elim
    ·rename_i lo' hi'
     obtain ⟨q, R1, k1, k2, k3⟩ := evO_inv hI lo' _ _ h3
     obtain ⟨q', R2, m1, m2, m3⟩ := evO_inv hI hi' _ _ k3
     replace m3 := run_mono (K' := fun R ws => K ((R0 ++ (R1 ++ R2)) ++ R) ws) _ (fun R ws hk => by rw [List.append_assoc, List.append_assoc]; exact hk) m3
     split at m3
     ·have ey := (k1.rep rfl).s_eq
      have ez := (m1.rep rfl).s_eq
      exact fin _ _ _ (Or.inr ⟨_, congrArg some ey⟩) (Or.inr ⟨_, congrArg some ez⟩) rfl m3
     ·exact m3.elim
    ·rename_i lo' hi' mx'
     obtain ⟨q, R1, k1, k2, k3⟩ := evO_inv hI lo' _ _ h3
     obtain ⟨q', R2, m1, m2, m3⟩ := evO_inv hI hi' _ _ k3
     obtain ⟨q'', R3, n1, n2, n3⟩ := evO_inv hI mx' _ _ m3
     replace n3 := run_mono (K' := fun R ws => K ((R0 ++ (R1 ++ (R2 ++ R3))) ++ R) ws) _ (fun R ws hk => by rw [List.append_assoc, List.append_assoc, List.append_assoc]; exact hk) n3
     split at n3
     ·have ey := (k1.rep rfl).s_eq
      have ez := (m1.rep rfl).s_eq
      have eu := (n1.rep rfl).s_eq
      obtain ⟨⟨u1, u2, u3, u4⟩, u5⟩ := n3
      rw [lenV_eq] at u4
      have hsl : ∃ A c, a.eval x = .slice A (h0 - l0) c ∧ h0 - l0 ≤ c := by
       obtain ⟨k0, kv⟩ := hvw
       rcases kv with ⟨e1, ⟨A, ev⟩, e3⟩ | ⟨b, N, k1, ev, k3⟩
       ·exact ⟨A, 0, by rw [ev, show h0 - l0 = 0 by omega], by omega⟩
       ·exact ⟨_, _, ev, by omega⟩
      obtain ⟨A, c, ev, hc⟩ := hsl
      obtain ⟨v, hv⟩ := run_slice3m (w := w) hu (hT _ _ hte) A (h0 - l0) c _ _ _ _ _ _ u1 u2 u3 (by omega)
      refine sim_put (PC := PC) (p := .any) hI hd (slice_run ho hu (r := v) ?_) ⟨.any _, trivial⟩ trivial u5
      rw [ev]
      show (Instr.slice t _ (some (a.eval lo')) (some (a.eval hi')) (some (a.eval mx'))).run P w = _
      rw [ey, ez, eu]
      exact hv
     ·exact n3.elim
    ·exact h3.elim
   ·exact h3.elim
  ·exact h3.elim
 ·exact h3.elim
theorem sim_len {c : Call} (hT : TabOk P T) (ho : o.op = .call c) (hc : c.callee = .builtin .len) (hI : InvO F0 B nt w0 ow σ a w) (hd : ∀ d, o.dst = some d → d < nt) (h : (opA P T o).run PC σ K) : o.wp P a w (Sim F0 B nt w0 σ K) Q := by
 unfold opA at h
 rw [ho] at h
 simp only [hc] at h
 split at h
 ·rename_i t ht
  have htt : c.argTypes[0]? = some t := by rw [← Array.getElem?_toList, ht]; rfl
  obtain ⟨ps, R0, h1, h3⟩ := evOs_inv hI _ _ _ h
  have hrun : ∀ v r, c.args.toList.map a.eval = [v] → (Builtin.len_ c.argTypes o.type #[v]).run P w = .ok r w → (execOp a.eval o).run P w = .ok (.value r) w := fun v r hv hr => by
   have e : c.args.map a.eval = #[v] := by
    apply Array.toList_inj.1; rw [Array.toList_map]; exact hv
   unfold execOp; rw [ho]; simp [resolve, hc, invoke, builtin, e, hr]
  split at h3
  ·rename_i k z xs
   cases hb : T.isSl t
   ·rw [hb] at h3; exact h3.elim
   rw [hb] at h3
   obtain ⟨e, hu⟩ := isSl_und hT hb
   generalize hvs : c.args.toList.map a.eval = vs at h1
   match vs, h1 with
   | [v], h1 =>
    obtain ⟨A, cp, ev, _⟩ := (h1.1.1.rep rfl).sl_len
    subst ev
    exact sim_plain hI hd (hrun _ _ hvs (by simp [Builtin.len_, goInt, htt, run_underlying hu])) rfl (.s _) h3
   | [], h1 => exact h1.elim
   | _ :: _ :: _, h1 => exact h1.2.elim
  ·rename_i s
   cases hb : T.isStr t
   ·rw [hb] at h3; exact h3.elim
   rw [hb] at h3
   have hu := isStr_und hT hb
   generalize hvs : c.args.toList.map a.eval = vs at h1
   match vs, h1 with
   | [v], h1 =>
    have ev := (h1.1.1.rep rfl).s_eq
    subst ev
    exact sim_plain hI hd (hrun _ _ hvs (by simp [Builtin.len_, goInt, htt, run_underlying hu])) rfl (.s _) h3
   | [], h1 => exact h1.elim
   | _ :: _ :: _, h1 => exact h1.2.elim
  ·rename_i tk vr z lo hi
   cases hb : T.isSl t
   ·rw [hb] at h3; exact h3.elim
   rw [hb] at h3
   simp only [cond_true] at h3
   obtain ⟨e, hu⟩ := isSl_und hT hb
   generalize hvs : c.args.toList.map a.eval = vs at h1
   match vs, h1 with
   | [v], h1 =>
    have hsl : ∃ A c, v = .slice A (hi - lo) c := by
     obtain ⟨k0, kv⟩ := h1.1.1
     rcases kv with ⟨e1, ⟨A, ev⟩, e3⟩ | ⟨b, N, k1, ev, k3⟩
     ·exact ⟨A, 0, by rw [ev, show hi - lo = 0 by omega]⟩
     ·exact ⟨_, _, ev⟩
    obtain ⟨A, cp, ev⟩ := hsl
    subst ev
    have hr := hrun _ (.int .i64 ((hi - lo : Nat) : Int)) hvs (by simp [Builtin.len_, goInt, htt, run_underlying hu])
    cases hl : Nat.beq lo 0
    ·rw [hl] at h3
     exact sim_plain hI hd hr rfl (.s _) h3
    ·rw [hl] at h3
     have := Nat.eq_of_beq_eq_true hl
     subst this
     exact sim_plain hI hd hr rfl (.s _) h3
   | [], h1 => exact h1.elim
   | _ :: _ :: _, h1 => exact h1.2.elim
  ·rename_i n
   cases hb : T.isSl t
   ·rw [hb] at h3; exact h3.elim
   rw [hb] at h3
   obtain ⟨e, hu⟩ := isSl_und hT hb
   generalize hvs : c.args.toList.map a.eval = vs at h1
   match vs, h1 with
   | [v], h1 =>
    obtain ⟨h1, _⟩ := h1.1.1
    cases h1 with
    | nl n A c =>
    exact sim_plain hI hd (hrun _ _ hvs (by simp [Builtin.len_, goInt, htt, run_underlying hu])) rfl (.s _) h3
   | [], h1 => exact h1.elim
   | _ :: _ :: _, h1 => exact h1.2.elim
  ·exact h3.elim
 ·exact h.elim
end
structure Ext (w w' : World) : Prop where
 os : w'.os = w.os
 tape : w'.tape = w.tape
 output : w'.output = w.output
 size : w.heap.size ≤ w'.heap.size
 block : ∀ k, k < w.heap.size → w'.heap[k]? = w.heap[k]?
theorem Ext.of {w w' : World} (h : Below w.heap.size w w') : Ext w w' := ⟨h.os, h.tape, h.output, h.size, h.block⟩
theorem Ext.below {w w' : World} (h : Ext w w') {B : Nat} (hB : B ≤ w.heap.size) : Below B w w' := ⟨h.os, h.tape, h.output, h.size, fun k hk => h.block k (by omega)⟩
theorem Ext.refl (w : World) : Ext w w := ⟨rfl, rfl, rfl, Nat.le_refl _, fun _ _ => rfl⟩
theorem Ext.cell {w w' : World} (h : Ext w w') {b o : Nat} {u : Value} (hc : w.cell? ⟨b, o, none⟩ = some u) : w'.cell? ⟨b, o, none⟩ = some u :=
 (World.cell?_of_block (h.block b (World.block_lt_of_cell? w ⟨b, o, none⟩ hc))).trans hc
theorem Ext.owns {w w' : World} (h : Ext w w') {B e z n : Nat} {v : Value} {xs : List Value} (ho : w.ownsRow B e z v n xs) : w'.ownsRow B e z v n xs := by
 refine ⟨ho.1, ?_⟩
 rcases ho.2 with hn | ⟨g, cap, cur, rfl, hb, hgg, rest⟩
 ·exact .inl hn
 ·exact .inr ⟨g, cap, cur, rfl, hb, (h.block g (Array.getElem?_eq_some_iff.1 hgg).1).trans hgg, rest⟩
section
variable {B nt : Nat} {w0 : W0} {w w' : World} {F0 : Nat → Nat → Prop} {ow ow' : Ow} {σ σ' : St} {a : Act} {p : PV} {v : Value}
theorem RepC.ext (h : RepC (FF F0 ow) w p v) (he : Ext w w') (ho : ∀ b, b < w.heap.size → ow' b = ow b) : RepC (FF F0 ow') w' p v :=
 h.mono fun b o u hc hf => ⟨he.cell hc, hf.1, fun c l e => hf.2 c l (by rw [← ho b (World.block_lt_of_cell? w ⟨b, o, none⟩ hc)]; exact e)⟩
theorem Own.ext (h : Own B ow w σ p v) (he : Ext w w') (ho : ∀ b, b < w.heap.size → ow' b = ow b) : Own B ow' w' σ p v := by
 unfold Own at *
 split at h
 ·exact h
 ·intro z hz
  rcases h z hz with h | ⟨e, cells, h1, h2⟩
  ·exact Or.inl h
  ·exact Or.inr ⟨e, cells, he.owns h1, fun g hg => by rw [ho g (h1.lt g hg).2]; exact h2 g hg⟩
 ·trivial
def PV.tk : PV → Option Nat
 | .pt t _ => some t
 | .vw t _ _ _ _ => some t
 | .el t _ _ _ _ => some t
 | _ => none
theorem RepV.map {t : Nat} (hp : p.tk = some t) (h : RepV ow w σ p v) (hs : σ' (3 * t + 1) = σ (3 * t + 1)) (hb : ∀ b, ow b = some (2 * t, 0) → ow' b = some (2 * t, 0) ∧ w'.heap[b]? = w.heap[b]?) (hbk : ∀ b, ow' b = some (2 * t, 0) → ow b = some (2 * t, 0)) : RepV ow' w' σ' p v := by
 cases p with
 | pt t' o =>
  cases hp
  obtain ⟨b, h1, h2⟩ := h
  exact ⟨b, (hb b h1).1, h2⟩
 | vw t' vr z lo hi =>
  cases hp
  obtain ⟨h0, h⟩ := h
  refine ⟨h0, ?_⟩
  rcases h with ⟨a, b, c⟩ | ⟨b, N, h1, h2, h3⟩
  ·exact Or.inl ⟨a, b, fun xs hx => ⟨(c xs (hs ▸ hx)).1, fun b' hb' cur e hc => (c xs (hs ▸ hx)).2 b' (hbk b' hb') cur e ((hb b' (hbk b' hb')).2 ▸ hc)⟩⟩
  ·refine Or.inr ⟨b, N, h1, h2, fun xs hx => ?_⟩
   obtain ⟨g1, g2, cur, e, g3, g4⟩ := h3 xs (hs ▸ hx)
   exact ⟨(hb b g1).1, g2, cur, e, (hb b g1).2.trans g3, g4⟩
 | el t' vr z i o =>
  cases hp
  obtain ⟨b, h1, h2⟩ := h
  exact ⟨b, h1, fun xs hx => (hb b (h2 xs (hs ▸ hx))).1⟩
 | _ => cases hp
theorem RepT.map (h : RepT F0 B ow w σ p v) (hw : wfT σ p) (hrep : ∀ p v, RepC (FF F0 ow) w p v → RepC (FF F0 ow') w' p v) (hown : ∀ p v, tokOk σ p → Own B ow w σ p v → Own B ow' w' σ' p v)
 (hview : ∀ p v t, p.tk = some t → tokOk σ p → boxOk σ p → RepV ow w σ p v → RepV ow' w' σ' p v) : RepT F0 B ow' w' σ' p v := by
 cases p with
 | pt t o => exact hview (.pt t o) v t rfl trivial hw h
 | vw t vr z lo hi => exact hview (.vw t vr z lo hi) v t rfl hw trivial h
 | el t vr z i o => exact hview (.el t vr z i o) v t rfl hw trivial h
 | cl f cs =>
  obtain ⟨vs, e1, e2, h⟩ := h
  refine ⟨vs, e1, e2, fun j q u hq hu => ?_⟩
  have hj := h j q u hq hu
  have hb : boxOk σ q := allP_get hw hq
  cases q with
  | pt t o => exact hview (.pt t o) u t rfl trivial hb hj
  | _ => exact hrep _ _ hj
 | tu ps =>
  obtain ⟨vs, e1, e2, h⟩ := h
  refine ⟨vs, e1, e2, fun j q u hq hu => ?_⟩
  have hj := h j q u hq hu
  have hb : tokOk σ q := allP_get hw hq
  cases q with
  | vw t vr z lo hi => exact hview (.vw t vr z lo hi) u t rfl hb trivial hj
  | _ => exact ⟨hrep _ _ hj.1, hown _ _ hb hj.2⟩
 | sl k z xs => exact ⟨hrep _ _ h.1, hown _ _ hw h.2⟩
 | fr => exact ⟨hrep _ _ h.1, trivial⟩
 | _ => exact ⟨hrep _ _ h.1, trivial⟩
theorem mod_box (d : Nat) : Nat.beq ((3 * d + 1) % 3) 1 = true := by rw [show (3 * d + 1) % 3 = 1 by omega]; rfl
theorem ap1_self (k : Nat) (p : PV) (σ : St) : ap [(k, p)] σ k = p := ap_self k p [] σ
theorem ap1_ne {k l : Nat} (p : PV) (σ : St) (h : l ≠ k) : ap [(k, p)] σ l = σ l := ap_ne p [] σ h
theorem InvO.objs (hI : InvO F0 B nt w0 ow σ a w) (Tk : Nat → Prop) (hbel : Bel B ⟨w, w0.m⟩ w')
 (hs0 : ∀ k, σ' (3 * k) = σ (3 * k)) (hs2 : ∀ k, σ' (3 * k + 2) = σ (3 * k + 2)) (hs1 : ∀ k, ¬ Tk k → σ' (3 * k + 1) = σ (3 * k + 1))
 (hne : ∀ k, Tk k → σ' (3 * k + 1) ≠ .any) (hwf : ∀ k, Tk k → wf1 σ' (3 * k + 1) (σ' (3 * k + 1))) (hag : ∀ k, Tk k → ∀ cs, σ (3 * k + 1) = .ag cs → ∃ cs', σ' (3 * k + 1) = .ag cs')
 (hver : ∀ k, Tk k → ∀ v' z' xs', σ' (3 * k + 1) = .rw v' z' xs' → σ (3 * k + 1) = .any ∨ ∃ v z xs, σ (3 * k + 1) = .rw v z xs ∧ v ≤ v')
 (hrep : ∀ p v, RepC (FF F0 ow) w p v → RepC (FF F0 ow') w' p v)
 (hcode : ∀ b c l, ow b = some (c, l) → (∀ k, Tk k → c ≠ 2 * k) → ow' b = some (c, l) ∧ w'.heap[b]? = w.heap[b]?)
 (hback : ∀ b k, ¬ Tk k → ow' b = some (2 * k, 0) → ow b = some (2 * k, 0))
 (howB : ∀ b c l, ow' b = some (c, l) → (B ≤ b ∨ w0.m b) ∧ b < w'.heap.size)
 (hobj : ∀ b k, Tk k → ow' b = some (2 * k, 0) → ObjAt F0 B ow' w' σ' k b)
 (huniq : ∀ b b' k, Tk k → ow' b = some (2 * k, 0) → ow' b' = some (2 * k, 0) → b = b')
 (hview : ∀ p v k, Tk k → p.tk = some k → tokOk σ p → boxOk σ p → RepV ow w σ p v → RepV ow' w' σ' p v) : InvO F0 B nt w0 ow' σ' a w' := by
 have hown : ∀ p v, Own B ow w σ p v → Own B ow' w' σ' p v := fun p v h => by
  unfold Own at *
  split at h
  ·exact h
  ·intro z hz
   rcases h z ((hs2 _) ▸ hz) with h | ⟨e, cells, h1, h2⟩
   ·exact Or.inl h
   ·refine Or.inr ⟨e, cells, ⟨h1.1, ?_⟩, fun g hg => (hcode g _ _ (h2 g hg) (fun k _ e => by omega)).1⟩
    rcases h1.2 with hn | ⟨g, cap, cur, rfl, hb, hgg, rest⟩
    ·exact .inl hn
    ·exact .inr ⟨g, cap, cur, rfl, hb, ((hcode g _ _ (h2 g rfl) (fun k _ e => by omega)).2).trans hgg, rest⟩
  ·trivial
 have hv : ∀ p v t, p.tk = some t → tokOk σ p → boxOk σ p → RepV ow w σ p v → RepV ow' w' σ' p v := fun p v t hp h1 h2 h => by
  by_cases ht : Tk t
  ·exact hview p v t ht hp h1 h2 h
  ·exact h.map hp (hs1 t ht) (fun b hb => hcode b _ _ hb fun k hk e => ht ((show k = t by omega) ▸ hk)) fun b hb => hback b t ht hb
 have htok : ∀ p, tokOk σ p → tokOk σ' p := fun p h => by
  have key : ∀ t vr, (match σ (3 * t + 1) with | .any => False | .rw v' _ _ => Nat.ble vr v' = true | _ => True) → (match σ' (3 * t + 1) with | .any => False | .rw v' _ _ => Nat.ble vr v' = true | _ => True) := fun t vr h => by
   by_cases ht : Tk t
   ·have := hne t ht
    split
    ·rename_i e; exact this e
    ·rename_i v' z' xs' e
     rcases hver t ht v' z' xs' e with h0 | ⟨v, z, xs, h0, hle⟩
     ·simp only [h0] at h
     ·simp only [h0] at h
      exact Nat.ble_eq_true_of_le (Nat.le_trans (Nat.le_of_ble_eq_true h) hle)
    ·trivial
   ·rw [hs1 t ht]; exact h
  unfold tokOk at *
  split at h
  ·rw [hs2]; exact h
  ·exact key _ _ h
  ·exact key _ _ h
  ·trivial
 have hbox : ∀ t, (match σ (3 * t + 1) with | .ag _ => True | _ => False) → (match σ' (3 * t + 1) with | .ag _ => True | _ => False) := fun t h => by
  by_cases ht : Tk t
  ·split at h
   ·rename_i cs hcs
    obtain ⟨cs', e⟩ := hag t ht cs hcs
    rw [e]; trivial
   ·exact h.elim
  ·rw [hs1 t ht]; exact h
 have hbok : ∀ p, boxOk σ p → boxOk σ' p := fun p h => by
  unfold boxOk at *
  split at h
  ·exact hbox _ h
  ·trivial
 have hwf1 : ∀ l p, wf1 σ l p → wf1 σ' l p := fun l p h => by
  unfold wf1 at *
  split at h
  ·exact hbox _ h
  ·exact allP_mono htok _ h
  ·exact allP_mono hbok _ h
  ·exact h
  ·cases hq : Nat.beq (l % 3) 1
   ·trivial
   ·rw [hq] at h; exact allP_mono htok _ h
  ·exact htok _ h
 refine ⟨hI.defers, hI.size, hI.low, hI.newF, hI.below.trans hbel, fun t => ?_, fun b t h => ?_, fun b b' t h h' => ?_, howB, fun l => ?_⟩
 ·rw [hs0]
  exact (hI.tms t).map (wfT_slot (hI.wf (3 * t))) hrep (fun p v _ h => hown p v h) hv
 ·by_cases ht : Tk t
  ·exact hobj b t ht h
  ·have hb := hback b t ht h
   have hc : ∀ k, Tk k → 2 * t ≠ 2 * k := fun k hk e => ht ((show k = t by omega) ▸ hk)
   exact (hI.boxes b t hb).map (hs1 t ht) (hcode b _ _ hb hc).2 hrep (fun cs p v _ _ h => hown p v h) (fun g q hg => hcode g _ _ hg hc)
 ·by_cases ht : Tk t
  ·exact huniq b b' t ht h h'
  ·exact hI.uniq b b' t (hback b t ht h) (hback b' t ht h')
 ·rcases (show l = 3 * (l / 3) ∨ l = 3 * (l / 3) + 1 ∨ l = 3 * (l / 3) + 2 by omega) with e | e | e
  ·rw [e, hs0]; exact hwf1 _ _ (hI.wf _)
  ·by_cases ht : Tk (l / 3)
   ·rw [e]; exact hwf _ ht
   ·rw [e, hs1 _ ht]; exact hwf1 _ _ (hI.wf _)
  ·rw [e, hs2]; exact hwf1 _ _ (hI.wf _)
theorem InvO.lowW (hI : InvO F0 B nt w0 ow σ a w) : B ≤ w.heap.size := Nat.le_trans hI.low hI.below.size
theorem InvO.ext (hI : InvO F0 B nt w0 ow σ a w) (he : Ext w w') : InvO F0 B nt w0 ow σ a w' := by
 refine hI.objs (fun _ => False) (.of (he.below hI.lowW)) (fun _ => rfl) (fun _ => rfl) (fun _ _ => rfl) (fun _ h => h.elim) (fun _ h => h.elim) (fun _ h => h.elim) (fun _ h => h.elim) (fun p v h => h.ext he fun _ _ => rfl)
  (fun b c l h _ => ⟨h, he.block b (hI.owB b c l h).2⟩) (fun _ _ _ h => h) (fun b c l h => ⟨(hI.owB b c l h).1, Nat.lt_of_lt_of_le (hI.owB b c l h).2 he.size⟩) (fun _ _ h => h.elim) (fun _ _ _ h => h.elim) (fun _ _ _ h => h.elim)
theorem ext_alloc (w : World) (o : Obj) : Ext w (w.alloc o) := ⟨rfl, rfl, rfl, by simp, fun k hk => heap_alloc_old w o hk⟩
theorem fresh_no {d : Nat} (hd : σ (3 * d + 1) = .any) {p : PV} (hp : p.tk = some d) (h1 : tokOk σ p) (h2 : boxOk σ p) : False := by
 cases p with
 | pt t o => cases hp; unfold boxOk at h2; simp only [hd] at h2
 | vw t vr z lo hi => cases hp; unfold tokOk at h1; simp only [hd] at h1
 | el t vr z i o => cases hp; unfold tokOk at h1; simp only [hd] at h1
 | _ => cases hp
theorem fresh_ow (hI : InvO F0 B nt w0 ow σ a w) {d : Nat} (hd : σ (3 * d + 1) = .any) (b : Nat) : ow b ≠ some (2 * d, 0) := fun h => (hI.boxes b d h).any.1 hd
theorem InvO.newObj (hI : InvO F0 B nt w0 ow σ a w) {d : Nat} (hd : σ (3 * d + 1) = .any) {P : PV} (hP : P ≠ .any) {g : Nat} (hg1 : w.heap.size ≤ g) (hg2 : g < w'.heap.size) (he : Ext w w')
 (hwf : ∀ σ', (∀ k, σ' (3 * k + 2) = σ (3 * k + 2)) → (∀ k, k ≠ d → σ' (3 * k + 1) = σ (3 * k + 1)) → σ' (3 * d + 1) = P → wf1 σ' (3 * d + 1) P)
 (hobj : ∀ (ow' : Ow) σ', (∀ b, b < w.heap.size → b ≠ g → ow' b = ow b) → ow' g = some (2 * d, 0) → (∀ k, σ' (3 * k + 2) = σ (3 * k + 2)) → σ' (3 * d + 1) = P → ObjAt F0 B ow' w' σ' d g) :
 InvO F0 B nt w0 (fun b => if b = g then some (2 * d, 0) else ow b) (ap [(3 * d + 1, P)] σ) a w' := by
 have ho : ∀ b, b < w.heap.size → (fun b => if b = g then some (2 * d, 0) else ow b) b = ow b := fun b hb => if_neg (by omega)
 have h2 : ∀ k, ap [(3 * d + 1, P)] σ (3 * k + 2) = σ (3 * k + 2) := fun k => ap1_ne _ _ (by omega)
 have h1 : ∀ k, k ≠ d → ap [(3 * d + 1, P)] σ (3 * k + 1) = σ (3 * k + 1) := fun k hk => ap1_ne _ _ (by omega)
 refine hI.objs (fun k => k = d) (.of (he.below hI.lowW)) (fun k => ap1_ne _ _ (by omega)) h2 h1 (fun k hk => ?_) (fun k hk => ?_) (fun k hk cs h => ?_) (fun k hk v' z' xs' h => Or.inl (by rw [hk]; exact hd)) (fun p v h => h.ext he ho)
  (fun b c l h _ => ⟨?_, he.block b (hI.owB b c l h).2⟩) (fun b k hk h => ?_) (fun b c l h => ?_) (fun b k hk h => ?_) (fun b b' k hk h h' => ?_) (fun p v k hk hp g1 g2 _ => ?_)
 ·subst hk; rw [ap1_self]; exact hP
 ·subst hk; rw [ap1_self]; exact hwf _ h2 h1 (ap1_self _ _ _)
 ·subst hk; rw [hd] at h; cases h
 ·exact (ho b (hI.owB b c l h).2).trans h
 ·by_cases hb : b = g
  ·simp only [if_pos hb] at h; injection h with h; injection h with h _; omega
  ·simpa only [if_neg hb] using h
 ·by_cases hb : b = g
  ·subst hb
   exact ⟨Or.inl (by have := hI.lowW; omega), hg2⟩
  ·simp only [if_neg hb] at h
   exact ⟨(hI.owB b c l h).1, Nat.lt_of_lt_of_le (hI.owB b c l h).2 he.size⟩
 ·subst hk
  by_cases hb : b = g
  ·subst hb
   exact hobj _ _ (fun b hb _ => ho b hb) (if_pos rfl) h2 (ap1_self _ _ _)
  ·simp only [if_neg hb] at h
   exact absurd h (fresh_ow hI hd b)
 ·subst hk
  have : ∀ b, (if b = g then some (2 * k, 0) else ow b) = some (2 * k, 0) → b = g := fun b h => by
   by_cases hb : b = g
   ·exact hb
   ·rw [if_neg hb] at h; exact absurd h (fresh_ow hI hd b)
  rw [this b h, this b' h']
 ·subst hk; exact (fresh_no hd hp g1 g2).elim
theorem InvO.box (hI : InvO F0 B nt w0 ow σ a w) {d : Nat} (hd : σ (3 * d + 1) = .any) (cs : List PV) (c : Array Value) (T : TypeId) (hl : cs.length = c.size)
 (hc : ∀ (j : Nat) (p : PV) (v : Value), cs[j]? = some p → c[j]? = some v → v.oneCell' = true ∧ RepC (FF F0 ow) w p v ∧ Own B ow w σ p v) (ht : allP (tokOk σ) cs) :
 InvO F0 B nt w0 (fun b => if b = w.heap.size then some (2 * d, 0) else ow b) (ap [(3 * d + 1, .ag cs)] σ) a (w.alloc (.cells c T (0, 0))) := by
 have he := ext_alloc w (.cells c T (0, 0))
 refine hI.newObj hd (fun h => by cases h) (Nat.le_refl _) (by simp) he (fun σ' h2 h1 hP => ?_) (fun ow' σ' ho hg h2 hP => ?_)
 ·simp only [wf1, mod_box, cond_true]
  refine allP_mono (fun p hp => ?_) _ ht
  unfold tokOk at *
  split at hp
  ·rw [h2]; exact hp
  ·rename_i t _ _ _ _
   by_cases htd : t = d
   ·subst htd; rw [hP]; trivial
   ·rw [h1 t htd]; exact hp
  ·rename_i t _ _ _ _
   by_cases htd : t = d
   ·subst htd; rw [hP]; trivial
   ·rw [h1 t htd]; exact hp
  ·trivial
 ·refine Or.inl ⟨cs, c, T, hP, heap_alloc_new w _, hl, fun j p v x y => ?_⟩
  obtain ⟨g1, g2, g3⟩ := hc j p v x y
  have ho' : ∀ b, b < w.heap.size → ow' b = ow b := fun b hb => ho b hb (by omega)
  exact ⟨g1, g2.ext he ho', (g3.ext he ho').congr h2⟩
theorem rep_setRow {g : Nat} {c : Array Value} (hg : ∀ l, ow g ≠ some (2 * l + 1, 0) ∧ True) (hc : ∃ c' l, ow g = some (c', l) ∧ c' % 2 = 0) : ∀ p v, RepC (FF F0 ow) w p v → RepC (FF F0 ow) (w.setRow g c) p v := fun p v h => h.mono fun b o u hcl hf => ⟨by
 have hbg : b ≠ g := fun e => by
  subst e
  obtain ⟨c', l, h1, h2⟩ := hc
  have := (hf.2 _ _ h1).1
  omega
 rw [cell_setRow_other w g c ⟨b, o, none⟩ hbg]; exact hcl, hf⟩
theorem InvO.store (hI : InvO F0 B nt w0 ow σ a w) {d g : Nat} (hg : ow g = some (2 * d, 0)) (cs : List PV) (c c0 : Array Value) (T : TypeId) (h0 : w.heap[g]? = some (.cells c0 T (0, 0))) (hl : cs.length = c.size) (hbx : ∃ cs0, σ (3 * d + 1) = .ag cs0)
 (hc : ∀ (j : Nat) (p : PV) (v : Value), cs[j]? = some p → c[j]? = some v → v.oneCell' = true ∧ RepC (FF F0 ow) w p v ∧ Own B ow w σ p v) (ht : allP (tokOk σ) cs) :
 InvO F0 B nt w0 ow (ap [(3 * d + 1, .ag cs)] σ) a (w.setRow g c) := by
 have h2 : ∀ k, ap [(3 * d + 1, PV.ag cs)] σ (3 * k + 2) = σ (3 * k + 2) := fun k => ap1_ne _ _ (by omega)
 have h1 : ∀ k, k ≠ d → ap [(3 * d + 1, PV.ag cs)] σ (3 * k + 1) = σ (3 * k + 1) := fun k hk => ap1_ne _ _ (by omega)
 have hrep := rep_setRow (F0 := F0) (w := w) (ow := ow) (g := g) (c := c) (fun l => ⟨fun e => by rw [hg] at e; injection e with e; injection e with e _; omega, trivial⟩) ⟨_, _, hg, by omega⟩
 have hgB := (hI.owB g _ _ hg).1
 refine hI.objs (fun k => k = d) ⟨rfl, rfl, rfl, by simp, fun k hk hm => setRow_other w g k c (fun e => by subst e; exact hgB.elim (fun h => by omega) (fun h => hm h))⟩ (fun k => ap1_ne _ _ (by omega)) h2 h1 (fun k hk => ?_) (fun k hk => ?_) (fun k hk cs0 h => ?_) (fun k hk v' z' xs' h => by subst hk; rw [ap1_self] at h; cases h) hrep
  (fun b c' l h hk => ⟨h, setRow_other w g b c (fun e => ?_)⟩) (fun b k hk h => h) (fun b c' l h => ⟨(hI.owB b c' l h).1, by rw [setRow_size]; exact (hI.owB b c' l h).2⟩) (fun b k hk h => ?_) (fun b b' k hk h h' => hI.uniq b b' k h h') (fun p v k hk hp h1' h2' h => ?_)
 ·subst hk; rw [ap1_self]; exact fun h => by cases h
 ·subst hk
  rw [ap1_self]
  simp only [wf1, mod_box, cond_true]
  refine allP_mono (fun p hp => ?_) _ ht
  unfold tokOk at *
  split at hp
  ·rw [h2]; exact hp
  ·rename_i t _ _ _ _
   by_cases htd : t = k
   ·subst htd; rw [ap1_self]; trivial
   ·rw [h1 t htd]; exact hp
  ·rename_i t _ _ _ _
   by_cases htd : t = k
   ·subst htd; rw [ap1_self]; trivial
   ·rw [h1 t htd]; exact hp
  ·trivial
 ·subst hk; exact ⟨cs, ap1_self _ _ _⟩
 ·subst e
  rw [hg] at h
  injection h with h
  injection h with h _
  exact hk d rfl h.symm
 ·subst hk
  obtain rfl : b = g := hI.uniq _ _ _ h hg
  refine Or.inl ⟨cs, c, T, ap1_self _ _ _, setRow_heap w b c0 c T (0, 0) h0, hl, fun j p v x y => ?_⟩
  obtain ⟨g1, g2, g3⟩ := hc j p v x y
  refine ⟨g1, hrep _ _ g2, ?_⟩
  refine Own.congr ?_ h2
  unfold Own at *
  split at g3
  ·exact g3
  ·intro z hz
   rcases g3 z hz with h | ⟨e, cells, k1, k2⟩
   ·exact Or.inl h
   ·refine Or.inr ⟨e, cells, ⟨k1.1, ?_⟩, k2⟩
    rcases k1.2 with hn | ⟨g', cap, cur, rfl, hb, hgg, rest⟩
    ·exact Or.inl hn
    ·refine Or.inr ⟨g', cap, cur, rfl, hb, ?_, rest⟩
     have hne : g' ≠ b := fun e => by
      subst e
      have := k2 g' rfl
      rw [hg] at this
      injection this with this
      injection this with this _
      omega
     rw [setRow_other w b g' c hne]; exact hgg
  ·trivial
 ·subst hk
  obtain ⟨cs0, hcs0⟩ := hbx
  cases p with
  | pt t o => cases hp; exact h
  | vw t vr z lo hi =>
   cases hp
   obtain ⟨h0, h⟩ := h
   refine ⟨h0, ?_⟩
   rcases h with ⟨a, b, c⟩ | ⟨b, N, k1, k2, k3⟩
   ·exact Or.inl ⟨a, b, fun xs hx => by rw [ap1_self] at hx; cases hx⟩
   ·exact Or.inr ⟨b, N, k1, k2, fun xs hx => by rw [ap1_self] at hx; cases hx⟩
  | el t vr z i o =>
   cases hp
   obtain ⟨b, k1, k2⟩ := h
   exact ⟨b, k1, fun xs hx => by rw [ap1_self] at hx; cases hx⟩
  | _ => cases hp
end
end Go.Ev
end
