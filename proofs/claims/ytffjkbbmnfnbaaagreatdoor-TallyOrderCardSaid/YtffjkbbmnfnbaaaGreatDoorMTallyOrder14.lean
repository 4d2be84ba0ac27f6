/- Part 14 of this claim: several texts one behind the other: Fgraftwoodref05Less, Fgraftwoodref05With, Fgraftwoodref05Set, RLess5, RWith5, RSet5, EvR5, EvXc, EvXd, EvXe. What each shows stands in its theorems; conditions: sizes of texts and lists, as the functions' definitions say. -/
import Derived.Test.YtffjkbbmnfnbaaaGreatDoorMTallyOrder6
import Derived.Test.YtffjkbbmnfnbaaaGreatDoorMTallyOrder7
import Derived.Test.YtffjkbbmnfnbaaaGreatDoorMTallyOrder12
import Derived.Test.YtffjkbbmnfnbaaaGreatDoorMTallyOrder11
import Derived.Test.YtffjkbbmnfnbaaaGreatDoorMTallyOrder13
section
namespace Go.Proofs.YtffjkbbmnfnbaaaGreatDoor.Q
open Go.RowKit Go.Proofs.YtffjkbbmnfnbaaaGreatDoorW.PrintWords Go.Proofs.YtffjkbbmnfnbaaaGreatDoorW.PrintLast Go.Proofs.YtffjkbbmnfnbaaaGreatDoorW.PrintMore
attribute [local go_sem] max2_int min2_int max_two min_two max_three min_three max_four min_four   -- for this text's walks alone
set_option linter.unusedVariables false
set_option linter.unusedSimpArgs false
def graftwoodref05_Less.f (k : Nat) (a0_0 : ByteArray) (a0_1 : ByteArray) (a1_0 : ByteArray) (a1_1 : ByteArray) : Option (Bool) := (graftwoodref01_Cmp.f k a0_0 a1_0).bind fun t148 => (if t148 < 0 then (some true) else (if t148 = 0 then ((graftwoodref03_Cmp.f a0_1 a1_1).bind fun t149 => (some (decide (t149 < 0)))) else (some false)))
mutual
def graftwoodref05_With.l0 : Nat → List (S36) → List (S36) → Int → ByteArray → ByteArray → Option ((List (S36)))
 | 0, _, _, _, _, _ => none
 | k + 1, x0, x5, x6, x151000, x151001 => if x6 < (x0.length : Int) then (if 0 ≤ x6 then ((graftwoodref05_Less.f k ((rd_T36 x0 x6).f0) ((rd_T36 x0 x6).f1) x151000 x151001).bind fun t152 => (if t152 = true then (if x5.length < 4398046511104 then (graftwoodref05_With.l0 k x0 (x5 ++ [(⟨(rd_T36 x0 x6).f0, (rd_T36 x0 x6).f1⟩ : S36)]) (wrap64 (x6 + 1)) x151000 x151001) else (none)) else (graftwoodref05_With.l0 k x0 x5 (wrap64 (x6 + 1)) x151000 x151001))) else (none)) else (if x5.length < 4398046511104 then (graftwoodref05_With.l1 k x0 (x5 ++ [(⟨x151000, x151001⟩ : S36)]) 0 x151000 x151001) else (none))
def graftwoodref05_With.l1 : Nat → List (S36) → List (S36) → Int → ByteArray → ByteArray → Option ((List (S36)))
 | 0, _, _, _, _, _ => none
 | k + 1, x0, x5, x7, x151000, x151001 => if x7 < (x0.length : Int) then (if 0 ≤ x7 then ((graftwoodref05_Less.f k x151000 x151001 ((rd_T36 x0 x7).f0) ((rd_T36 x0 x7).f1)).bind fun t161 => (if t161 = true then (if x5.length < 4398046511104 then (graftwoodref05_With.l1 k x0 (x5 ++ [(⟨(rd_T36 x0 x7).f0, (rd_T36 x0 x7).f1⟩ : S36)]) (wrap64 (x7 + 1)) x151000 x151001) else (none)) else (graftwoodref05_With.l1 k x0 x5 (wrap64 (x7 + 1)) x151000 x151001))) else (none)) else (some x5)
end
end Go.Proofs.YtffjkbbmnfnbaaaGreatDoor.Q
end
section
namespace Go.Proofs.YtffjkbbmnfnbaaaGreatDoor.Q
open Go.Proofs.YtffjkbbmnfnbaaaGreatDoor.QB.D
open Go Go.RowKit Go.Lib Go.Proofs.YtffjkbbmnfnbaaaGreatDoorW.PrintWords Go.Ev Gw
set_option linter.unusedVariables false
set_option maxRecDepth 100000
structure FewRs (l : List RW) : Prop where
 n : l.length ≤ 1000
 v : ∀ r ∈ l, r.v.length ≤ 1000
 b : ∀ r ∈ l, r.p.size ≤ 400 ∧ ∀ s ∈ r.v, s.size ≤ 400
theorem FewRs.tiny {l : List RW} (h : FewRs l) : TinyRs l := fun r hr => ⟨by have := (h.b r hr).1; unfold Tiny; omega, fun s hs => by have := (h.b r hr).2 s hs; unfold Tiny; omega⟩
theorem FewRs.tinyR {l : List RW} (h : FewRs l) : TinyR l := ⟨fun r hr => (h.tiny r hr).1, fun r hr => (h.tiny r hr).2, fun r hr => Nat.le_trans (h.v r hr) (by omega)⟩
theorem all_le : ∀ {l : List RW}, (∀ r ∈ l, r.v.length ≤ 1000) → (allN l).length ≤ l.length * 1000
 | [], _ => Nat.le_refl _
 | r :: l, h => by
  have h1 := all_le (l := l) (fun x hx => h x (List.mem_cons_of_mem _ hx))
  have h2 := h r List.mem_cons_self
  rw [allN_cons, List.length_cons, Nat.add_mul]
  omega
theorem FewRs.all {l : List RW} (h : FewRs l) : (allN l).length ≤ 1000000 := by
 have h1 := all_le h.v
 have h2 := h.n
 omega
theorem fewRs_of {l : List RW} (h : GRs l) (n : (allN l).length ≤ 1000) (b : ∀ x ∈ allN l, Brief x) : FewRs l := by
 refine ⟨Nat.le_trans (rows_le fun r hr => (h.r r hr).ne) n, fun r hr => Nat.le_trans (row_le r hr) n, fun r hr => ⟨?_, fun s hs => (b ⟨r.p, s⟩ (mem_allN.2 ⟨r, hr, rfl, hs⟩)).2⟩⟩
 obtain ⟨s, hs⟩ := List.exists_mem_of_ne_nil _ (h.r r hr).ne
 exact (b ⟨r.p, s⟩ (mem_allN.2 ⟨r, hr, rfl, hs⟩)).1
theorem fewRs_rows {s : List Nd} (h : IsSet s) (n : s.length ≤ 1000) (b : ∀ x ∈ s, Brief x) : FewRs (rowsN s) := fewRs_of (rows_good h) (by rw [allN_rows]; exact n) (by rw [allN_rows]; exact b)
theorem take_rows (s : List Nd) (n : s.length ≤ 1000000) (i : Nat) : (rowsN (s.take i)).length ≤ 1000000 ∧ ∀ r ∈ rowsN (s.take i), r.v ≠ [] ∧ r.v.length ≤ 1000000 := by
 have h1 := rowsN_len (s.take i)
 have h2 : (s.take i).length ≤ s.length := by rw [List.length_take]; omega
 exact ⟨by omega, fun r hr => ⟨(rowsN_v _ r hr).1, Nat.le_trans (rowsN_v _ r hr).2 (by omega)⟩⟩
theorem tsamec {l : List RW} (m : List RW) (h : FewRs l) : PC 28 [.sl 0 2 (l.map evRw), .sl 0 2 (m.map evRw)] (.s (.bool (eqB eqR l m))) :=
 tsame_pc l m (Nat.le_trans h.n (by omega)) (fun r hr => Nat.le_trans (h.v r hr) (by omega))
theorem checkc {l : List RW} (h : FewRs l) : PC 27 [.sl 0 2 (l.map evRw)] (.s (.int .i64 (chkT l))) := check_pc l (Nat.le_trans h.n (by omega)) h.tinyR
theorem addc {l : List RW} {n : Nd} (h : FewRs l) (hn : Brief n) : PC 25 [.sl 0 2 (l.map evRw), evN n] (.tu [.sl 0 2 ((addV l n).1.map evRw), .s (.int .i64 (addV l n).2)]) := add_pc l n (Nat.le_trans h.n (by omega)) h.tinyR hn.tiny
theorem dropc {l : List RW} {n : Nd} (h : FewRs l) (hn : Brief n) : PC 26 [.sl 0 2 (l.map evRw), evN n] (.tu [.sl 0 2 ((dropV l n).1.map evRw), .s (.int .i64 (dropV l n).2)]) := drop_pc l n (Nat.le_trans h.n (by omega)) h.tinyR hn.tiny
theorem bestc {l : List RW} {p : ByteArray} (h : FewRs l) (hp : p.size ≤ 400) : PC 13 [.sl 0 2 (l.map evRw), evS p] (.tu [evS (bestV l p).1, .s (.int .i64 (bestV l p).2)]) := best_pc l p (Nat.le_trans h.n (by omega)) h.tinyR (by unfold Tiny; omega)
theorem ofc {m : List Nd} (h : m.length ≤ 1000000) (hb : ∀ x ∈ m, Brief x) (hs : (setN m).length ≤ 1000000) : PC 12 [.sl 0 2 (m.map evN)] (.tu [.sl 0 2 ((if m.all mayN then rowsN (setN m) else []).map evRw), .s (.int .i64 (if m.all mayN then 0 else 1))]) :=
 of_pc m h (fun x hx => (hb x hx).tiny) hs (fun i => (take_rows _ hs i).1) (fun i => (take_rows _ hs i).2)
theorem setN_len (m : List Nd) : (setN m).length ≤ m.length := by
 have h1 : (setN m).length = (ded m).length := (sortN_perm _).length_eq
 rw [h1]
 have h : ∀ (l acc : List Nd), (l.foldl (fun acc x => if x ∈ acc then acc else acc ++ [x]) acc).length ≤ acc.length + l.length := by
  intro l
  induction l with
  | nil => intro acc; exact Nat.le_refl _
  | cons x r ih =>
   intro acc
   rw [List.foldl_cons]
   refine Nat.le_trans (ih _) ?_
   split
   ·rw [List.length_cons]; omega
   ·rw [List.length_append, List.length_cons, List.length_cons, List.length_nil]; omega
 have := h m []
 rw [List.length_nil, Nat.zero_add] at this
 exact this
theorem sub_len : ∀ {l m : List Nd}, l.Nodup → (∀ x ∈ l, x ∈ m) → l.length ≤ m.length
 | [], m, _, _ => Nat.zero_le _
 | x :: l, m, h, hs => by
  rw [List.nodup_cons] at h
  have hx := hs x List.mem_cons_self
  have := sub_len (l := l) (m := m.erase x) h.2 fun y hy => (List.mem_erase_of_ne (fun e => h.1 (by rw [← e]; exact hy))).2 (hs y (List.mem_cons_of_mem _ hy))
  rw [List.length_erase_of_mem hx] at this
  have := List.length_pos_of_mem hx
  rw [List.length_cons]
  omega
end Go.Proofs.YtffjkbbmnfnbaaaGreatDoor.Q
end
section
namespace Go.Proofs.YtffjkbbmnfnbaaaGreatDoor.Q
open Go.Proofs.YtffjkbbmnfnbaaaGreatDoor.QB.D
open Go Go.RowKit Go.Lib Go.Proofs.YtffjkbbmnfnbaaaGreatDoorW.PrintWords Go.Ev Gw
set_option linter.unusedVariables false
theorem GRs.tiny {l : List RW} (h : GRs l) (hb : ∀ x ∈ allN l, TinyN x) : TinyRs l := fun r hr => by
 obtain ⟨s, hs⟩ := List.exists_mem_of_ne_nil _ (h.r r hr).ne
 exact ⟨(hb ⟨r.p, s⟩ (mem_allN.2 ⟨r, hr, rfl, hs⟩)).1, fun s' hs' => (hb ⟨r.p, s'⟩ (mem_allN.2 ⟨r, hr, rfl, hs'⟩)).2⟩
theorem IsSet.tinyR {s : List Nd} (h : IsSet s) : TinyRs (rowsN s) := (rows_good h).tiny (by rw [allN_rows]; exact fun x hx => ⟨(h.good x hx).1, (h.good x hx).2.1⟩)
theorem GRs.rows {l : List RW} {s : List Nd} (h : GRs l) (hs : IsSet s) (hx : ∀ x, x ∈ allN l ↔ x ∈ s) : l = rowsN s := by
 have ht : TinyRs l := h.tiny fun x hx' => by
  have := hs.good x ((hx x).1 hx')
  exact ⟨this.1, this.2.1⟩
 rw [← h.back, (h.set ht).ext hs hx]
theorem add_in {l : List RW} {n : Nd} (h : GRs l) (hm : mayN n = true) (hin : n ∈ allN l) : addV l n = (l, 3) := by
 rcases add_spec h hm with ⟨_, e⟩ | ⟨hn, _⟩
 ·exact e
 ·exact absurd hin hn
theorem add_out {l : List RW} {n : Nd} {s : List Nd} (h : GRs l) (hm : mayN n = true) (hin : n ∉ allN l) (hs : IsSet s) (hx : ∀ x, x ∈ s ↔ x ∈ allN l ∨ x = n) : addV l n = (rowsN s, 0) := by
 rcases add_spec h hm with ⟨hn, _⟩ | ⟨_, l', e, g, m⟩
 ·exact absurd hn hin
 ·rw [e, g.rows hs fun x => (m x).trans (hx x).symm]
theorem drop_out {l : List RW} {n : Nd} (h : GRs l) (hm : mayN n = true) (hin : n ∉ allN l) : dropV l n = (l, 2) := by
 rcases drop_spec h hm with ⟨_, e⟩ | ⟨hn, _⟩
 ·exact e
 ·exact absurd hn hin
theorem drop_in {l : List RW} {n : Nd} {s : List Nd} (h : GRs l) (hm : mayN n = true) (hin : n ∈ allN l) (hs : IsSet s) (hx : ∀ x, x ∈ s ↔ x ∈ allN l ∧ x ≠ n) : dropV l n = (rowsN s, 0) := by
 rcases drop_spec h hm with ⟨hn, _⟩ | ⟨_, l', e, g, m⟩
 ·exact absurd hin hn
 ·rw [e, g.rows hs fun x => (m x).trans (hx x).symm]
theorem eqR_self (l : List RW) : eqB eqR l l = true := (eqB_iff eqR_iff).2 rfl
theorem add_to {s s' : List Nd} {n : Nd} (hs : IsSet s) (hs' : IsSet s') (hm : mayN n = true) (hx : ∀ x, x ∈ s' ↔ x ∈ s ∨ x = n) : ∃ e, addV (rowsN s) n = (rowsN s', e) ∧ (e = 0 ∨ e = 3) := by
 have hg := rows_good hs
 by_cases hin : n ∈ s
 ·have : s' = s := hs'.ext hs fun x => (hx x).trans ⟨fun h => h.elim id (fun e => by rw [e]; exact hin), Or.inl⟩
  exact ⟨3, by rw [add_in hg hm (by rw [allN_rows]; exact hin), this], Or.inr rfl⟩
 ·exact ⟨0, add_out hg hm (by rw [allN_rows]; exact hin) hs' (by rw [allN_rows]; exact hx), Or.inl rfl⟩
theorem drop_to {s s' : List Nd} {n : Nd} (hs : IsSet s) (hs' : IsSet s') (hm : mayN n = true) (hx : ∀ x, x ∈ s' ↔ x ∈ s ∧ x ≠ n) : ∃ e, dropV (rowsN s) n = (rowsN s', e) ∧ (e = 0 ∨ e = 2) := by
 have hg := rows_good hs
 by_cases hin : n ∈ s
 ·exact ⟨0, drop_in hg hm (by rw [allN_rows]; exact hin) hs' (by rw [allN_rows]; exact hx), Or.inl rfl⟩
 ·have : s' = s := hs'.ext hs fun x => (hx x).trans ⟨And.left, fun h => ⟨h, fun e => hin (by rw [← e]; exact h)⟩⟩
  exact ⟨2, by rw [drop_out hg hm (by rw [allN_rows]; exact hin), this], Or.inr rfl⟩
end Go.Proofs.YtffjkbbmnfnbaaaGreatDoor.Q
end
