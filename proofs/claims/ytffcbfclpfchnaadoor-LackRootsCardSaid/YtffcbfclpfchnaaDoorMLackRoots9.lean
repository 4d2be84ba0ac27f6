/- Part 9 of this claim: several texts one behind the other: PureKRoots. What each shows stands in its theorems; conditions: sizes of texts and lists, as the functions' definitions say. -/
import Derived.Test.YtffcbfclpfchnaaDoorMLackRoots8
import Derived.Test.YtffcbfclpfchnaaDoorMLackRoots6
import Derived.Test.YtffcbfclpfchnaaDoorMLackRoots5
import Derived.Test.YtffcbfclpfchnaaDoorMLackRoots4
section
namespace Go.Proofs.YtffcbfclpfchnaaDoor.Q
open Go.Proofs.YtffcbfclpfchnaaDoor.QB.D
open Go Go.RowKit Go.Lib Go.Proofs.YtffcbfclpfchnaaDoorW.PrintWords Go.Proofs.YtffcbfclpfchnaaDoorW.PrintLast Go.Proofs.YtffcbfclpfchnaaDoorW.PrintMore Gw
set_option linter.unusedVariables false
set_option linter.unusedSimpArgs false
/-- How many needs are of a node. -/
def cntF (l : List S33) (n : S31) : Nat := (l.filter (fun e => decide (e.f1 = n))).length
theorem cntF_len (l : List S33) (n : S31) : cntF l n ≤ l.length := List.length_filter_le _ _
theorem need_cnt (l : List S33) (n : S31) : (needF l n).length ≤ cntF l n := by
  unfold needF cntF
  rw [List.length_map]
  induction l with
  | nil => exact Nat.le_refl _
  | cons x r ih =>
    simp only [List.filter_cons]
    cases h1 : decide (x.f1 = n) <;> cases h2 : decide (x.f0 = z31) <;> simp <;> omega
theorem by_cnt (live : List S31) (l : List S33) (n : S31) : (lackOf live l n).f1.length ≤ cntF l n := by
  refine Nat.le_trans (List.length_filter_le _ _) (Nat.le_trans ?_ (need_cnt l n))
  unfold byF setN
  rw [(sortN_perm _).length_eq]
  have h1 := ded_len (needF l n) (needF l n).length (Nat.le_refl _)
  rwa [List.take_length] at h1
theorem roots_l1 (a : List S31) (l : List S33) (hl : l.length ≤ 30) (o : List S37) (i : Nat) (hi : i < o.length) (x : S31) (hx : o[i].f0 = x) : ∀ (r j k : Nat), j + r = l.length →
    graftwoodlaw18_LackRoots.l1 (k + r) a l o (i : Int) (rootF (l.take j) x) (cntF (l.take j) x : Int) (j : Int) = graftwoodlaw18_LackRoots.l1 k a l o (i : Int) (rootF l x) (cntF l x : Int) (l.length : Int) := by
  intro r
  induction r with
  | zero =>
    intro j k hj
    have e : j = l.length := by omega
    subst e
    rw [List.take_length]
    rfl
  | succ r ih =>
    intro j k hj
    have hjl : j < l.length := by omega
    have hwr : wrap64 ((j : Int) + 1) = ((j + 1 : Nat) : Int) := by unfold wrap64; omega
    have hrd : rd_T37 o (i : Int) = o[i] := by simp [rd_T37, List.getD_eq_getElem?_getD, List.getElem?_eq_getElem hi]
    have hcl : cntF (l.take j) x ≤ 30 := Nat.le_trans (cntF_len _ _) (by rw [List.length_take]; omega)
    have hwc : wrap64 ((cntF (l.take j) x : Int) + 1) = ((cntF (l.take j) x + 1 : Nat) : Int) := by unfold wrap64; omega
    have h1 : rootF (l.take (j + 1)) x = (rootF (l.take j) x || (decide (l[j].f1 = x) && decide (l[j].f0 = z31))) := by
      unfold rootF
      rw [List.take_succ_eq_append_getElem hjl, List.any_append]
      simp
    have h2 : cntF (l.take (j + 1)) x = if l[j].f1 = x then cntF (l.take j) x + 1 else cntF (l.take j) x := by
      unfold cntF
      rw [List.take_succ_eq_append_getElem hjl, List.filter_append, List.length_append]
      split
      · rename_i e; rw [List.filter_cons_of_pos (by simpa using e)]; rfl
      · rename_i e; rw [List.filter_cons_of_neg (by simpa using e)]; rfl
    have h9 := ih (j + 1) k (by omega)
    rw [h1, h2] at h9
    rw [← h9, show k + (r + 1) = (k + r) + 1 by omega]
    conv => lhs; unfold graftwoodlaw18_LackRoots.l1
    rw [if_pos (by omega), if_pos (by omega), if_pos (by omega), if_pos (by omega), hrd, rd_needs hjl, hx, node_eqb, node_eqr, hwr, hwc]
    by_cases e1 : l[j].f1 = x
    · rw [decide_eq_true e1, if_pos rfl, if_pos e1]
      cases rootF (l.take j) x with
      | true => rw [if_pos rfl]; simp
      | false => rw [if_neg (by decide)]; simp
    · rw [decide_eq_false e1, if_neg (by decide), if_neg e1]
      simp
theorem roots_l2 (a : List S31) (l : List S33) (ha : a.length ≤ 24) (o : List S37) (i : Nat) (hi : i < o.length) (ho : o.length ≤ 24) (hin : ∀ x ∈ o[i].f1, x ∈ a) (hbl : o[i].f1.length ≤ 30) : ∀ (r j k : Nat), j + r = o[i].f1.length →
    graftwoodlaw18_LackRoots.l2 (k + 30 + r + 1) a l o (i : Int) (j : Int) = graftwoodlaw18_LackRoots.l0 (k + 30) a l o ((i + 1 : Nat) : Int) := by
  have hrd : rd_T37 o (i : Int) = o[i] := by simp [rd_T37, List.getD_eq_getElem?_getD, List.getElem?_eq_getElem hi]
  have hwi : wrap64 ((i : Int) + 1) = ((i + 1 : Nat) : Int) := by unfold wrap64; omega
  intro r
  induction r with
  | zero =>
    intro j k hj
    conv => lhs; unfold graftwoodlaw18_LackRoots.l2
    rw [if_pos (by omega), if_pos (by omega), hrd, if_neg (by omega), hwi]
  | succ r ih =>
    intro j k hj
    have hjl : j < o[i].f1.length := by omega
    have hwr : wrap64 ((j : Int) + 1) = ((j + 1 : Nat) : Int) := by unfold wrap64; omega
    have h1 := has_val a o[i].f1[j] (by omega) (k + 30 + r + 1) (by omega)
    rw [decide_eq_true (hin _ (List.getElem_mem hjl))] at h1
    rw [show k + 30 + (r + 1) + 1 = (k + 30 + r + 1) + 1 by omega]
    conv => lhs; unfold graftwoodlaw18_LackRoots.l2
    rw [if_pos (by omega), if_pos (by omega), hrd, if_pos (by omega), if_pos (by omega), rd_nat hjl, h1]
    simp only [Option.bind_some]
    rw [if_pos trivial, hwr]
    exact ih (j + 1) k (by omega)
theorem roots_l0 (a : List S31) (l : List S33) (ha : a.length ≤ 24) (hl : l.length ≤ 30) : ∀ (r i k : Nat), i + r = a.length → r * 100 + 100 ≤ k → graftwoodlaw18_LackRoots.l0 k a l (ofF a [] l) (i : Int) = some true := by
  have hol : (ofF a [] l).length = a.length := by rw [ofF_len, goneF_nil]
  intro r
  induction r with
  | zero =>
    intro i k hi hk
    obtain ⟨j, rfl⟩ : ∃ j, k = j + 1 := ⟨k - 1, by omega⟩
    simp only [graftwoodlaw18_LackRoots.l0]
    rw [if_neg (by omega), awake18_val]
    rfl
  | succ r ih =>
    intro i k hi hk
    have hil : i < a.length := by omega
    have hio : i < (ofF a [] l).length := by omega
    have hget : (ofF a [] l)[i] = lackOf a l a[i] := by
      have h : ofF a [] l = a.map (lackOf a l) := by unfold ofF; rw [goneF_nil]
      simp only [h, List.getElem_map]
    have hrd : rd_T37 (ofF a [] l) (i : Int) = lackOf a l a[i] := by
      rw [← hget]
      simp [rd_T37, List.getD_eq_getElem?_getD, List.getElem?_eq_getElem hio]
    have hbl := lackBy_len a l a[i]
    have hcl := by_cnt a l a[i]
    have hin : ∀ x ∈ (lackOf a l a[i]).f1, x ∈ a := fun x hx => by
      have h := (List.mem_filter.1 hx).2
      simpa using h
    obtain ⟨j, rfl⟩ : ∃ j, k = ((((j + 30 + (lackOf a l a[i]).f1.length + 1) + 1) + 1) + l.length) + 1 := ⟨k - 34 - (lackOf a l a[i]).f1.length - l.length, by omega⟩
    have h1 := roots_l1 a l hl (ofF a [] l) i hio a[i] (by rw [hget]; rfl) l.length 0 (((j + 30 + (lackOf a l a[i]).f1.length + 1) + 1) + 1) (by omega)
    have h2 := roots_l2 a l ha (ofF a [] l) i hio (by omega) (by rw [hget]; exact hin) (by rw [hget]; omega) (lackOf a l a[i]).f1.length 0 j (by rw [hget]; omega)
    conv => lhs; unfold graftwoodlaw18_LackRoots.l0
    rw [if_pos (by omega)]
    refine Eq.trans h1 ?_
    conv => lhs; unfold graftwoodlaw18_LackRoots.l1
    rw [if_neg (by omega), if_pos (by omega), if_pos (by omega), if_pos (by omega), hrd, rd_nat hil]
    rw [show (lackOf a l a[i]).f0 = a[i] from rfl, show (lackOf a l a[i]).f2 = rootF l a[i] from rfl]
    rw [if_neg (by simp), if_neg (by simp), decide_eq_false (by omega)]
    conv => lhs; unfold graftwoodlaw18_LackRoots.j2
    rw [if_neg (by decide)]
    refine Eq.trans h2 ?_
    exact ih (i + 1) (j + 30) (by omega) (by omega)
theorem lackRoots_true (live : List S31) (l : List S33) : graftwoodlaw18_LackRoots.f 4000 live l = some true := by
  unfold graftwoodlaw18_LackRoots.f
  rw [fewN_val live _ (by omega), fewE_val l _ (by omega)]
  simp only [Option.bind_some]
  have ha := fewN_len live
  have hl := fewE_len l
  have fa := fewN_brief live
  have fl := fewE_brief l
  generalize fewN live = a at *
  generalize fewE l = m at *
  rw [lackOf_val a [] m (by omega) (by simp) (by omega) fa (fun x hx => by cases hx) fl]
  simp only [Option.bind_some]
  by_cases hc : checkN a = true ∧ checkN [] = true ∧ okE m = true
  · rw [if_pos hc, if_pos rfl, if_pos (by rw [ofF_len, goneF_nil])]
    exact roots_l0 a m ha hl a.length 0 4000 (by omega) (by omega)
  · rw [if_neg hc]
    simp only []
    rw [if_neg (by decide), if_pos (by rfl), awake18_val]
    rfl
end Go.Proofs.YtffcbfclpfchnaaDoor.Q
end
