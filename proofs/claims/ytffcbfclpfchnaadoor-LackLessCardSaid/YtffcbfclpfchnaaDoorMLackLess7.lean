/- Part 7 of this claim: several texts one behind the other: NSets, NSetsO, NSetsW, PLack. What each shows stands in its theorems; conditions: sizes of texts and lists, as the functions' definitions say. -/
import Derived.Test.YtffcbfclpfchnaaDoorMLackLess5
import Derived.Test.YtffcbfclpfchnaaDoorMLackLess4
import Derived.Test.YtffcbfclpfchnaaDoorMLackLess6
section
namespace Go.Proofs.YtffcbfclpfchnaaDoor.Q
open Go.Proofs.YtffcbfclpfchnaaDoor.QB.D
open Go Go.RowKit Go.Lib Go.Proofs.YtffcbfclpfchnaaDoorW.PrintWords Go.Proofs.YtffcbfclpfchnaaDoorW.PrintLast Go.Proofs.YtffcbfclpfchnaaDoorW.PrintMore Gw
set_option linter.unusedVariables false
set_option linter.unusedSimpArgs false
structure IsSet (l : List S31) : Prop where
  good : ∀ x ∈ l, GoodN x
  may : ∀ x ∈ l, mayN x = true
  lt : l.Pairwise (fun x y => ordN x y < 0)
theorem ordN_self {x : S31} (h : GoodN x) : ordN x x = 0 := (ordN_to.eq x x h h).2 rfl
theorem ordN_ne {x y : S31} (hx : GoodN x) (h : ordN x y < 0) : x ≠ y := fun e => by
  subst e
  rw [ordN_self hx] at h
  omega
theorem IsSet.nodup {l : List S31} (h : IsSet l) : l.Nodup := List.Pairwise.imp_of_mem (fun hx _ hxy => ordN_ne (h.good _ hx) hxy) h.lt
theorem IsSet.nil : IsSet [] := ⟨fun x h => by (cases h), fun x h => by (cases h), List.Pairwise.nil⟩
theorem IsSet.tail {x : S31} {l : List S31} (h : IsSet (x :: l)) : IsSet l := ⟨fun y hy => h.good y (List.mem_cons_of_mem _ hy), fun y hy => h.may y (List.mem_cons_of_mem _ hy), (List.pairwise_cons.1 h.lt).2⟩
/-- Two sets with the same nodes are the same list. -/
theorem IsSet.ext : ∀ {l m : List S31}, IsSet l → IsSet m → (∀ x, x ∈ l ↔ x ∈ m) → l = m
  | [], [], _, _, _ => rfl
  | [], y :: m, _, _, h => absurd ((h y).2 List.mem_cons_self) (by simp)
  | x :: l, [], _, _, h => absurd ((h x).1 List.mem_cons_self) (by simp)
  | x :: l, y :: m, hl, hm, h => by
    have gx := hl.good x List.mem_cons_self
    have gy := hm.good y List.mem_cons_self
    have e : x = y := by
      rcases List.mem_cons.1 ((h x).1 List.mem_cons_self) with e | e
      · exact e
      · rcases List.mem_cons.1 ((h y).2 List.mem_cons_self) with e2 | e2
        · exact e2.symm
        · have h1 := (List.pairwise_cons.1 hm.lt).1 x e
          have h2 := (List.pairwise_cons.1 hl.lt).1 y e2
          have := ordN_to.sym x y gx gy
          omega
    subst e
    have hx1 : x ∉ l := (List.nodup_cons.1 hl.nodup).1
    have hx2 : x ∉ m := (List.nodup_cons.1 hm.nodup).1
    rw [IsSet.ext hl.tail hm.tail (fun z => ⟨fun hz => by
      rcases List.mem_cons.1 ((h z).1 (List.mem_cons_of_mem _ hz)) with e | e
      · subst e; exact absurd hz hx1
      · exact e, fun hz => by
      rcases List.mem_cons.1 ((h z).2 (List.mem_cons_of_mem _ hz)) with e | e
      · subst e; exact absurd hz hx2
      · exact e⟩)]
theorem IsSet.filter {l : List S31} (h : IsSet l) (p : S31 → Bool) : IsSet (l.filter p) :=
  ⟨fun x hx => h.good x (List.mem_filter.1 hx).1, fun x hx => h.may x (List.mem_filter.1 hx).1, h.lt.filter p⟩
theorem chk_of : ∀ (l : List S31) (p : Option S31), (∀ x ∈ l, mayN x = true) → l.Pairwise (fun x y => ordN x y < 0) → (∀ q, p = some q → ∀ x ∈ l, ordN q x < 0) → chk p l = true
  | [], p, _, _, _ => by cases p <;> rfl
  | x :: r, p, hm, hs, hp => by
    rw [List.pairwise_cons] at hs
    simp only [chk, Bool.and_eq_true]
    refine ⟨⟨hm x List.mem_cons_self, ?_⟩, chk_of r (some x) (fun y hy => hm y (List.mem_cons_of_mem _ hy)) hs.2 (fun q e y hy => by injection e with e; rw [← e]; exact hs.1 y hy)⟩
    cases p with
    | none => rfl
    | some q => exact decide_eq_true (hp q rfl x List.mem_cons_self)
theorem check_set {l : List S31} (ht : ∀ x ∈ l, TinyN x) : checkN l = true ↔ IsSet l :=
  ⟨fun h => ⟨(check_good ht h).1, fun x hx => List.all_eq_true.1 (chk_facts l _ h) x hx, (check_good ht h).2⟩, fun h => chk_of l none h.may h.lt (fun q e => by cases e)⟩
theorem IsSet.check {l : List S31} (h : IsSet l) : checkN l = true := chk_of l none h.may h.lt (fun q e => by cases e)
theorem mem_ded (l : List S31) (x : S31) : x ∈ ded l ↔ x ∈ l := by
  have h := ded_mem l x l.length (Nat.le_refl _)
  rwa [List.take_length] at h
theorem mem_setN (l : List S31) (x : S31) : x ∈ setN l ↔ x ∈ l := (sortN_perm _).mem_iff.trans (mem_ded l x)
theorem ded_nodup : ∀ (l : List S31), (ded l).Nodup := by
  intro l
  have h : ∀ (l acc : List S31), acc.Nodup → (l.foldl (fun acc x => if x ∈ acc then acc else acc ++ [x]) acc).Nodup := by
    intro l
    induction l with
    | nil => intro acc h; exact h
    | cons x r ih =>
      intro acc h
      rw [List.foldl_cons]
      refine ih _ ?_
      split
      · exact h
      · rename_i hx
        refine List.nodup_append.2 ⟨h, List.nodup_cons.2 ⟨by simp, List.nodup_nil⟩, fun a ha b hb => ?_⟩
        simp at hb
        subst hb
        intro e
        subst e
        exact hx ha
  exact h l [] List.nodup_nil
theorem setN_set {l : List S31} (ht : ∀ x ∈ l, TinyN x) (hm : ∀ x ∈ l, mayN x = true) : IsSet (setN l) := by
  have hg : ∀ x ∈ setN l, GoodN x := fun x hx => mayN_good (ht x ((mem_setN l x).1 hx)) (hm x ((mem_setN l x).1 hx))
  refine ⟨hg, fun x hx => hm x ((mem_setN l x).1 hx), ?_⟩
  have hnd : (setN l).Nodup := (sortN_perm _).nodup_iff.2 (ded_nodup l)
  have hs := sortN_sorted (ded l) (fun y hy => mayN_good (ht y ((mem_ded l y).1 hy)) (hm y ((mem_ded l y).1 hy)))
  refine List.Pairwise.imp_of_mem (fun hx hy h => ?_) (List.Pairwise.and hs hnd)
  have := ordN_to.eq _ _ (hg _ hx) (hg _ hy)
  rcases Int.lt_or_eq_of_le h.1 with h1 | h1
  · exact h1
  · exact absurd (this.1 h1) h.2
theorem split_ahead (t : S31) (gt : GoodN t) : ∀ (l : List S31), (∀ x ∈ l, GoodN x) → l.Pairwise (fun x y => ordN x y < 0) →
    l.take (ahead l t) = l.filter (fun x => decide (ordN x t < 0)) ∧ l.drop (ahead l t) = l.filter (fun x => !decide (ordN x t < 0))
  | [], _, _ => ⟨by simp, by simp⟩
  | x :: r, hg, hs => by
    rw [List.pairwise_cons] at hs
    have ih := split_ahead t gt r (fun y hy => hg y (List.mem_cons_of_mem _ hy)) hs.2
    by_cases h : ordN x t < 0
    · have e : ahead (x :: r) t = ahead r t + 1 := by unfold ahead; rw [List.filter_cons_of_pos (by simp [h])]; rfl
      rw [e, List.take_succ_cons, List.drop_succ_cons, ih.1, ih.2, List.filter_cons_of_pos (by simp [h]), List.filter_cons_of_neg (by simp [h])]
      exact ⟨rfl, rfl⟩
    · have hn : ∀ y ∈ r, ¬ ordN y t < 0 := fun y hy h2 => h (ordN_to.tr x y t (hg x List.mem_cons_self) (hg y (List.mem_cons_of_mem _ hy)) gt (hs.1 y hy) h2)
      have f0 : (x :: r).filter (fun x => decide (ordN x t < 0)) = [] := by
        rw [List.filter_eq_nil_iff]
        intro y hy
        rcases List.mem_cons.1 hy with rfl | hy
        · simp only [decide_eq_true_eq]; exact h
        · simp only [decide_eq_true_eq]; exact hn y hy
      have e : ahead (x :: r) t = 0 := by unfold ahead; rw [f0]; rfl
      rw [e, f0]
      refine ⟨rfl, ?_⟩
      rw [List.drop_zero]
      refine (List.filter_eq_self.2 fun y hy => ?_).symm
      rcases List.mem_cons.1 hy with rfl | hy
      · simp [h]
      · simp [hn y hy]
/-- The reference's set with a node. -/
def rwithN (l : List S31) (t : S31) : List S31 := l.filter (fun x => decide (ordN x t < 0)) ++ [t] ++ l.filter (fun x => decide (ordN t x < 0))
theorem mem_rwithN {l : List S31} {t : S31} (hg : ∀ x ∈ l, GoodN x) (gt : GoodN t) (x : S31) : x ∈ rwithN l t ↔ x ∈ l ∨ x = t := by
  unfold rwithN
  simp only [List.mem_append, List.mem_filter, List.mem_singleton, decide_eq_true_eq]
  constructor
  · rintro ((h | h) | h)
    · exact Or.inl h.1
    · exact Or.inr h
    · exact Or.inl h.1
  · rintro (h | h)
    · have h1 := ordN_to.sym x t (hg x h) gt
      have h2 := ordN_to.eq x t (hg x h) gt
      rcases ordN_to.tri x t with e | e | e
      · exact Or.inl (Or.inl ⟨h, by omega⟩)
      · exact Or.inl (Or.inr (h2.1 e))
      · exact Or.inr ⟨h, by omega⟩
    · exact Or.inl (Or.inr h)
theorem rwithN_set {l : List S31} {t : S31} (h : IsSet l) (gt : GoodN t) (mt : mayN t = true) : IsSet (rwithN l t) := by
  refine ⟨fun x hx => ?_, fun x hx => ?_, ?_⟩
  · rcases (mem_rwithN h.good gt x).1 hx with e | e
    · exact h.good x e
    · subst e; exact gt
  · rcases (mem_rwithN h.good gt x).1 hx with e | e
    · exact h.may x e
    · subst e; exact mt
  · unfold rwithN
    rw [List.pairwise_append, List.pairwise_append]
    refine ⟨⟨h.lt.filter _, List.pairwise_singleton _ _, fun a ha b hb => ?_⟩, h.lt.filter _, fun a ha b hb => ?_⟩
    · simp only [List.mem_singleton] at hb
      subst hb
      exact of_decide_eq_true (List.mem_filter.1 ha).2
    · have hb1 := List.mem_filter.1 hb
      have hb2 : ordN t b < 0 := of_decide_eq_true hb1.2
      rcases List.mem_append.1 ha with ha | ha
      · have ha1 := List.mem_filter.1 ha
        exact ordN_to.tr a t b (h.good a ha1.1) gt (h.good b hb1.1) (of_decide_eq_true ha1.2) hb2
      · simp only [List.mem_singleton] at ha
        subst ha
        exact hb2
/-- The reference's set of a list. -/
def rsetN (l : List S31) : List S31 := l.foldl rwithN []
theorem rsetN_facts (l : List S31) (ht : ∀ x ∈ l, TinyN x) (hm : ∀ x ∈ l, mayN x = true) : ∀ (acc : List S31), IsSet acc → IsSet (l.foldl rwithN acc) ∧ ∀ x, x ∈ l.foldl rwithN acc ↔ x ∈ acc ∨ x ∈ l := by
  induction l with
  | nil => intro acc h; exact ⟨h, fun x => by simp⟩
  | cons y r ih =>
    intro acc h
    have my := hm y List.mem_cons_self
    have gy := mayN_good (ht y List.mem_cons_self) my
    rw [List.foldl_cons]
    have h2 := ih (fun x hx => ht x (List.mem_cons_of_mem _ hx)) (fun x hx => hm x (List.mem_cons_of_mem _ hx)) _ (rwithN_set h gy my)
    refine ⟨h2.1, fun x => (h2.2 x).trans ?_⟩
    rw [mem_rwithN h.good gy, List.mem_cons, or_assoc]
theorem setN_ref {l : List S31} (ht : ∀ x ∈ l, TinyN x) (hm : ∀ x ∈ l, mayN x = true) : setN l = rsetN l := by
  have h2 := rsetN_facts l ht hm [] IsSet.nil
  exact (setN_set ht hm).ext h2.1 (fun x => (mem_setN l x).trans (by rw [show rsetN l = l.foldl rwithN [] from rfl, h2.2 x]; simp))
theorem at_ahead {l : List S31} {t : S31} (h : IsSet l) (gt : GoodN t) (hm : t ∈ l) (hl : ahead l t < l.length) : l[ahead l t] = t := by
  have hs := split_ahead t gt l h.good h.lt
  have hd := List.drop_eq_getElem_cons hl
  have hin : t ∈ l.drop (ahead l t) := by
    rw [hs.2, List.mem_filter]
    exact ⟨hm, by rw [ordN_self gt]; rfl⟩
  have hh : l[ahead l t] ∈ l.filter (fun x => !decide (ordN x t < 0)) := by rw [← hs.2, hd]; exact List.mem_cons_self
  have h1 := (List.mem_filter.1 hh).2
  have h1' : ¬ ordN l[ahead l t] t < 0 := fun e => by rw [decide_eq_true e] at h1; cases h1
  rw [hd] at hin
  rcases List.mem_cons.1 hin with e | e
  · exact e.symm
  · have hp := h.lt.sublist (List.drop_sublist (ahead l t) l)
    rw [hd, List.pairwise_cons] at hp
    exact absurd (hp.1 t e) h1'
theorem woutN_eq {l : List S31} {t : S31} (h : IsSet l) (gt : GoodN t) : woutN l t = l.filter (fun x => !decide (x ∈ [t])) := by
  unfold woutN
  split
  · rename_i hm
    have hl := ahead_lt hm gt
    have ha := at_ahead h gt hm hl
    have e : l = l.take (ahead l t) ++ t :: l.drop (ahead l t + 1) := by
      conv => lhs; rw [← List.take_append_drop (ahead l t) l, List.drop_eq_getElem_cons hl, ha]
    have hnd := h.nodup
    rw [e] at hnd
    have hnd2 := List.nodup_append.1 hnd
    have n1 : ∀ x ∈ l.take (ahead l t), x ≠ t := fun x hx => hnd2.2.2 x hx t List.mem_cons_self
    have n2 : t ∉ l.drop (ahead l t + 1) := (List.nodup_cons.1 hnd2.2.1).1
    conv => rhs; rw [e]
    rw [List.filter_append, List.filter_cons_of_neg (by simp), List.filter_eq_self.2 (fun x hx => by simp [n1 x hx]), List.filter_eq_self.2 (fun x hx => by
      have : x ≠ t := fun e2 => by subst e2; exact n2 hx
      simp [this])]
  · rename_i hm
    refine (List.filter_eq_self.2 fun x hx => ?_).symm
    have : x ≠ t := fun e2 => by subst e2; exact hm hx
    simp [this]
theorem woutN_set {l : List S31} {t : S31} (h : IsSet l) (gt : GoodN t) : IsSet (woutN l t) := by rw [woutN_eq h gt]; exact h.filter _
theorem mem_woutN {l : List S31} {t : S31} (h : IsSet l) (gt : GoodN t) (x : S31) : x ∈ woutN l t ↔ x ∈ l ∧ x ≠ t := by
  rw [woutN_eq h gt, List.mem_filter]
  simp
theorem withN_ref {l : List S31} {t : S31} (h : IsSet l) (gt : GoodN t) (mt : mayN t = true) : withN l t = rwithN l t := by
  unfold withN
  split
  · rename_i hm
    exact h.ext (rwithN_set h gt mt) (fun x => by
      rw [mem_rwithN h.good gt]
      exact ⟨Or.inl, fun e => e.elim id (fun e => by rw [e]; exact hm)⟩)
  · rename_i hm
    have hs := split_ahead t gt l h.good h.lt
    rw [hs.1, hs.2]
    unfold rwithN
    congr 1
    refine List.filter_congr fun x hx => ?_
    have h1 := ordN_to.sym x t (h.good x hx) gt
    have h2 := ordN_to.eq x t (h.good x hx) gt
    have h3 : x ≠ t := fun e => hm (by rw [← e]; exact hx)
    rcases ordN_to.tri x t with e | e | e
    · rw [decide_eq_true (by omega : ordN x t < 0), decide_eq_false (by omega : ¬ ordN t x < 0)]; rfl
    · exact absurd (h2.1 e) h3
    · rw [decide_eq_false (by omega : ¬ ordN x t < 0), decide_eq_true (by omega : ordN t x < 0)]; rfl
theorem withN_set {l : List S31} {t : S31} (h : IsSet l) (gt : GoodN t) (mt : mayN t = true) : IsSet (withN l t) := by
  rw [withN_ref h gt mt]; exact rwithN_set h gt mt
theorem mem_withN {l : List S31} {t : S31} (h : IsSet l) (gt : GoodN t) (mt : mayN t = true) (x : S31) : x ∈ withN l t ↔ x ∈ l ∨ x = t := by
  rw [withN_ref h gt mt]; exact mem_rwithN h.good gt x
theorem mem_byF {l : List S33} {n x : S31} : x ∈ byF l n ↔ x ≠ z31 ∧ ⟨x, n⟩ ∈ l := (mem_setN _ _).trans mem_need
theorem byF_set {l : List S33} (n : S31) (hb : ∀ e ∈ l, Brief e.f0 ∧ Brief e.f1) (hok : okE l = true) : IsSet (byF l n) := setN_set (fun x hx => (hb _ (mem_need.1 hx).2).1.tiny) (fun x hx => need_may hok hx)
theorem byF_same {l m : List S33} (n : S31) (h : ∀ e, e ∈ l ↔ e ∈ m) (hb : ∀ e ∈ l, Brief e.f0 ∧ Brief e.f1) (hok : okE l = true) : byF l n = byF m n :=
  (byF_set n hb hok).ext (byF_set n (fun e he => hb e ((h e).2 he)) (by rw [← okE_same h]; exact hok)) (fun x => by rw [mem_byF, mem_byF, h])
theorem rootF_same {l m : List S33} (n : S31) (h : ∀ e, e ∈ l ↔ e ∈ m) : rootF l n = rootF m n := by rw [Bool.eq_iff_iff, mem_root, mem_root, h]
theorem ofF_same (live keys : List S31) {l m : List S33} (h : ∀ e, e ∈ l ↔ e ∈ m) (hb : ∀ e ∈ l, Brief e.f0 ∧ Brief e.f1) (hok : okE l = true) : ofF live keys l = ofF live keys m := by
  unfold ofF
  refine List.map_congr_left fun n _ => ?_
  unfold lackOf
  rw [byF_same n h hb hok, rootF_same n h]
theorem byF_root (l : List S33) (n n0 : S31) : byF (l ++ [⟨z31, n0⟩]) n = byF l n := by
  unfold byF needF
  rw [List.filter_append, List.filter_cons_of_neg (by simp), List.filter_nil, List.append_nil]
theorem rootF_root (l : List S33) (n n0 : S31) : rootF (l ++ [⟨z31, n0⟩]) n = (rootF l n || decide (n0 = n)) := by
  unfold rootF
  rw [List.any_append]
  simp
theorem lackOf_root (live : List S31) (l : List S33) (n : S31) : lackOf live (l ++ [⟨z31, n⟩]) n = ⟨n, (lackOf live l n).f1, true⟩ := by
  unfold lackOf
  rw [byF_root, rootF_root, decide_eq_true rfl, Bool.or_true]
theorem lackOf_other (live : List S31) (l : List S33) (n n0 : S31) (h : n0 ≠ n) : lackOf live (l ++ [⟨z31, n0⟩]) n = lackOf live l n := by
  unfold lackOf
  rw [byF_root, rootF_root, decide_eq_false h, Bool.or_false]
theorem okE_root (l : List S33) (n : S31) (hok : okE l = true) (hn : mayN n = true) : okE (l ++ [⟨z31, n⟩]) = true := by
  rw [okE_iff] at hok ⊢
  intro e he
  rcases List.mem_append.1 he with h | h
  · exact hok e h
  · rw [List.mem_singleton] at h
    subst h
    unfold badE
    simp [hn]
theorem goneF_set {live : List S31} (keys : List S31) (h : IsSet live) : IsSet (goneF live keys) := h.filter _
theorem mem_goneF {live keys : List S31} {x : S31} : x ∈ goneF live keys ↔ x ∈ live ∧ x ∉ keys := by
  unfold goneF
  rw [List.mem_filter]
  simp
theorem goneF_nil (live : List S31) : goneF live [] = live := List.filter_eq_self.2 fun x _ => by simp
theorem goneF_self (live : List S31) : goneF live live = [] := List.filter_eq_nil_iff.2 fun x hx => by simp [hx]
theorem goneF_len (live keys : List S31) : (goneF live keys).length ≤ live.length := List.length_filter_le _ _
theorem ofF_len (live keys : List S31) (l : List S33) : (ofF live keys l).length = (goneF live keys).length := List.length_map _
theorem lackBy_len (live : List S31) (l : List S33) (n : S31) : (lackOf live l n).f1.length ≤ l.length := Nat.le_trans (List.length_filter_le _ _) (by_len l n)
theorem ofF_by (live keys : List S31) (l : List S33) : ∀ x ∈ ofF live keys l, x.f1.length ≤ l.length := fun x hx => by
  obtain ⟨n, _, rfl⟩ := List.mem_map.1 hx
  exact lackBy_len live l n
/-- What lack.Of yields of brief lists. -/
theorem lackOf_val (live keys : List S31) (l : List S33) (h0 : live.length ≤ 65536) (h1 : keys.length ≤ 65536) (h2 : l.length ≤ 65536) (b0 : ∀ x ∈ live, Brief x) (b1 : ∀ x ∈ keys, Brief x) (b2 : ∀ e ∈ l, Brief e.f0 ∧ Brief e.f1) :
    lack_Of.f live keys l = some (if checkN live = true ∧ checkN keys = true ∧ okE l = true then (ofF live keys l, 0) else ([], 1)) := if_pos ⟨h0, h1, h2, b0, b1, b2⟩
theorem missing_val (live keys : List S31) (h0 : live.length ≤ 65536) (h1 : keys.length ≤ 65536) (b0 : ∀ x ∈ live, Brief x) (b1 : ∀ x ∈ keys, Brief x) :
    lack_Missing.f live keys = some (if checkN live = true ∧ checkN keys = true then (goneF live keys, 0) else ([], 1)) := by
  unfold lack_Missing.f node_Minus.f
  rw [if_pos ⟨by omega, by omega, fun x hx => (b0 x hx).tiny, fun x hx => (b1 x hx).tiny⟩]
  rfl
end Go.Proofs.YtffcbfclpfchnaaDoor.Q
end
