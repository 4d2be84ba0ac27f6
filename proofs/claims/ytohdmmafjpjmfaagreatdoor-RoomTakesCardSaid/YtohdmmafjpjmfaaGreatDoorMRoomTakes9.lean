/- Part 9 of this claim: several texts one behind the other: NDef, LOne, LRd, LFew, NMayV, NOrd, PSet, NAhead, NSets, NKey, NCnt, Sort, NSort, NSortD, EChk, NCells, Lit, Step, NIter. What each shows stands in its theorems; conditions: sizes of texts and lists, as the functions' definitions say. -/
import Derived.Test.YtohdmmafjpjmfaaGreatDoorMRoomTakes8
import Derived.Test.YtohdmmafjpjmfaaGreatDoorMRoomTakes2
import Derived.Test.YtohdmmafjpjmfaaGreatDoorMRoomTakes3
import Derived.RegionTactic
import Derived.BigRegion
import Derived.Deep.QuietTactic
import Derived.BigQuiet
import Derived.Deep.RegionHeld3
import Derived.ChangeAlike
import Derived.Maps.OwnSet
import Derived.Maps.AppendAt
import Derived.DeepKeys4
import Derived.Maps.OwnOps
import Derived.Maps.Range
import Derived.Sort.KeysCollected
import Derived.Shelf.SlSortCmp.NoneTotal
import Derived.Ground.SlsfProg
import Derived.Test.YtohdmmafjpjmfaaGreatDoorProg
import Derived.RangeFuncNested
import Derived.RangeFuncBound
import Derived.RangeFuncCalls
import Derived.RangeFuncLeaves
import Derived.RangeFuncSeq
import Derived.RangeFuncGives
import Derived.RangeFuncIn
import Derived.RangeFuncRecord
import Derived.Sort.MapsRangeIn
import Derived.Shelf.Abstract
import Derived.WalkKit
import Derived.OwnWalkIn
import Derived.TacticsInMore
import Derived.RegionIn
import Derived.LoopNIn
import Derived.LoopIn
section
namespace Go.Proofs.YtohdmmafjpjmfaaGreatDoor.Q
open Go.Proofs.YtohdmmafjpjmfaaGreatDoor.QB.D
open Go Go.RowKit Go.Lib Go.Proofs.YtohdmmafjpjmfaaGreatDoorW.PrintWords Go.Proofs.YtohdmmafjpjmfaaGreatDoorW.PrintLast Go.Proofs.YtohdmmafjpjmfaaGreatDoorW.PrintMore Gw
set_option linter.unusedVariables false
set_option linter.unusedSimpArgs false
abbrev GoodN (x : S34) : Prop := Tiny x.f0 ∧ Tiny x.f1 ∧ isVersion (bs x.f1) = true
def np (x : S34) : NP := (bs x.f0, bs x.f1)
theorem np_inj {x y : S34} (h : np x = np y) : x = y := by
  cases x; cases y
  simp only [np, Prod.mk.injEq] at h
  rw [bs_inj h.1, bs_inj h.2]
def ordN (x y : S34) : Int := nodC (np x) (np y)
theorem ordN_to : TO GoodN ordN := by
  have h := nodC_to
  refine ⟨fun a b => h.tri _ _, fun a b ha hb => h.sym _ _ ha.2.2 hb.2.2, fun a b ha hb => ?_, fun a b d ha hb hd => h.tr _ _ _ ha.2.2 hb.2.2 hd.2.2⟩
  show nodC _ _ = 0 ↔ _
  rw [h.eq _ _ ha.2.2 hb.2.2]
  exact ⟨np_inj, fun e => by rw [e]⟩
theorem vparts_of {s : ByteArray} (h : isVersion (bs s) = true) : vparts (bs s) = some (vOf (bs s)) := by
  rw [← vparts_some] at h
  obtain ⟨v, hv⟩ := Option.isSome_iff_exists.1 h
  unfold vOf
  rw [hv]
  rfl
instance : DecidableEq S34 := fun a b => if h : a.f0 = b.f0 ∧ a.f1 = b.f1 then isTrue (by cases a; cases b; simp at h; rw [h.1, h.2]) else isFalse (fun e => h (by subst e; exact ⟨rfl, rfl⟩))
abbrev TinyN (x : S34) : Prop := Tiny x.f0 ∧ Tiny x.f1
def mayN (x : S34) : Bool := isNode (np x)
theorem mayN_good {x : S34} (hx : TinyN x) (hm : mayN x = true) : GoodN x := by
  unfold mayN isNode np at hm
  rw [Bool.and_eq_true] at hm
  exact ⟨hx.1, hx.2, hm.2⟩
def few (s : ByteArray) : ByteArray := if (s.size : Int) > 400 then s.extract 0 400 else s
theorem few_size (s : ByteArray) : (few s).size ≤ 400 := by
  unfold few
  split
  · rw [ByteArray.size_extract]; omega
  · omega
abbrev Brief (x : S34) : Prop := x.f0.size ≤ 400 ∧ x.f1.size ≤ 400
theorem Brief.tiny {x : S34} (h : Brief x) : TinyN x := by unfold TinyN Tiny; omega
def oneN (x : S34) : S34 := ⟨few x.f0, few x.f1⟩
theorem oneN_brief (x : S34) : Brief (oneN x) := ⟨few_size _, few_size _⟩
theorem rd_nat {l : List S34} {i : Nat} (hi : i < l.length) : rd_T34 l (i : Int) = l[i] := by simp [rd_T34, List.getD_eq_getElem?_getD, List.getElem?_eq_getElem hi]
def fewN (l : List S34) : List S34 := (l.take 24).map oneN
theorem fewN_len (l : List S34) : (fewN l).length ≤ 24 := by unfold fewN; rw [List.length_map, List.length_take]; omega
theorem fewN_brief (l : List S34) : ∀ x ∈ fewN l, Brief x := fun x hx => by
  obtain ⟨y, _, rfl⟩ := List.mem_map.1 hx
  exact oneN_brief y
theorem elements_from (s : ByteArray) (hs : Tiny s) : ∀ (k i : Nat), ((parts 47 (bs s)).map ofB).length ≤ i + k → i ≤ ((parts 47 (bs s)).map ofB).length →
    path_Elements.l0 (k + 1) ((parts 47 (bs s)).map ofB) ((parts 47 (bs s)).map ofB) (((parts 47 (bs s)).map ofB).length : Int) (i : Int) = some (if ((parts 47 (bs s)).drop i).all isElem then ((parts 47 (bs s)).map ofB, 0) else ([], 1)) := by
  have hsm : Small s := by unfold Tiny at hs; unfold Small; omega
  obtain ⟨hl, hx⟩ := parts_small hsm 47
  have hlen : ((parts 47 (bs s)).map ofB).length = (parts 47 (bs s)).length := List.length_map _
  have hall : ∀ (i : Nat) (hi : i < (parts 47 (bs s)).length), path_element.f (((parts 47 (bs s)).map ofB)[i]'(by rw [hlen]; exact hi)) = some (isElem (parts 47 (bs s))[i]) := by
    intro i hi
    have h2 := hx (((parts 47 (bs s)).map ofB)[i]'(by rw [hlen]; exact hi)) (List.getElem_mem _)
    unfold path_element.f
    rw [if_pos (by unfold Tiny at *; omega), List.getElem_map, bs_ofB (parts_oct (bs_oct s) _ (List.getElem_mem hi))]
  intro k
  induction k with
  | zero =>
    intro i h1 h2
    have e : i = (parts 47 (bs s)).length := by omega
    subst e
    unfold path_Elements.l0
    rw [if_neg (by omega), List.drop_length]
    rfl
  | succ k ih =>
    intro i h1 h2
    unfold path_Elements.l0
    by_cases hi : i < (parts 47 (bs s)).length
    · rw [if_pos (by omega), if_pos (by omega), if_pos (by omega)]
      have hr : rdOf ByteArray.empty ((parts 47 (bs s)).map ofB) (i : Int) = ((parts 47 (bs s)).map ofB)[i]'(by rw [hlen]; exact hi) := by
        simp [rdOf, List.getD_eq_getElem?_getD, List.getElem?_eq_getElem hi]
      rw [hr, hall i hi, List.drop_eq_getElem_cons hi, List.all_cons, Option.bind_some]
      cases he : isElem (parts 47 (bs s))[i]
      · rfl
      · rw [if_pos rfl, Bool.true_and, show wrap64 ((i : Int) + 1) = ((i + 1 : Nat) : Int) by unfold wrap64; unfold Tiny at hs; omega]
        exact ih (i + 1) (by omega) (by omega)
    · have e : i = (parts 47 (bs s)).length := by omega
      rw [if_neg (by omega), List.drop_eq_nil_of_le (by omega)]
      rfl
theorem path_May_val (k : Nat) (s : ByteArray) (hs : Tiny s) (hk : s.size + 2 ≤ k) : path_May.f k s = some (isPath (bs s)) := by
  obtain ⟨j, rfl⟩ : ∃ j, k = j + 1 := ⟨k - 1, by omega⟩
  have hl := parts_len s 47
  unfold path_May.f path_Elements.f octet_Parts.f
  rw [if_pos ⟨hs, by decide, by decide⟩, Option.bind_some]
  have h := elements_from s hs j 0 (by omega) (Nat.zero_le _)
  rw [show (47 : Int).toNat = 47 from rfl, show ((0 : Nat) : Int) = 0 from rfl] at *
  rw [h, Option.bind_some, List.drop_zero]
  unfold isPath
  cases (parts 47 (bs s)).all isElem <;> rfl
theorem version_May_val (s : ByteArray) (hs : Tiny s) : version_May.f s = some (isVersion (bs s)) := by
  unfold version_May.f version_Split.f
  rw [if_pos hs, Option.bind_some, ← vparts_some]
  cases vparts (bs s) <;> rfl
theorem node_May_val (k : Nat) (x : S34) (hx : TinyN x) (hk : x.f0.size + 2 ≤ k) : node_May.f k x.f0 x.f1 = some (mayN x) := by
  unfold node_May.f
  rw [path_May_val k _ hx.1 hk, version_May_val _ hx.2]
  show _ = some (isPath (bs x.f0) && isVersion (bs x.f1))
  cases isPath (bs x.f0) <;> rfl
theorem order_val (k : Nat) (x y : S34) (hx : GoodN x) (hy : GoodN y) : node_order.f (k + 3) x.f0 x.f1 y.f0 y.f1 = some (ordN x y) := by
  unfold node_order.f
  by_cases h : (x.f0.toList == y.f0.toList && x.f1.toList == y.f1.toList) = true
  · rw [if_pos h]
    rw [str_eq, str_eq, Bool.and_eq_true, decide_eq_true_eq, decide_eq_true_eq] at h
    have e : x = y := by cases x; cases y; simp only at h; rw [h.1, h.2]
    subst e
    exact congrArg some ((ordN_to.eq x x hx hx).2 rfl).symm
  · rw [if_neg h]
    have hv : version_Cmp.f x.f1 y.f1 = some (verC (vOf (bs x.f1)) (vOf (bs y.f1)), 0) := by
      unfold version_Cmp.f
      rw [if_pos ⟨hx.2.1, hy.2.1⟩, vparts_of hx.2.2, vparts_of hy.2.2]
      rfl
    rw [hv, octcmp_val]
    simp only [Option.bind_some]
    rw [or2_val]
    rfl
def insN (x : S34) : List S34 → List S34
  | [] => [x]
  | y :: r => if ordN x y ≤ 0 then x :: y :: r else y :: insN x r
def sortN (l : List S34) : List S34 := l.foldr insN []
theorem insN_perm (x : S34) : ∀ l, (insN x l).Perm (x :: l)
  | [] => List.Perm.refl _
  | y :: r => by
    unfold insN
    split
    · exact List.Perm.refl _
    · exact ((insN_perm x r).cons y).trans (List.Perm.swap x y r)
theorem sortN_perm : ∀ l, (sortN l).Perm l
  | [] => List.Perm.refl _
  | x :: l => (insN_perm x _).trans ((sortN_perm l).cons x)
theorem insN_sorted (x : S34) (hx : GoodN x) : ∀ l, (∀ y ∈ l, GoodN y) → l.Pairwise (fun x y => ordN x y ≤ 0) → (insN x l).Pairwise (fun x y => ordN x y ≤ 0)
  | [], _, _ => List.pairwise_singleton _ _
  | y :: r, hg, hp => by
    have gy := hg y List.mem_cons_self
    rw [List.pairwise_cons] at hp
    unfold insN
    split
    · rename_i h
      refine List.pairwise_cons.2 ⟨fun z hz => ?_, List.pairwise_cons.2 hp⟩
      rcases List.mem_cons.1 hz with rfl | hz
      · exact h
      · exact (ordN_to.le x y z hx gy (hg z (List.mem_cons_of_mem _ hz)) h (hp.1 z hz)).1
    · rename_i h
      refine List.pairwise_cons.2 ⟨fun z hz => ?_, insN_sorted x hx r (fun z hz => hg z (List.mem_cons_of_mem _ hz)) hp.2⟩
      rcases List.mem_cons.1 ((insN_perm x r).mem_iff.1 hz) with rfl | hz
      · have := ordN_to.sym z y hx gy
        omega
      · exact hp.1 z hz
theorem sortN_sorted : ∀ l, (∀ y ∈ l, GoodN y) → (sortN l).Pairwise (fun x y => ordN x y ≤ 0)
  | [], _ => List.Pairwise.nil
  | x :: l, hg => insN_sorted x (hg x List.mem_cons_self) _ (fun y hy => hg y (List.mem_cons_of_mem _ ((sortN_perm l).mem_iff.1 hy))) (sortN_sorted l (fun y hy => hg y (List.mem_cons_of_mem _ hy)))
def chk : Option S34 → List S34 → Bool
  | _, [] => true
  | p, x :: r => mayN x && (match p with | none => true | some q => decide (ordN q x < 0)) && chk (some x) r
def checkN (l : List S34) : Bool := chk none l
def ahead (l : List S34) (t : S34) : Nat := (l.filter (fun x => decide (ordN x t < 0))).length
structure IsSet (l : List S34) : Prop where
  good : ∀ x ∈ l, GoodN x
  may : ∀ x ∈ l, mayN x = true
  lt : l.Pairwise (fun x y => ordN x y < 0)
theorem ordN_self {x : S34} (h : GoodN x) : ordN x x = 0 := (ordN_to.eq x x h h).2 rfl
theorem ordN_ne {x y : S34} (hx : GoodN x) (h : ordN x y < 0) : x ≠ y := fun e => by
  subst e
  rw [ordN_self hx] at h
  omega
theorem IsSet.nodup {l : List S34} (h : IsSet l) : l.Nodup := List.Pairwise.imp_of_mem (fun hx _ hxy => ordN_ne (h.good _ hx) hxy) h.lt
theorem IsSet.nil : IsSet [] := ⟨fun x h => by (cases h), fun x h => by (cases h), List.Pairwise.nil⟩
theorem IsSet.tail {x : S34} {l : List S34} (h : IsSet (x :: l)) : IsSet l := ⟨fun y hy => h.good y (List.mem_cons_of_mem _ hy), fun y hy => h.may y (List.mem_cons_of_mem _ hy), (List.pairwise_cons.1 h.lt).2⟩
theorem IsSet.ext : ∀ {l m : List S34}, IsSet l → IsSet m → (∀ x, x ∈ l ↔ x ∈ m) → l = m
  | [], [], _, _, _ => rfl
  | [], y :: m, _, _, h => absurd ((h y).2 List.mem_cons_self) (by simp)
  | x :: l, [], _, _, h => absurd ((h x).1 List.mem_cons_self) (by simp)
  | x :: l, y :: m, hl, hm, h => by
    have gx := hl.good x List.mem_cons_self
    have gy := hm.good y List.mem_cons_self
    have e : x = y := by
      rcases List.mem_cons.1 ((h x).1 List.mem_cons_self) with e | e
      · exact e
      · rcases List.mem_cons.1 ((h y).2 List.mem_cons_self) with e2 | e2
        · exact e2.symm
        · have h1 := (List.pairwise_cons.1 hm.lt).1 x e
          have h2 := (List.pairwise_cons.1 hl.lt).1 y e2
          have := ordN_to.sym x y gx gy
          omega
    subst e
    have hx1 : x ∉ l := (List.nodup_cons.1 hl.nodup).1
    have hx2 : x ∉ m := (List.nodup_cons.1 hm.nodup).1
    rw [IsSet.ext hl.tail hm.tail (fun z => ⟨fun hz => by
      rcases List.mem_cons.1 ((h z).1 (List.mem_cons_of_mem _ hz)) with e | e
      · subst e; exact absurd hz hx1
      · exact e, fun hz => by
      rcases List.mem_cons.1 ((h z).2 (List.mem_cons_of_mem _ hz)) with e | e
      · subst e; exact absurd hz hx2
      · exact e⟩)]
theorem IsSet.filter {l : List S34} (h : IsSet l) (p : S34 → Bool) : IsSet (l.filter p) :=
  ⟨fun x hx => h.good x (List.mem_filter.1 hx).1, fun x hx => h.may x (List.mem_filter.1 hx).1, h.lt.filter p⟩
theorem chk_of : ∀ (l : List S34) (p : Option S34), (∀ x ∈ l, mayN x = true) → l.Pairwise (fun x y => ordN x y < 0) → (∀ q, p = some q → ∀ x ∈ l, ordN q x < 0) → chk p l = true
  | [], p, _, _, _ => by cases p <;> rfl
  | x :: r, p, hm, hs, hp => by
    rw [List.pairwise_cons] at hs
    simp only [chk, Bool.and_eq_true]
    refine ⟨⟨hm x List.mem_cons_self, ?_⟩, chk_of r (some x) (fun y hy => hm y (List.mem_cons_of_mem _ hy)) hs.2 (fun q e y hy => by injection e with e; rw [← e]; exact hs.1 y hy)⟩
    cases p with
    | none => rfl
    | some q => exact decide_eq_true (hp q rfl x List.mem_cons_self)
theorem IsSet.check {l : List S34} (h : IsSet l) : checkN l = true := chk_of l none h.may h.lt (fun q e => by cases e)
def rwithN (l : List S34) (t : S34) : List S34 := l.filter (fun x => decide (ordN x t < 0)) ++ [t] ++ l.filter (fun x => decide (ordN t x < 0))
theorem mem_rwithN {l : List S34} {t : S34} (hg : ∀ x ∈ l, GoodN x) (gt : GoodN t) (x : S34) : x ∈ rwithN l t ↔ x ∈ l ∨ x = t := by
  unfold rwithN
  simp only [List.mem_append, List.mem_filter, List.mem_singleton, decide_eq_true_eq]
  constructor
  · rintro ((h | h) | h)
    · exact Or.inl h.1
    · exact Or.inr h
    · exact Or.inl h.1
  · rintro (h | h)
    · have h1 := ordN_to.sym x t (hg x h) gt
      have h2 := ordN_to.eq x t (hg x h) gt
      rcases ordN_to.tri x t with e | e | e
      · exact Or.inl (Or.inl ⟨h, by omega⟩)
      · exact Or.inl (Or.inr (h2.1 e))
      · exact Or.inr ⟨h, by omega⟩
    · exact Or.inl (Or.inr h)
theorem rwithN_set {l : List S34} {t : S34} (h : IsSet l) (gt : GoodN t) (mt : mayN t = true) : IsSet (rwithN l t) := by
  refine ⟨fun x hx => ?_, fun x hx => ?_, ?_⟩
  · rcases (mem_rwithN h.good gt x).1 hx with e | e
    · exact h.good x e
    · subst e; exact gt
  · rcases (mem_rwithN h.good gt x).1 hx with e | e
    · exact h.may x e
    · subst e; exact mt
  · unfold rwithN
    rw [List.pairwise_append, List.pairwise_append]
    refine ⟨⟨h.lt.filter _, List.pairwise_singleton _ _, fun a ha b hb => ?_⟩, h.lt.filter _, fun a ha b hb => ?_⟩
    · simp only [List.mem_singleton] at hb
      subst hb
      exact of_decide_eq_true (List.mem_filter.1 ha).2
    · have hb1 := List.mem_filter.1 hb
      have hb2 : ordN t b < 0 := of_decide_eq_true hb1.2
      rcases List.mem_append.1 ha with ha | ha
      · have ha1 := List.mem_filter.1 ha
        exact ordN_to.tr a t b (h.good a ha1.1) gt (h.good b hb1.1) (of_decide_eq_true ha1.2) hb2
      · simp only [List.mem_singleton] at ha
        subst ha
        exact hb2
def rsetN (l : List S34) : List S34 := l.foldl rwithN []
theorem rsetN_facts (l : List S34) (ht : ∀ x ∈ l, TinyN x) (hm : ∀ x ∈ l, mayN x = true) : ∀ (acc : List S34), IsSet acc → IsSet (l.foldl rwithN acc) ∧ ∀ x, x ∈ l.foldl rwithN acc ↔ x ∈ acc ∨ x ∈ l := by
  induction l with
  | nil => intro acc h; exact ⟨h, fun x => by simp⟩
  | cons y r ih =>
    intro acc h
    have my := hm y List.mem_cons_self
    have gy := mayN_good (ht y List.mem_cons_self) my
    rw [List.foldl_cons]
    have h2 := ih (fun x hx => ht x (List.mem_cons_of_mem _ hx)) (fun x hx => hm x (List.mem_cons_of_mem _ hx)) _ (rwithN_set h gy my)
    refine ⟨h2.1, fun x => (h2.2 x).trans ?_⟩
    rw [mem_rwithN h.good gy, List.mem_cons, or_assoc]
end Go.Proofs.YtohdmmafjpjmfaaGreatDoor.Q
end
section
namespace Go.Proofs.YtohdmmafjpjmfaaGreatDoor.Q
open Go.Proofs.YtohdmmafjpjmfaaGreatDoor.QB.D
open Go Go.RowKit Go.Maps Go.Lib Go.Proofs.YtohdmmafjpjmfaaGreatDoorW.PrintWords Go.Proofs.YtohdmmafjpjmfaaGreatDoorW.PrintLast Go.Proofs.YtohdmmafjpjmfaaGreatDoorW.PrintMore Gw
set_option linter.unusedVariables false
set_option linter.unusedSimpArgs false
set_option maxRecDepth 100000
theorem laid_all : laidOutB Tryz.prog = true := by kernel_rfl
theorem keyt_node : Tryz.prog.keyTypeAt 3 34 = true := by kernel_rfl
theorem keyr_node : 34 < Tryz.prog.types.size := Nat.le_of_ble_eq_true (by kernel_rfl)
theorem wide_node : (match Tryz.prog.underlying 34 with | some (.array _ _) | some (.struct _) => true | _ => false) = true := by kernel_rfl
theorem law_node : Keyed Tryz.prog 34 := Keyed.of_law (deep_law_laid laid_all (m := 3) (by omega) keyr_node keyt_node wide_node)
def nkey (x : S34) : Lit := .string (keyBytes [.string x.f0.data.toList, .string x.f1.data.toList])
theorem keyOf_node (x : S34) (hs : x.f0.size ≤ maxLen) (ht : x.f1.size ≤ maxLen) : keyOf Tryz.prog 34 (.agg #[.string x.f0, .string x.f1]) = some (nkey x) := by
  unfold keyOf
  rw [Tryz.underlying34]
  have h1 : Tryz.prog.keyType 34 = true := by kernel_rfl
  have h2 : Tryz.prog.cellsOf 34 = 2 := by kernel_rfl
  have h3 : Tryz.prog.cellsOf 9 = 1 := by kernel_rfl
  obtain ⟨m, h4⟩ : ∃ m, Tryz.prog.types.size = m + 1 := ⟨Tryz.prog.types.size - 1, by have := keyr_node; omega⟩
  have u9 := Tryz.underlying9
  rw [h4]
  simp [h1, Value.formed, Tryz.underlying34, h2, Program.keyLits, h3, u9, Value.cells, hs, ht, nkey]
abbrev NS (x : S34) : Prop := x.f0.size ≤ maxLen ∧ x.f1.size ≤ maxLen
theorem nkey_inj {x y : S34} (hx : NS x) (hy : NS y) : nkey x = nkey y ↔ x = y := by
  refine ⟨fun h => ?_, fun h => by rw [h]⟩
  have e1 := keyOf_node x hx.1 hx.2
  have e2 := keyOf_node y hy.1 hy.2
  rw [← h] at e2
  have e := keyOf_inj_deep (tiled_of_laidOut laid_all 3 _ (by
    simp only [isVar, Bool.and_eq_true, decide_eq_true_eq]
    refine ⟨keyr_node, ?_⟩
    simp [Tryz.underlying34, kindOk]) keyt_node) wide_node e1 e2
  simp only [Value.agg.injEq] at e
  cases x; cases y
  simpa using e
theorem nkey_lit (x : S34) : WideAt.IsKeyLit (nkey x) := by unfold nkey; simp [WideAt.IsKeyLit]
theorem keyOf_node_inv {key : Value} {kl : Lit} (h : keyOf Tryz.prog 34 key = some kl) : ∃ x : S34, key = .agg #[.string x.f0, .string x.f1] ∧ NS x ∧ kl = nkey x := by
  have h0 := h
  unfold keyOf at h
  rw [Tryz.underlying34] at h
  have h2 : Tryz.prog.cellsOf 34 = 2 := by kernel_rfl
  have h3 : Tryz.prog.cellsOf 9 = 1 := by kernel_rfl
  obtain ⟨m, h4⟩ : ∃ m, Tryz.prog.types.size = m + 1 := ⟨Tryz.prog.types.size - 1, by have := keyr_node; omega⟩
  have u9 := Tryz.underlying9
  simp only [] at h
  split at h
  · rename_i hf
    rw [Option.map_eq_some_iff] at h
    obtain ⟨ls, hls, hk⟩ := h
    have hfm := ((Bool.and_eq_true _ _).mp hf).2
    cases key with
    | agg cs =>
      have hsz : cs.size = 2 := by simpa [Value.formed, Tryz.underlying34, h2] using hfm
      obtain ⟨a, b, rfl⟩ : ∃ a b, cs = #[a, b] := ⟨cs[0], cs[1], by apply Array.ext_getElem?; intro i; match i with
        | 0 => simp [hsz]
        | 1 => simp [hsz]
        | i + 2 => simp [hsz]⟩
      have hab : ∃ s t : ByteArray, a = .string s ∧ b = .string t ∧ s.size ≤ maxLen ∧ t.size ≤ maxLen := by
        rw [h4] at hls
        simp [Program.keyLits, Tryz.underlying34, h2, h3, u9, Value.cells] at hls
        have ha : ∃ s : ByteArray, a = .string s ∧ s.size ≤ maxLen := by
          cases a with
          | string s =>
            by_cases h : s.size ≤ maxLen
            · exact ⟨s, rfl, h⟩
            · simp [h] at hls
          | _ => simp at hls
        obtain ⟨s, rfl, h5⟩ := ha
        simp [h5] at hls
        have hb : ∃ s : ByteArray, b = .string s ∧ s.size ≤ maxLen := by
          cases b with
          | string s =>
            by_cases h : s.size ≤ maxLen
            · exact ⟨s, rfl, h⟩
            · simp [h] at hls
          | _ => simp at hls
        obtain ⟨t, rfl, h6⟩ := hb
        exact ⟨s, t, rfl, rfl, h5, h6⟩
      obtain ⟨s, t, rfl, rfl, h5, h6⟩ := hab
      refine ⟨⟨s, t⟩, rfl, ⟨h5, h6⟩, ?_⟩
      have := keyOf_node ⟨s, t⟩ h5 h6
      rw [this] at h0
      exact (Option.some.inj h0).symm
    | _ => simp [Value.formed, Tryz.underlying34] at hfm
  · cases h
def lookC (m : List (S34 × Int)) (x : S34) : Option Int := (m.find? (fun p => decide (p.1 = x))).map (·.2)
def putC : List (S34 × Int) → S34 → Int → List (S34 × Int)
  | [], x, v => [(x, v)]
  | p :: r, x, v => if p.1 = x then (x, v) :: r else p :: putC r x v
theorem lookC_put (m : List (S34 × Int)) (x y : S34) (v : Int) : lookC (putC m x v) y = if y = x then some v else lookC m y := by
  induction m with
  | nil =>
    unfold putC lookC
    by_cases e : x = y
    · subst e; simp
    · rw [if_neg (fun h => e h.symm)]; simp [e]
  | cons p r ih =>
    unfold putC
    split
    · rename_i hp
      unfold lookC
      by_cases e : x = y
      · subst e; simp
      · rw [if_neg (fun h => e h.symm)]
        simp only [List.find?_cons]
        rw [decide_eq_false e, decide_eq_false (fun h => e (hp.symm.trans h))]
    · rename_i hp
      by_cases e : p.1 = y
      · subst e
        rw [if_neg (fun h => hp h)]
        unfold lookC
        simp
      · unfold lookC at ih ⊢
        simp only [List.find?_cons]
        rw [decide_eq_false e]
        exact ih
theorem putC_len (m : List (S34 × Int)) (x : S34) (v : Int) : (putC m x v).length = if (lookC m x).isSome then m.length else m.length + 1 := by
  induction m with
  | nil => rfl
  | cons p r ih =>
    unfold putC
    split
    · rename_i hp
      have : lookC (p :: r) x = some p.2 := by unfold lookC; simp [hp]
      rw [this]; rfl
    · rename_i hp
      have : lookC (p :: r) x = lookC r x := by unfold lookC; simp only [List.find?_cons]; rw [decide_eq_false hp]
      rw [this, List.length_cons, ih]
      split <;> rfl
structure CntM (D : DataW Unit) (m : List (S34 × Int)) : Prop where
  map : IsMap D
  has : ∀ y, NS y → Maps.has D (nkey y) = (lookC m y).isSome
  at_ : ∀ y, NS y → D.atKey (nkey y) (.lit (.int .i64 0)) = .lit (.int .i64 ((lookC m y).getD 0))
theorem CntM.none : CntM (.map []) [] := ⟨isMap_empty, fun y _ => by simp [Maps.has, lookC], fun y _ => by simp [DataW.atKey, lookC]⟩
theorem CntM.put {D : DataW Unit} {m : List (S34 × Int)} (h : CntM D m) (x : S34) (hx : NS x) (v : Int) : CntM (D.put (nkey x) (.lit (.int .i64 v))) (putC m x v) := by
  refine ⟨h.map.put _ _, fun y hy => ?_, fun y hy => ?_⟩
  · rw [lookC_put]
    by_cases e : y = x
    · subst e
      rw [has_put_same h.map (nkey_lit _), if_pos rfl]; rfl
    · rw [has_put_other (fun h2 => e ((nkey_inj hy hx).1 h2)), h.has y hy, if_neg e]
  · rw [lookC_put]
    by_cases e : y = x
    · subst e
      rw [atKey_put_same h.map (nkey_lit _), if_pos rfl]; rfl
    · rw [atKey_put_other (fun h2 => e ((nkey_inj hy hx).1 h2)), h.at_ y hy, if_neg e]
structure ColN (D0 : DataW Unit) (left : Lit → Bool) (ss : List S34) : Prop where
  nodup : ss.Nodup
  ns : ∀ x ∈ ss, NS x
  mem : ∀ x, NS x → (x ∈ ss ↔ (Maps.has D0 (nkey x) = true ∧ left (nkey x) = false))
theorem ColN.start (D0 : DataW Unit) : ColN D0 (Maps.has D0) [] := ⟨List.nodup_nil, fun x h => (by cases h), fun x _ => by cases Maps.has D0 (nkey x) <;> simp⟩
theorem nkey_same {x y : S34} (hx : NS x) (hy : NS y) : (nkey y).sameKey (nkey x) = decide (y = x) := by
  by_cases e : y = x
  · subst e; unfold nkey; simp [Lit.sameKey]
  · have h : nkey y ≠ nkey x := fun h => e ((nkey_inj hy hx).1 h)
    rw [decide_eq_false e]
    unfold nkey at h ⊢
    simp only [ne_eq, Lit.string.injEq] at h
    simp [Lit.sameKey, h]
theorem ColN.step {D0 : DataW Unit} {left : Lit → Bool} {ss : List S34} (h : ColN D0 left ss) {x : S34} (hx : NS x) {y : DataW Unit} (hlk : left (nkey x) = true) (hat : ∀ zd, D0.atKey (nkey x) zd = y) :
    ColN D0 (fun z => left z && !z.sameKey (nkey x)) (ss ++ [x]) := by
  have hhas : Maps.has D0 (nkey x) = true := has_true_of_atKey hat
  have hnew : x ∉ ss := fun hm => by have := ((h.mem x hx).1 hm).2; rw [hlk] at this; cases this
  refine ⟨List.nodup_append.2 ⟨h.nodup, by simp, fun a ha b hb => by simp at hb; subst hb; exact fun e => hnew (e ▸ ha)⟩, fun z hz => ?_, fun z hz => ?_⟩
  · rcases List.mem_append.1 hz with e | e
    · exact h.ns z e
    · rw [List.mem_singleton] at e; subst e; exact hx
  · rw [nkey_same hx hz, List.mem_append, List.mem_singleton, h.mem z hz]
    by_cases e : z = x
    · subst e; simp [hhas]
    · simp [e]
theorem ColN.all {D0 : DataW Unit} {left : Lit → Bool} {ss : List S34} {m : List (S34 × Int)} (h : ColN D0 left ss) (hm : CntM D0 m) (hl : ∀ kl, left kl = false) : ss.Nodup ∧ (∀ x ∈ ss, NS x) ∧ ∀ x, NS x → (x ∈ ss ↔ (lookC m x).isSome = true) :=
  ⟨h.nodup, h.ns, fun x hx => by rw [h.mem x hx, hm.has x hx, hl]; simp⟩
end Go.Proofs.YtohdmmafjpjmfaaGreatDoor.Q
end
section
namespace Go.Proofs
open Go.Shelf
def Tryz.sortNode_ren : Go.Shelf.Ren := ⟨fun | 6 => 95 | 15 => 110 | 14 => 109 | 28 => 127 | 29 => 128 | 20 => 119 | 21 => 120 | 22 => 121 | 23 => 122 | 24 => 123 | 25 => 124 | 26 => 125 | 27 => 126 | 46 => 140 | 47 => 141 | 48 => 142 | 49 => 143 | 50 => 144 | 57 => 152 | n => n, fun | 22 => 44 | 24 => 34 | 25 => 73 | 3 => 3 | 39 => 127 | 0 => 0 | 53 => 141 | 55 => 143 | 4 => 4 | 46 => 134 | 45 => 133 | 50 => 138 | 5 => 5 | 9 => 9 | 66 => 154 | 70 => 158 | 76 => 167 | 77 => 168 | n => n, fun | n => n⟩
theorem Tryz.sortNode : Go.Proofs.SlLaysF0.n6 Tryz.prog Tryz.sortNode_ren := {
  mixed := by kernel_rfl
  f6 := ⟨Tryz.f95.name, by decide, Tryz.func95.trans (congrArg some (by kernel_rfl))⟩
  f14 := ⟨Tryz.f109.name, by decide, Tryz.func109.trans (congrArg some (by kernel_rfl))⟩
  f15 := Tryz.func110.trans (congrArg some (by kernel_rfl))
  f20 := ⟨Tryz.f119.name, by decide, Tryz.func119.trans (congrArg some (by kernel_rfl))⟩
  f21 := ⟨Tryz.f120.name, by decide, Tryz.func120.trans (congrArg some (by kernel_rfl))⟩
  f22 := ⟨Tryz.f121.name, by decide, Tryz.func121.trans (congrArg some (by kernel_rfl))⟩
  f23 := ⟨Tryz.f122.name, by decide, Tryz.func122.trans (congrArg some (by kernel_rfl))⟩
  f24 := ⟨Tryz.f123.name, by decide, Tryz.func123.trans (congrArg some (by kernel_rfl))⟩
  f25 := ⟨Tryz.f124.name, by decide, Tryz.func124.trans (congrArg some (by kernel_rfl))⟩
  f26 := ⟨Tryz.f125.name, by decide, Tryz.func125.trans (congrArg some (by kernel_rfl))⟩
  f27 := ⟨Tryz.f126.name, by decide, Tryz.func126.trans (congrArg some (by kernel_rfl))⟩
  f28 := Tryz.func127.trans (congrArg some (by kernel_rfl))
  f29 := Tryz.func128.trans (congrArg some (by kernel_rfl))
  f46 := ⟨Tryz.f140.name, by decide, Tryz.func140.trans (congrArg some (by kernel_rfl))⟩
  f47 := Tryz.func141.trans (congrArg some (by kernel_rfl))
  f48 := Tryz.func142.trans (congrArg some (by kernel_rfl))
  f49 := ⟨Tryz.f143.name, by decide, Tryz.func143.trans (congrArg some (by kernel_rfl))⟩
  f50 := ⟨Tryz.f144.name, by decide, Tryz.func144.trans (congrArg some (by kernel_rfl))⟩
  f57 := ⟨Tryz.f152.name, by decide, Tryz.func152.trans (congrArg some (by kernel_rfl))⟩
  t0 := Tryz.underlying0
  a0 := Tryz.isAgg0
  z0 := Tryz.sizeOf0
  v0 := Tryz.zeroValue0
  t3 := Tryz.underlying3
  a3 := Tryz.isAgg3
  z3 := Tryz.sizeOf3
  v3 := Tryz.zeroValue3
  t4 := Tryz.underlying4
  a4 := Tryz.isAgg4
  z4 := Tryz.sizeOf4
  v4 := Tryz.zeroValue4
  t5 := Tryz.underlying5
  a5 := Tryz.isAgg5
  z5 := Tryz.sizeOf5
  v5 := Tryz.zeroValue5
  t9 := Tryz.underlying9
  a9 := Tryz.isAgg9
  z9 := Tryz.sizeOf9
  v9 := Tryz.zeroValue9
  t22 := Tryz.underlying44
  a22 := Tryz.isAgg44
  z22 := Tryz.sizeOf44
  v22 := Tryz.zeroValue44
  t25 := Tryz.underlying73
  a25 := Tryz.isAgg73
  z25 := Tryz.sizeOf73
  v25 := Tryz.zeroValue73
  t39 := Tryz.underlying127
  a39 := Tryz.isAgg127
  z39 := Tryz.sizeOf127
  v39 := Tryz.zeroValue127
  t45 := Tryz.underlying133
  a45 := Tryz.isAgg133
  z45 := Tryz.sizeOf133
  v45 := Tryz.zeroValue133
  t46 := Tryz.underlying134
  a46 := Tryz.isAgg134
  z46 := Tryz.sizeOf134
  v46 := Tryz.zeroValue134
  t50 := Tryz.underlying138
  a50 := Tryz.isAgg138
  z50 := Tryz.sizeOf138
  v50 := Tryz.zeroValue138
  t53 := Tryz.underlying141
  a53 := Tryz.isAgg141
  z53 := Tryz.sizeOf141
  v53 := Tryz.zeroValue141
  t55 := Tryz.underlying143
  a55 := Tryz.isAgg143
  z55 := Tryz.sizeOf143
  v55 := Tryz.zeroValue143
  t66 := Tryz.underlying154
  a66 := Tryz.isAgg154
  z66 := Tryz.sizeOf154
  v66 := Tryz.zeroValue154
  t70 := Tryz.underlying158
  a70 := Tryz.isAgg158
  z70 := Tryz.sizeOf158
  v70 := Tryz.zeroValue158
  t76 := Tryz.underlying167
  a76 := Tryz.isAgg167
  z76 := Tryz.sizeOf167
  v76 := Tryz.zeroValue167
  t77 := Tryz.underlying168
  a77 := Tryz.isAgg168
  z77 := Tryz.sizeOf168
  v77 := Tryz.zeroValue168 }
end Go.Proofs
end
section
namespace Go.Proofs.YtohdmmafjpjmfaaGreatDoor.Q
open Go.Proofs.YtohdmmafjpjmfaaGreatDoor.QB.D
open Go Go.RowKit Go.Maps Go.Lib Go.Sort Go.Proofs.YtohdmmafjpjmfaaGreatDoorW.PrintWords Go.Proofs.YtohdmmafjpjmfaaGreatDoorW.PrintLast Go.Proofs.YtohdmmafjpjmfaaGreatDoorW.PrintMore Gw
set_option linter.unusedVariables false
set_option linter.unusedSimpArgs false
abbrev GN := { x : S34 // GoodN x }
instance : Inhabited GN := ⟨⟨⟨⟨#[]⟩, ⟨#[118, 48, 46, 48, 46, 48]⟩⟩, by unfold Tiny; decide, by unfold Tiny; decide, by decide +kernel⟩⟩
theorem isAggN (w : World) : (isAgg 34).run Tryz.prog w = .ok true w := by kernel_rfl
theorem sizeN (w : World) : (Go.sizeOf 34).run Tryz.prog w = .ok 2 w := by kernel_rfl
def cellsN (xs : List S34) : List Value := xs.flatMap (fun x => [Value.string x.f0, Value.string x.f1])
theorem cellsN_get : ∀ (xs : List S34) (j : Nat), (cellsN xs)[j]? = (xs[j / 2]?).map (fun x => if j % 2 = 0 then Value.string x.f0 else Value.string x.f1) := by
  intro xs
  induction xs with
  | nil => intro j; simp [cellsN]
  | cons x xs ih =>
    intro j
    match j with
    | 0 => simp [cellsN]
    | 1 => simp [cellsN]
    | j + 2 =>
      show ([Value.string x.f0, Value.string x.f1] ++ cellsN xs)[j + 2]? = _
      rw [List.getElem?_append_right (by simp)]
      simp only [List.length_cons, List.length_nil, Nat.zero_add, Nat.add_sub_cancel, Nat.reduceAdd]
      rw [ih j, show (j + 2) / 2 = j / 2 + 1 by omega, show (j + 2) % 2 = j % 2 by omega, List.getElem?_cons_succ]
theorem cellsN_len : ∀ xs, (cellsN xs).length = xs.length * 2
  | [] => rfl
  | x :: xs => by
    show ([Value.string x.f0, Value.string x.f1] ++ cellsN xs).length = _
    rw [List.length_append, cellsN_len xs]; simp; omega
theorem reps_node {w : World} {base : Nat} {ok : Nat → Prop} {xs : List S34} {inner : List Value} (h : Reps (k34.M w base ok) k34.sz xs inner) : inner = cellsN xs := by
  obtain ⟨hl, hp⟩ := h
  have hl2 : inner.length = xs.length * 2 := hl
  apply List.ext_getElem?
  intro j
  rw [cellsN_get]
  by_cases hj : j < xs.length * 2
  · have h2 : j / 2 < xs.length := by omega
    have hm := hp (j / 2) _ (List.getElem?_eq_getElem h2)
    have ho := k34_openM hm
    rw [List.getElem?_eq_getElem h2, Option.map_some]
    have h3 : inner[j]? = ((inner.drop (j / 2 * 2)).take 2)[j % 2]? := by
      rw [List.getElem?_take_of_lt (by omega), List.getElem?_drop, show j / 2 * 2 + j % 2 = j by omega]
    rw [h3]
    have ho' : (inner.drop (j / 2 * 2)).take 2 = [.string xs[j / 2].f0, .string xs[j / 2].f1] := ho
    rw [ho']
    rcases Nat.mod_two_eq_zero_or_one j with e | e <;> rw [e] <;> rfl
  · rw [List.getElem?_eq_none (by omega), List.getElem?_eq_none (by omega)]
    rfl
theorem node_reps (w : World) (base : Nat) (ok : Nat → Prop) (xs : List S34) : Reps (k34.M w base ok) k34.sz xs (cellsN xs) := by
  refine ⟨cellsN_len xs, fun j p hj => ?_⟩
  obtain ⟨hjl, rfl⟩ := List.getElem?_eq_some_iff.1 hj
  have e : ((cellsN xs).drop (j * 2)).take 2 = [.string xs[j].f0, .string xs[j].f1] := by
    apply List.ext_getElem?
    intro t
    rcases Nat.lt_or_ge t 2 with h | h
    · rw [List.getElem?_take_of_lt h, List.getElem?_drop, cellsN_get, show (j * 2 + t) / 2 = j by omega, List.getElem?_eq_getElem hjl, Option.map_some]
      match t, h with
      | 0, _ => rw [if_pos (by omega)]; rfl
      | 1, _ => rw [if_neg (by omega)]; rfl
    · rw [List.getElem?_eq_none (by rw [List.length_take]; omega), List.getElem?_eq_none (by simp; omega)]
  show k34.M w base ok xs[j] (((cellsN xs).drop (j * 2)).take 2)
  rw [e]
  exact k34_mkM _ _ _ _
theorem take_put (cur : Array Value) (F : Array Value) (h : F.size ≤ cur.size) : (putCells id 0 F cur).toList.take F.size = F.toList := by
  apply List.ext_getElem?
  intro j
  rcases Nat.lt_or_ge j F.size with hj | hj
  · rw [List.getElem?_take_of_lt hj, Array.getElem?_toList, Array.getElem?_toList]
    simp only [putCells, Array.getElem?_mapIdx]
    rw [Array.getElem?_eq_getElem (show j < cur.size by omega), Option.map_some, if_pos (by omega), Array.getElem?_eq_getElem hj]
    simp [hj]
  · rw [List.getElem?_eq_none (by simp; omega), List.getElem?_eq_none (by simpa using hj)]
abbrev GM := { x : S34 // TinyN x ∧ mayN x = true }
theorem gM (x : GM) : GoodN x.1 := mayN_good x.2.1 x.2.2
instance : Inhabited GM := ⟨⟨⟨⟨#[97]⟩, ⟨#[118, 48, 46, 48, 46, 48]⟩⟩, by unfold TinyN Tiny; decide, by decide +kernel⟩⟩
def encM (x : GM) : List Value := [.string x.1.f0, .string x.1.f1]
def cfM (x y : GM) : Int := ordN x.1 y.1
theorem ltM (x y : GM) : ltOf cfM x y = decide (cfM x y < 0) := rfl
theorem swoM : SWO (ltOf cfM) where
  irrefl x := by
    rw [ltM, decide_eq_false_iff_not]
    have := (ordN_to.eq x.1 x.1 (gM x) (gM x)).2 rfl
    unfold cfM; omega
  trans x y z h1 h2 := by
    rw [ltM, decide_eq_true_eq] at *
    exact ordN_to.tr _ _ _ (gM x) (gM y) (gM z) h1 h2
  ntrans x y z h1 h2 := by
    rw [ltM, decide_eq_false_iff_not] at *
    have s1 := ordN_to.sym x.1 y.1 (gM x) (gM y)
    have s2 := ordN_to.sym y.1 z.1 (gM y) (gM z)
    have s3 := ordN_to.sym x.1 z.1 (gM x) (gM z)
    unfold cfM at *
    have := (ordN_to.le z.1 y.1 x.1 (gM z) (gM y) (gM x) (by omega) (by omega)).1
    omega
theorem totM (x y : GM) (h1 : ltOf cfM x y = false) (h2 : ltOf cfM y x = false) : x = y := by
  rw [ltM, decide_eq_false_iff_not] at *
  have s1 := ordN_to.sym x.1 y.1 (gM x) (gM y)
  unfold cfM at *
  exact Subtype.ext ((ordN_to.eq x.1 y.1 (gM x) (gM y)).1 (by omega))
theorem order13_val (k : Nat) (hk : 4294967310 ≤ k) (x y : S34) (hx : TinyN x ∧ mayN x = true) (hy : TinyN y ∧ mayN y = true) : diff_order.f k x.f0 x.f1 y.f0 y.f1 = some (ordN x y) := by
  have q1 := hx.1.1
  have q2 := hy.1.1
  unfold Tiny at q1 q2
  obtain ⟨j, rfl⟩ : ∃ j, k = j + 3 := ⟨k - 3, by omega⟩
  unfold diff_order.f node_Cmp.f
  rw [node_May_val _ x hx.1 (by omega), node_May_val _ y hy.1 (by omega), hx.2, hy.2]
  simp only [Option.bind_some, if_true]
  rw [order_val j x y (mayN_good hx.1 hx.2) (mayN_good hy.1 hy.2)]
  rfl
theorem cmpLaysM (blk off size : Nat) (w : World) : CmpLays Tryz.prog 49 #[] encM 2 cfM blk off size w := fun _ _ _ _ x y =>
  (QB.D.diff_order.calls 4294967310 x.1.f0 x.1.f1 y.1.f0 y.1.f1 _ _ (order13_val _ (Nat.le_refl _) x.1 y.1 x.2 y.2)).mono fun e w' h => ⟨h.1, h.2.grows⟩
theorem flat_cellsM (G : List GM) (j : Nat) (hj : j < G.length * 2) : some (flatK encM 2 G.toArray)[j]! = (cellsN (G.map Subtype.val))[j]? := by
  have h2 : j / 2 < G.length := by omega
  rw [get_flatK _ _ _ _ (by simpa using hj), cellsN_get, List.getElem?_map, List.getElem?_eq_getElem h2, Option.map_some, Option.map_some]
  have : G.toArray[j / 2]! = G[j / 2] := by simp [h2]
  rw [this]
  rcases Nat.mod_two_eq_zero_or_one j with e | e <;> rw [e] <;> rfl
theorem sortW_blockM (enc : GM → List Value) (w : World) (g m : Nat) (d : Array GM) (os : Array Obj) (cur : Array Value) (e : TypeId) (hg : w.heap[g]? = some (.cells cur e (0, 0))) :
    (sortWorldK enc 2 w g 0 m d os).heap[g]? = some (.cells (putCells id 0 (flatK enc 2 d) cur) e (0, 0)) := by
  have hlt : g < w.heap.size := by
    rcases Nat.lt_or_ge g w.heap.size with h | h
    · exact h
    · rw [Array.getElem?_eq_none h] at hg; cases hg
  unfold sortWorldK grow putRowK putRow mapBlock Sort.ahead
  simp only []
  rw [Array.getElem?_append_left (by simpa using hlt), Array.getElem?_modify, if_pos rfl, hg]
  rfl
theorem sortW_belowM (enc : GM → List Value) (w : World) (g m : Nat) (d : Array GM) (os : Array Obj) (b : Nat) (hb : b ≤ g) (hg : g < w.heap.size) : Below b w (sortWorldK enc 2 w g 0 m d os) := by
  unfold sortWorldK grow putRowK putRow mapBlock Sort.ahead
  refine ⟨rfl, rfl, rfl, by simp, fun k hk => ?_⟩
  simp only []
  rw [Array.getElem?_append_left (by simp; omega), Array.getElem?_modify, if_neg (by omega)]
theorem enc_lenM (x : GM) : (encM x).length = 2 := rfl
theorem enc_oneM (x : GM) : ∀ v ∈ encM x, v.oneCell' = true := fun v hv => by simp [encM] at hv; rcases hv with rfl | rfl <;> rfl
theorem sortM_calls (L S : List S34) (hL : ∀ x ∈ L, TinyN x ∧ mayN x = true) (hn : L.length ≤ 4294967296) (hS : S.Perm L) (hS2 : S.Pairwise (fun x y => ordN x y ≤ 0)) (W : World) (base b0 : Nat) (ok ok' : Nat → Prop) (v : Value) (hR : Kd.R k34 34 W base ok v L) (hok' : ∀ k, ok k → ok' k) (hb0 : b0 ≤ base) :
    Calls Tryz.prog 95 #[v, .func (.func 49) #[] #[]] W fun e w' => e = .returned (.tuple #[]) ∧ Kd.R k34 34 w' base ok' v S ∧ Below b0 W w' := by
  obtain ⟨hok, inner, ho, hr⟩ := hR
  obtain rfl := reps_node hr
  obtain ⟨_, ⟨rfl, hz⟩ | ⟨g, cap, cur, rfl, hg, hcell, hc1, hc2, hc3, hc4⟩⟩ := ho
  · have hL0 : L = [] := List.length_eq_zero_iff.1 hz
    subst hL0
    have hS0 : S = [] := List.Perm.eq_nil hS
    subst hS0
    refine (AnyF.slices_SortFunc_none Tryz.sortNode none 0 (.func (.func 49) #[] #[]) W).mono ?_
    rintro e w' ⟨rfl, rfl⟩
    exact ⟨rfl, Kd.R_nil _ _ _ _ _, Below.refl _ _⟩
  · obtain ⟨G, rfl⟩ : ∃ G : List GM, G.map Subtype.val = L := ⟨L.attach.map (fun x => ⟨x.1, hL x.1 x.2⟩), by simp [List.map_map, Function.comp_def, List.attach_map_subtype_val]⟩
    have hgl : g < W.heap.size := by
      rcases Nat.lt_or_ge g W.heap.size with h | h
      · exact h
      · rw [Array.getElem?_eq_none h] at hcell; cases hcell
    rw [List.length_map] at *
    have hsz2 : (cellsN (G.map Subtype.val)).length = G.length * 2 := by rw [cellsN_len, List.length_map]
    have hH : HoldsK encM 2 W g 0 G.toArray := by
      intro j hj
      have hj' : j < G.length * 2 := by simpa using hj
      refine ⟨?_, blk_frozen hcell _⟩
      rw [blk_cell hcell, Nat.zero_add]
      show cur[j]? = some (flatK encM 2 G.toArray)[j]!
      rw [flat_cellsM G j hj', ← hc4]
      rw [show k34.sz = 2 from rfl, List.getElem?_take_of_lt hj', Array.getElem?_toList]
    have eg : ∀ args w, (callFunc 49 args).run Tryz.prog w = .ok (.enter 49 args) w := enters_of Tryz.func49 (by kernel_rfl) rfl
    have hcon := AnyQ.slices_SortFunc_total Tryz.sortNode 2 isAggN sizeN encM enc_lenM enc_oneM cfM swoM 49 #[] g 0 cap G.toArray W eg (cmpLaysM _ _ _ _) hH hgl (by simp; omega) totM
    refine Calls.mono hcon ?_
    rintro e w' ⟨rfl, n, os, rfl⟩
    refine ⟨rfl, ?_, sortW_belowM _ _ _ _ _ _ _ (by omega) hgl⟩
    have hM1 : (G.mergeSort fun x y => !(ltOf cfM) y x).Perm G := List.mergeSort_perm _ _
    have hM2 : (G.mergeSort fun x y => !(ltOf cfM) y x).Pairwise (fun x y => (!(ltOf cfM) y x) = true) := by
      refine List.pairwise_mergeSort (le := fun x y => !(ltOf cfM) y x) (fun a b c h1 h2 => ?_) (fun a b => ?_) G
      · simp only [Bool.not_eq_true'] at *
        exact swoM.ntrans _ _ _ h2 h1
      · simp only [ltM]
        have := ordN_to.sym a.1 b.1 (gM a) (gM b)
        unfold cfM
        by_cases h : ordN b.1 a.1 < 0
        · rw [decide_eq_true h, decide_eq_false (by omega)]; rfl
        · rw [decide_eq_false h]; rfl
    have hSM : S = (G.mergeSort fun x y => !(ltOf cfM) y x).map Subtype.val := by
      refine List.Perm.eq_of_pairwise (le := fun x y => ordN x y ≤ 0) ?_ hS2 ?_ (hS.trans (hM1.map _).symm)
      · intro a b ha hb h1 h2
        have ga := mayN_good (hL a (hS.mem_iff.1 ha)).1 (hL a (hS.mem_iff.1 ha)).2
        have gb : GoodN b := by obtain ⟨y, _, rfl⟩ := List.mem_map.1 hb; exact gM y
        have := ordN_to.sym a b ga gb
        exact (ordN_to.eq a b ga gb).1 (by omega)
      · refine List.pairwise_map.2 (hM2.imp ?_)
        intro x y h
        simp only [Bool.not_eq_true', ltM, decide_eq_false_iff_not] at h
        have := ordN_to.sym x.1 y.1 (gM x) (gM y)
        unfold cfM at h
        omega
    have hlM := hM1.length_eq
    generalize hMM : (G.mergeSort fun x y => !(ltOf cfM) y x) = M at hSM hlM
    have hfs : (flatK encM 2 M.toArray).size = G.length * 2 := by simp [hlM]
    have hSl : S.length = G.length := by rw [hSM, List.length_map, hlM]
    refine ⟨fun k hk => hok' k (hok k hk), cellsN S, ?_, ?_⟩
    · refine ⟨by rw [cellsN_len]; rfl, Or.inr ⟨g, cap, putCells id 0 (flatK encM 2 M.toArray) cur, by rw [hSl], hg, sortW_blockM _ _ _ _ _ _ _ _ hcell, by rw [hSl]; exact hc1, hc2, by simp [putCells]; exact hc3, ?_⟩⟩
      rw [show S.length * k34.sz = (flatK encM 2 M.toArray).size by rw [hfs, hSl]; rfl, take_put _ _ (by rw [hfs, hc3]; exact Nat.mul_le_mul_right _ hc1)]
      apply List.ext_getElem?
      intro j
      by_cases hj : j < G.length * 2
      · rw [hSM, ← flat_cellsM M j (by omega), Array.getElem?_toList, Array.getElem?_eq_getElem (by omega)]
        simp [hfs, hj]
      · rw [List.getElem?_eq_none (by simp; omega), List.getElem?_eq_none (by rw [cellsN_len]; omega)]
    · exact node_reps _ _ _ _
end Go.Proofs.YtohdmmafjpjmfaaGreatDoor.Q
end
section
namespace Go.Proofs.YtohdmmafjpjmfaaGreatDoor.Q
open Go.Proofs.YtohdmmafjpjmfaaGreatDoor.QB.D
open Go Go.RowKit Go.Lib Go.Proofs.YtohdmmafjpjmfaaGreatDoorW.PrintWords Go.Proofs.YtohdmmafjpjmfaaGreatDoorW.PrintLast Go.Proofs.YtohdmmafjpjmfaaGreatDoorW.PrintMore Gw
set_option linter.unusedVariables false
set_option linter.unusedSimpArgs false
def okV : Bool → Int
  | true => 0
  | false => 1
def edE (x : S48) : Bool := mayN x.f0 && (!decide (x.f1 = 0) && (!decide (x.f1 > 1099511627776) && !decide (x.f1 < -1099511627776)))
def chkE : Option S48 → List S48 → Bool
  | _, [] => true
  | none, x :: r => edE x && chkE (some x) r
  | some q, x :: r => edE x && (decide (ordN q.f0 x.f0 < 0) && chkE (some x) r)
def checkE (l : List S48) : Bool := chkE none l
theorem checkE_l0 (l : List S48) (hl : l.length ≤ 4294967296) (ht : ∀ x ∈ l, TinyN x.f0) : ∀ (n i k : Nat) (p : Option S48), l.length ≤ i + n → i ≤ l.length → n + 4294967320 ≤ k →
    (p = if i = 0 then none else l[i - 1]?) → (∀ q, p = some q → mayN q.f0 = true) →
    diff_Check.l0 k l l (l.length : Int) (i : Int) = some (okV (chkE p (l.drop i))) := by
  intro n
  induction n with
  | zero =>
    intro i k p h1 h2 hk hp hq
    obtain ⟨j, rfl⟩ : ∃ j, k = j + 1 := ⟨k - 1, by omega⟩
    have e : i = l.length := by omega
    subst e
    simp only [diff_Check.l0]
    rw [if_neg (by omega), List.drop_length]
    cases p <;> rfl
  | succ n ih =>
    intro i k p h1 h2 hk hp hq
    obtain ⟨j, rfl⟩ : ∃ j, k = j + 1 := ⟨k - 1, by omega⟩
    by_cases hi : i < l.length
    · have hm := List.getElem_mem hi
      have htx := ht _ hm
      have hrd : rd_T48 l (i : Int) = l[i] := by simp [rd_T48, List.getD_eq_getElem?_getD, List.getElem?_eq_getElem hi]
      have hmv := node_May_val j l[i].f0 htx (by have := htx.1; unfold Tiny at this; omega)
      simp only [diff_Check.l0]
      rw [if_pos (by omega), if_pos (by omega), if_pos (by omega), hrd, hmv, List.drop_eq_getElem_cons hi]
      simp only [Option.bind_some]
      have hbad : edE l[i] = false → okV (chkE p (l[i] :: l.drop (i + 1))) = 1 := fun h => by
        cases p <;> simp only [chkE] <;> rw [h] <;> rfl
      by_cases hmx : mayN l[i].f0 = true
      case neg =>
        rw [if_neg hmx, hbad (by unfold edE; rw [Bool.not_eq_true] at hmx; rw [hmx]; rfl)]
      case pos =>
        rw [if_pos hmx]
        by_cases z0 : l[i].f1 = 0
        · rw [if_pos z0, hbad (by unfold edE; rw [decide_eq_true z0]; simp)]
        rw [if_neg z0]
        by_cases z1 : l[i].f1 > 1099511627776
        · rw [if_pos z1, hbad (by unfold edE; rw [decide_eq_true z1]; simp)]
        rw [if_neg z1]
        by_cases z2 : l[i].f1 < -1099511627776
        · rw [if_pos z2, hbad (by unfold edE; rw [decide_eq_true z2]; simp)]
        rw [if_neg z2]
        have hgood : edE l[i] = true := by unfold edE; rw [hmx, decide_eq_false z0, decide_eq_false z1, decide_eq_false z2]; rfl
        have hw : wrap64 ((i : Int) + 1) = ((i + 1 : Nat) : Int) := by unfold wrap64; omega
        have ih' := ih (i + 1) j (some l[i]) (by omega) (by omega) (by omega) (by rw [if_neg (by omega)]; simp [List.getElem?_eq_getElem hi]) (fun q h => by injection h with h; rw [← h]; exact hmx)
        by_cases h0 : i = 0
        · subst h0
          rw [if_pos rfl] at hp
          subst hp
          rw [if_neg (by omega), hw, ih']
          simp only [chkE]
          rw [hgood]
          rfl
        · rw [if_neg h0, List.getElem?_eq_getElem (by omega)] at hp
          subst hp
          have hi1 : i - 1 < l.length := by omega
          have hw1 : wrap64 ((i : Int) - 1) = ((i - 1 : Nat) : Int) := by unfold wrap64; omega
          have hrd1 : rd_T48 l ((i - 1 : Nat) : Int) = l[i - 1] := by simp [rd_T48, List.getD_eq_getElem?_getD, List.getElem?_eq_getElem hi1]
          have gx : TinyN l[i - 1].f0 ∧ mayN l[i - 1].f0 = true := ⟨ht _ (List.getElem_mem hi1), hq _ rfl⟩
          rw [if_pos (by omega), hw1, if_pos (by omega), if_pos (by omega), hrd1, order13_val j (by omega) _ _ gx ⟨htx, hmx⟩]
          simp only [Option.bind_some, chkE]
          rw [hgood]
          by_cases hc : ordN l[i - 1].f0 l[i].f0 < 0
          · rw [if_neg (by omega), hw, ih', decide_eq_true hc]
            rfl
          · rw [if_pos (by omega), decide_eq_false hc]
            rfl
    · exact ih i (j + 1) p (by omega) h2 (by omega) hp hq
theorem checkE_val (l : List S48) (hl : l.length ≤ 4294967296) (ht : ∀ x ∈ l, TinyN x.f0) (k : Nat) (hk : l.length + 4294967320 ≤ k) : diff_Check.f k l = some (okV (checkE l)) := by
  have h := checkE_l0 l hl ht l.length 0 k none (by omega) (Nat.zero_le _) (by omega) rfl (fun q h => by cases h)
  rw [List.drop_zero] at h
  exact h
theorem chkE_all : ∀ (l : List S48) (p : Option S48), chkE p l = true → ∀ x ∈ l, edE x = true
  | [], _, _, x, h => by cases h
  | y :: r, none, h, x, hx => by
    simp only [chkE, Bool.and_eq_true] at h
    rcases List.mem_cons.1 hx with rfl | hx
    · exact h.1
    · exact chkE_all r _ h.2 x hx
  | y :: r, some q, h, x, hx => by
    simp only [chkE, Bool.and_eq_true] at h
    rcases List.mem_cons.1 hx with rfl | hx
    · exact h.1
    · exact chkE_all r _ h.2.2 x hx
theorem edE_iff (x : S48) : edE x = true ↔ mayN x.f0 = true ∧ x.f1 ≠ 0 ∧ x.f1 ≤ 1099511627776 ∧ -1099511627776 ≤ x.f1 := by
  unfold edE
  simp only [Bool.and_eq_true, Bool.not_eq_true', decide_eq_false_iff_not]
  constructor
  · rintro ⟨h1, h2, h3, h4⟩; exact ⟨h1, h2, by omega, by omega⟩
  · rintro ⟨h1, h2, h3, h4⟩; exact ⟨h1, h2, by omega, by omega⟩
theorem R_of_cells {w : World} {base : Nat} {ok : Nat → Prop} {v : Value} {xs : List S34} (ho : w.ownsRow base 34 2 v xs.length (cellsN xs)) (hok : ∀ k, v.ownBlock = some k → ok k) : Kd.R k34 34 w base ok v xs := ⟨hok, cellsN xs, ho, node_reps _ _ _ _⟩
theorem cellsN_snoc (xs : List S34) (x : S34) : cellsN xs ++ [.string x.f0, .string x.f1] = cellsN (xs ++ [x]) := by unfold cellsN; rw [List.flatMap_append]; rfl
end Go.Proofs.YtohdmmafjpjmfaaGreatDoor.Q
end
section
namespace Go.Proofs.YtohdmmafjpjmfaaGreatDoor.Q
open Go.Proofs.YtohdmmafjpjmfaaGreatDoor.QB.D
open Go Go.RowKit Go.Maps Go.Lib Go.Proofs.YtohdmmafjpjmfaaGreatDoorW.PrintWords Go.Proofs.YtohdmmafjpjmfaaGreatDoorW.PrintLast Go.Proofs.YtohdmmafjpjmfaaGreatDoorW.PrintMore Gw
set_option linter.unusedVariables false
set_option linter.unusedSimpArgs false
attribute [local go_sem] Oper.semAt_some
abbrev vN (x : S34) : Value := .agg #[.string x.f0, .string x.f1]
theorem vN_inj {x y : S34} (h : vN x = vN y) : x = y := by
  cases x; cases y
  simp at h
  rw [h.1, h.2]
theorem int_inv {v : Value} {y : DataW Unit × List MemPlace} (h : plainElem (H := Unit) Tryz.prog 3 v = some y) : ∃ c : Int, v = .int .i64 c := by
  obtain ⟨c, rfl, _⟩ := plainElem_int_inv Tryz.underlying3 h
  exact ⟨c, rfl⟩
set_option maxRecDepth 100000 in
set_option maxHeartbeats 2000000 in
theorem keysN_in (F : Fence) (n : Nat) (hF : F.fn 96) (hro : F.round = none) (hn : 1 ≤ n) (l Bm b nn : Nat) (D0 : DataW Unit) (m : List (S34 × Int)) (hm0 : CntM D0 m) (J : List S34 → World → Prop)
    (hY : ∀ pre x W, J pre W → NS x → pre.length < Maps.size D0 → YieldAt F (n - 1) Tryz.prog l #[vN x] W fun e W' => e = .returned (.bool true) ∧ J (pre ++ [x]) W' ∧ KeepsWalks W W')
    (W : World) (hJ : AbidesFrom W.heap.size J) (hJa : ∀ s W o, J s W → J s (W.alloc o)) (hm : W.cell? ⟨Bm, 0, none⟩ = some (.map (some b))) (hown : W.ownsMap Tryz.prog 34 (plainElem Tryz.prog 3) b nn D0) (h0 : J [] W) :
    CallsIn F n Tryz.prog 96 #[.func (.yield l) #[] #[], .pointer (some ⟨Bm, 0, none⟩)] W fun e W' => (∃ v, e = .returned v) ∧ ∃ ss : List S34, (ss.Nodup ∧ (∀ x ∈ ss, NS x) ∧ ∀ x, NS x → (x ∈ ss ↔ (lookC m x).isSome = true)) ∧ J ss W' := by
  have hu24 := Tryz.underlying34
  have hCM := Aside0.mk hm0
  refine callsIn_of_wp Tryz.func96 rfl hF ?_ hro
  simp only [Tryz.ntmps96, List.size_toArray, List.length_cons, List.length_nil, Nat.reduceAdd, Nat.reduceSub, Array.replicate_succ, Array.replicate_zero, List.push_toArray, List.append_toArray, List.nil_append, List.cons_append]
  gi_wp2_with (first
    | (gi_at_range; refine wpListIn_range_own _ rfl _ 91 rfl 34 3 law_node Tryz.underlying91 _ b nn _ rfl hown ?_; intro w0 hrg0 hg0 hs0)
    | gi_in)
  go_frame
  gi_loopw [3] (fun _ wr => ∃ (left : Lit → Bool) (cnt : Nat) (ss : List S34), wr.ranges Tryz.prog 34 (plainElem Tryz.prog 3) b W.heap.size nn D0 left cnt ∧ ss.length + cnt ≤ Maps.size D0 ∧ Aside0 (ColN D0 left ss) ∧ J ss wr)
    (fun _ wr => wr.rangeLeft b W.heap.size)
  case atStart =>
    exact ⟨_, _, [], hrg0, by simp, ⟨ColN.start D0⟩, hJ [] W w0 none h0 hg0 (fun r e => by cases e)⟩
  case round =>
    obtain ⟨left, cnt, ss, hrg, hcs, hC, hJs⟩ := hrel
    gi_wp2_with (first
      | (gi_at_next; refine wpListIn_next_ranges _ rfl _ rfl 34 law_node (plainElem Tryz.prog 3) vN (Value.int .i64) (fun key kl hk => by obtain ⟨x, hx, _⟩ := keyOf_node_inv hk; exact ⟨x, hx⟩) (fun v _ h => int_inv h) b W.heap.size nn _ _ _ rfl hrg ?_ ?_)
      | gi_in)
    · intro hc0 hl0
      gi_wp2
      go_end0
      exact ⟨⟨_, rfl⟩, ss, hC.out.all hCM.out hl0, hJs⟩
    · intro x c kl yd yp w2 cnt2 hkey hlk hv hat hrg2 hlt hg2 hs2 hen
      obtain ⟨x', ex, hnx, rfl⟩ := keyOf_node_inv hkey
      obtain rfl : x = x' := vN_inj ex
      have hJ2 : J ss w2 := hJ ss wr w2 (some W.heap.size) hJs hg2 (fun r e => by cases e; exact ⟨Nat.le_refl _, hrg.iter_walk⟩)
      have hJ3 := hJa ss w2 (.cells #[.string x.f0, .string x.f1] 34 (0, 0)) hJ2
      obtain ⟨fn, tmps, assign, body, hy, hR⟩ := hY ss x _ hJ3 hnx (by omega)
      have HC2 := Aside0.mk (hC.out.step hnx hlk hat)
      clear hs2 hC
      gi_wp2
      refine hR.mono ?_
      rintro e W3 ⟨rfl, hJ3, hk3⟩
      gi_wp2
      have hrg3 := hrg2.of_walks ((KeepsWalks.alloc _ _).trans hk3)
      go_roundw
      case rel => exact ⟨_, cnt2, ss ++ [x], hrg3, by simp; omega, HC2, hJ3⟩
      case measure => rw [hrg3.left_eq, hrg.left_eq]; exact hlt
def apAssignN : Code := (Code.region 2 #[{ dst := some 5, op := Op.alloc 34, type := 0, pos := "iter.go:51", after := #[], guard := none }, { dst := none, op := Op.store 34 (Operand.tmp 5) (Operand.tmp 7), type := 0, pos := "iter.go:51", after := #[{ on := 0, ground := Ground.data }, { on := 0, ground := Ground.phase }], guard := none }] false)
def apBodyN : Code := (Code.block 1 (Code.region 3 #[{ dst := some 8, op := Op.load 44 (Operand.tmp 2), type := 44, pos := "iter.go:52", after := #[], guard := none }, { dst := some 9, op := Op.load 34 (Operand.tmp 5), type := 34, pos := "iter.go:52", after := #[], guard := none }, { dst := some 10, op := Op.buildSlice 44 1 #[(0, Operand.tmp 9)], type := 44, pos := "iter.go:52", after := #[{ on := 1, ground := Ground.data }], guard := none }, { dst := some 11, op := Op.call { callee := Callee.builtin Builtin.append, args := #[Operand.tmp 8, Operand.tmp 10], argTypes := #[44, 44] }, type := 44, pos := "iter.go:52", after := #[{ on := 0, ground := Ground.data }, { on := 2, ground := Ground.data }], guard := none }, { dst := none, op := Op.store 44 (Operand.tmp 2) (Operand.tmp 11), type := 0, pos := "iter.go:52", after := #[{ on := 3, ground := Ground.data }, { on := 3, ground := Ground.chain }, { on := 0, ground := Ground.phase }, { on := 1, ground := Ground.phase }, { on := 2, ground := Ground.phase }, { on := 3, ground := Ground.phase }], guard := none }] false))
def apRecN (fn : FuncId) (sv : Value) (Bs D : Nat) (st : LoopState) (pend : Option Code) : Loop :=
  { state := st, pending := pend, fn, tmps := #[.slice none 0 0, sv, .pointer (some ⟨Bs, 0, none⟩), undef, .slice none 0 0, undef, sv, undef, undef, undef, undef, undef, undef], params := #[7], assign := apAssignN, body := apBodyN, defers := D }
theorem row_abides {W W' : World} {row : Option Nat} {base : Nat} {e : TypeId} {size : Nat} {v : Value} {k : Nat} {xs : List Value} (h : W.ownsRow base e size v k xs) (hg : W.grownBy W' row)
    (hrow : ∀ r, row = some r → ∃ o : Obj, W.heap[r]? = some o ∧ o.isWalk = true) : W'.ownsRow base e size v k xs := by
  refine h.kept hg ?_
  rcases h.2 with ⟨rfl, _⟩ | ⟨g, cap, cur, rfl, _, hgb, _⟩
  · exact .inl rfl
  · refine .inr fun e' => ?_
    obtain ⟨o, ho, hw⟩ := hrow g (by simpa [Value.ownBlock] using e'.symm)
    rw [hgb] at ho; cases ho; cases hw
theorem put_grown (W : World) (l : Nat) (o : Obj) : W.grownBy (W.putObj l o) (some l) := ⟨rfl, rfl, rfl, by simp, fun k _ hk => World.putObj_heap_other (fun e => hk (by rw [e]))⟩
theorem set_grown (W : World) (b : Nat) (v : Value) : W.grownBy (W.setCell ⟨b, 0, none⟩ v) (some b) := ⟨rfl, rfl, rfl, (KeepsWalks.setCell W _ v).size, fun k _ hk => Below.heap_setCell _ _ _ k (fun e => hk (by rw [e]))⟩
theorem row_ne {W : World} {base : Nat} {e : TypeId} {size : Nat} {v : Value} {k : Nat} {xs : List Value} (h : W.ownsRow base e size v k xs) {j : Nat} {o : Obj} (hj : W.heap[j]? = some o) (hno : ∀ cur, o ≠ .cells cur e (0, 0)) : v.ownBlock = none ∨ v.ownBlock ≠ some j := by
  rcases h.2 with ⟨rfl, _⟩ | ⟨g, cap, cur, rfl, _, hgb, _⟩
  · exact .inl rfl
  · refine .inr fun e' => ?_
    have : g = j := by simpa [Value.ownBlock] using e'
    subst this; rw [hgb] at hj; cases hj; exact hno cur rfl
theorem box_cell {W : World} {B : Nat} {v : Value} {t : TypeId} (h : W.heap[B]? = some (.cells #[v] t (0, 0))) : W.cell? ⟨B, 0, none⟩ = some v ∧ W.frozen? ⟨B, 0, none⟩ = false := by
  constructor <;> simp [World.cell?, World.frozen?, h]
theorem box_set {W : World} {B : Nat} {v : Value} {t : TypeId} (v' : Value) (h : W.heap[B]? = some (.cells #[v] t (0, 0))) : (W.setCell ⟨B, 0, none⟩ v').heap[B]? = some (.cells #[v'] t (0, 0)) := by
  obtain ⟨hlt, hk⟩ := Array.getElem?_eq_some_iff.1 h
  show (W.heap.modify B _)[B]? = _
  rw [Array.getElem?_eq_getElem (by rw [Array.size_modify]; exact hlt), Array.getElem_modify_self, hk]
  rfl
theorem row_no_walk {W : World} {base : Nat} {e : TypeId} {size : Nat} {v : Value} {k : Nat} {xs : List Value} (h : W.ownsRow base e size v k xs) : ∀ (j : Nat) (o : Obj), v.ownBlock = some j → W.heap[j]? = some o → o.isWalk = false := by
  intro j o hj ho
  rcases h.2 with ⟨rfl, _⟩ | ⟨g, cap, cur, rfl, _, hgb, _⟩
  · simp [Value.ownBlock] at hj
  · have : g = j := by simpa [Value.ownBlock] using hj
    subst this; rw [hgb] at ho; cases ho; rfl
structure ApN (w0 : World) (fn : FuncId) (sv : Value) (Bs l D : Nat) (ss : List S34) (W : World) : Prop where
  box : ∃ v, W.heap[Bs]? = some (.cells #[v] 44 (0, 0)) ∧ W.ownsRow w0.heap.size 34 2 v ss.length (cellsN ss)
  L : W.heap[l]? = some (.loop (apRecN fn sv Bs D .ready none))
  K : W.heap[D]? = some (.deferred (some []))
  below : Below w0.heap.size w0 W
theorem ap_abides (w0 : World) (fn : FuncId) (sv : Value) (Bs l D B : Nat) (hB : w0.heap.size ≤ B) : AbidesFrom B (ApN w0 fn sv Bs l D) := fun s W W' row h hg hrow => by
  have hrow' : ∀ r, row = some r → ∃ o : Obj, W.heap[r]? = some o ∧ o.isWalk = true := fun r e => (hrow r e).2
  obtain ⟨v, hv, hr⟩ := h.box
  exact ⟨⟨v, (grownBy_keeps hg hrow' hv rfl).trans hv, row_abides hr hg hrow'⟩, (grownBy_keeps hg hrow' h.L rfl).trans h.L, (grownBy_keeps hg hrow' h.K rfl).trans h.K,
    h.below.grown hg h.below.size (fun k e => Nat.le_trans hB (hrow k e).1)⟩
theorem heap_al {W : World} {k : Nat} {o o' : Obj} (h : W.heap[k]? = some o) : (W.alloc o').heap[k]? = some o := (Below.heap_alloc W o' k (Array.getElem?_eq_some_iff.1 h).1).trans h
theorem ap_alloc {w0 : World} {fn : FuncId} {sv : Value} {Bs l D : Nat} {ss : List S34} {W : World} (h : ApN w0 fn sv Bs l D ss W) (o : Obj) : ApN w0 fn sv Bs l D ss (W.alloc o) := by
  obtain ⟨v, hv, hr⟩ := h.box
  exact ⟨⟨v, heap_al hv, hr.alloc o⟩, heap_al h.L, heap_al h.K, h.below.alloc h.below.size o⟩
set_option maxRecDepth 100000 in
set_option maxHeartbeats 4000000 in
theorem apYieldN (F : Fence) (m : Nat) (w0 : World) (fn : FuncId) (hfn : F.fn fn) (sv : Value) (Bs l D : Nat) (hBl : Bs ≠ l) (hDl : D ≠ l) (hDB : D ≠ Bs) (h0B : w0.heap.size ≤ Bs) (h0l : w0.heap.size ≤ l)
    (ss : List S34) (x : S34) (W : World) (h : ApN w0 fn sv Bs l D ss W) (hlen : ss.length < 4294967296) :
    YieldAt F m Tryz.prog l #[vN x] W fun e W' => e = .returned (.bool true) ∧ ApN w0 fn sv Bs l D (ss ++ [x]) W' ∧ KeepsWalks W W' := by
  have hu24 := Tryz.underlying34
  obtain ⟨i0, hi, hz0, hz1, hz2⟩ := info_parts info34
  obtain ⟨v, hv, hrow⟩ := h.box
  refine ⟨fn, #[.slice none 0 0, sv, .pointer (some ⟨Bs, 0, none⟩), undef, .slice none 0 0, undef, sv, vN x, undef, undef, undef, undef, undef], apAssignN, apBodyN, by simpa [apRecN] using run_yield (P := Tryz.prog) (args := #[vN x]) h.L rfl, roundIn_of_wpIn hfn ?_⟩
  have h1 := ap_alloc h (.cells #[.string x.f0, .string x.f1] 34 (0, 0))
  obtain ⟨W1, hW1⟩ : ∃ W1, W.alloc (.cells #[.string x.f0, .string x.f1] 34 (0, 0)) = W1 := ⟨_, rfl⟩
  have hk1 : KeepsWalks W W1 := by rw [← hW1]; exact KeepsWalks.alloc _ _
  have hrow1 : W1.ownsRow w0.heap.size 34 2 v ss.length (cellsN ss) := by rw [← hW1]; exact hrow.alloc _
  have hv1 : W1.heap[Bs]? = some (.cells #[v] 44 (0, 0)) := by rw [← hW1]; exact heap_al hv
  have hx1 : W1.heap[W.heap.size]? = some (.cells #[.string x.f0, .string x.f1] 34 (0, 0)) := by rw [← hW1]; exact World.alloc_heap_new W _
  rw [hW1] at h1
  have hl : l < W1.heap.size := (Array.getElem?_eq_some_iff.1 h1.L).1
  have hlW : l < W.heap.size := (Array.getElem?_eq_some_iff.1 h.L).1
  have hbr := run_beginRound (P := Tryz.prog) h1.L rfl
  obtain ⟨W2, hW2⟩ : ∃ W2, W1.putObj l (.loop { apRecN fn sv Bs D .ready none with state := .busy }) = W2 := ⟨_, rfl⟩
  rw [hW2] at hbr
  have hg2 : W1.grownBy W2 (some l) := by rw [← hW2]; exact put_grown _ _ _
  have hk2 : KeepsWalks W1 W2 := by rw [← hW2]; exact KeepsWalks.putObj _ h1.L rfl
  have hv2 : W2.heap[Bs]? = some (.cells #[v] 44 (0, 0)) := by rw [← hW2]; exact (World.putObj_heap_other hBl).trans hv1
  have hx2 : W2.heap[W.heap.size]? = some (.cells #[.string x.f0, .string x.f1] 34 (0, 0)) := by rw [← hW2]; exact (World.putObj_heap_other (by omega)).trans hx1
  have hK2 : W2.heap[D]? = some (.deferred (some [])) := by rw [← hW2]; exact (World.putObj_heap_other hDl).trans h1.K
  have hL2 : W2.heap[l]? = some (.loop { apRecN fn sv Bs D .ready none with state := .busy }) := by rw [← hW2]; exact World.putObj_heap_same hl
  have hrow2 : W2.ownsRow w0.heap.size 34 2 v ss.length (cellsN ss) := hrow1.kept hg2 (row_ne hrow1 h1.L (fun cur e => by cases e))
  have hb2 : Below w0.heap.size w0 W2 := h1.below.grown hg2 h1.below.size (fun k e => by cases e; exact h0l)
  obtain ⟨hc2, hf2⟩ := box_cell hv2
  have hn0 : W2.cell? ⟨W.heap.size, 0, none⟩ = some (.string x.f0) := (blk_cell hx2 0).trans rfl
  have hn1 : W2.cell? ⟨W.heap.size, 1, none⟩ = some (.string x.f1) := (blk_cell hx2 1).trans rfl
  have hBlt : Bs < W2.heap.size := (Array.getElem?_eq_some_iff.1 hv2).1
  have hl2 : l < W2.heap.size := (Array.getElem?_eq_some_iff.1 hL2).1
  have hDlt : D < W2.heap.size := (Array.getElem?_eq_some_iff.1 hK2).1
  have ne_of : ∀ {j : Nat} {o : Obj}, W2.heap[j]? = some o → (∀ cur, o ≠ .cells cur 34 (0, 0)) → some j ≠ v.ownBlock := fun hj hno => by
    rcases row_ne hrow2 hj hno with e | e
    · rw [e]; simp
    · exact fun e' => e e'.symm
  have HW2 := Aside0.mk hW2
  rw [← hW1] at hbr
  have HW1 := Aside0.mk hW1
  have HX2 := Aside0.mk hx2
  have HV2 := Aside0.mk hv2
  have HL2 := Aside0.mk hL2
  have HK2 := Aside0.mk hK2
  have hb2s := hb2.size
  clear hW2 hW1 hx2 hv2 hL2 hK2 hv1 hx1 h1 hv
  unfold apAssignN
  gi_wp2_with (rw [Oper.semAt_eq _ _ _ (fun c h => by cases h)]; go_simp; try go_bits)
  unfold apBodyN
  gi_wp2_with (first
    | (gi_at_builtin; refine wpListIn_append_own _ rfl _ _ 44 rfl w0.heap.size 34 i0 (.agg #[.string ⟨#[]⟩, .string ⟨#[]⟩]) 2 32 Tryz.underlying44 hi hz0 hz1 hz2 rfl (by decide) _ _ _ rfl (hrow2.alloc _) ⟨W2.heap.size, 0, none⟩ 1 1 [.string x.f0, .string x.f1] rfl rfl ?hc (by intro u hu; simp at hu; rcases hu with rfl | rfl <;> rfl) (by unfold maxLen; omega) (by omega) (by simp; omega) ?_; (case hc => (intro j u hj; match j, hj with
        | 0, hj => (simp at hj; subst hj; simp [go_sem])
        | 1, hj => (simp at hj; subst hj; simp [go_sem, add_at])
        | j + 2, hj => (simp at hj))); intro v' w3 hown' hg3 hnil3
       have hv3 : w3.heap[Bs]? = some (.cells #[v] 44 (0, 0)) := (hg3.block Bs (by simp; omega) (ne_of HV2.out (fun cur e => by cases e))).trans (heap_al HV2.out)
       obtain ⟨hc3, hf3⟩ := box_cell hv3
       obtain ⟨g', cap', cur', rfl, hbase', hgb', hr1, hr2, hr3, hr4⟩ : ∃ g' cap' cur', v' = .slice (some ⟨g', 0, none⟩) (ss.length + 1) cap' ∧ w0.heap.size ≤ g' ∧ w3.heap[g']? = some (.cells cur' 34 (0, 0)) ∧ ss.length + 1 ≤ cap' ∧ cap' ≤ maxLen ∧ cur'.size = cap' * 2 ∧ cur'.toList.take ((ss.length + 1) * 2) = cellsN ss ++ [.string x.f0, .string x.f1] := by
         rcases hown'.2 with ⟨_, h0⟩ | h'
         · exact absurd h0 (by omega)
         · exact h'
       have HG3 := Aside0.mk hg3
       have HO3 := Aside0.mk hown'
       have HV3 := Aside0.mk hv3
       clear hg3 hown' hnil3 hv3 hgb' hr1 hr2 hr3 hr4 hbase'
       go_frame)
    | (rw [Oper.semAt_eq _ _ _ (fun c h => by cases h)]; go_simp; try go_bits))
  have hg3 : (W2.alloc (.cells #[.string x.f0, .string x.f1] 34 (0, 0))).grownBy w3 v.ownBlock := HG3.out
  have hv3 := HV3.out
  have hown' := HO3.out
  have hL3 : w3.heap[l]? = some (.loop { apRecN fn sv Bs D .ready none with state := .busy }) := (hg3.block l (by simp; omega) (ne_of HL2.out (fun cur e => by cases e))).trans (heap_al HL2.out)
  have hK3 : w3.heap[D]? = some (.deferred (some [])) := (hg3.block D (by simp; omega) (ne_of HK2.out (fun cur e => by cases e))).trans (heap_al HK2.out)
  obtain ⟨w4, hw4⟩ : ∃ w4, w3.setCell ⟨Bs, 0, none⟩ (.slice (some ⟨g', 0, none⟩) (ss.length + 1) cap') = w4 := ⟨_, rfl⟩
  rw [hw4]
  have hg4 : w3.grownBy w4 (some Bs) := by rw [← hw4]; exact set_grown _ _ _
  have hv4 : w4.heap[Bs]? = some (.cells #[.slice (some ⟨g', 0, none⟩) (ss.length + 1) cap'] 44 (0, 0)) := by rw [← hw4]; exact box_set _ hv3
  have hL4 : w4.heap[l]? = some (.loop { apRecN fn sv Bs D .ready none with state := .busy }) := (hg4.block l (Array.getElem?_eq_some_iff.1 hL3).1 (fun e => hBl (by cases e; rfl))).trans hL3
  have hK4 : w4.heap[D]? = some (.deferred (some [])) := (hg4.block D (Array.getElem?_eq_some_iff.1 hK3).1 (fun e => hDB (by cases e; rfl))).trans hK3
  have hrow4 := hown'.kept hg4 (row_ne hown' hv3 (fun cur e => by cases e))
  have hb3 : Below w0.heap.size w0 w3 := (hb2.alloc hb2.size _).grown hg3 (by have := hb2.size; simp; omega) (fun k e => (hrow2.lt k e).1)
  have hb4 : Below w0.heap.size w0 w4 := hb3.grown hg4 hb3.size (fun k e => by cases e; exact h0B)
  have hk4 : KeepsWalks W w4 := (((hk1.trans hk2).trans (KeepsWalks.alloc _ _)).trans (KeepsWalks.of_grownBy hg3 (row_no_walk (hrow2.alloc _)))).trans (by rw [← hw4]; exact KeepsWalks.setCell _ _ _)
  clear hw4
  refine ⟨_, _, run_endRound none hL4, rfl, ⟨⟨_, (World.putObj_heap_other hBl).trans hv4, ?_⟩, World.putObj_heap_same (Array.getElem?_eq_some_iff.1 hL4).1, (World.putObj_heap_other hDl).trans hK4, hb4.grown (put_grown _ _ _) hb4.size (fun k e => by cases e; exact h0l)⟩, hk4.trans (KeepsWalks.putObj _ hL4 rfl)⟩
  have hfin := hrow4.kept (put_grown w4 l (.loop { { apRecN fn sv Bs D .ready none with state := .busy } with state := if (none : Option Code).isNone then .ready else .done, pending := none })) (row_ne hrow4 hL4 (fun cur e => by cases e))
  rw [cellsN_snoc] at hfin
  simpa using hfin
set_option maxRecDepth 100000 in
set_option maxHeartbeats 4000000 in
theorem appendSeqN_in (F : Fence) (n : Nat) (hF : F.fn 108) (hro : F.round = none) (hn : 2 ≤ n) (g : Nat) (lb : Array Value) (hFg : F.fn g) (eg : ∀ args w, (callFunc g args).run Tryz.prog w = .ok (.enter g args) w)
    (S : List S34 → Prop) (w : World)
    (hseq : ∀ (l : Nat) (J : List S34 → World → Prop) (W : World), Below w.heap.size w W → AbidesFrom W.heap.size J → (∀ s W o, J s W → J s (W.alloc o)) →
      (∀ pre x W1, J pre W1 → NS x → pre.length < 4294967296 → YieldAt F (n - 1 - 1) Tryz.prog l #[vN x] W1 fun e W' => e = .returned (.bool true) ∧ J (pre ++ [x]) W' ∧ KeepsWalks W1 W') → J [] W →
      CallsIn F (n - 1) Tryz.prog g (#[.func (.yield l) #[] #[]] ++ lb) W fun e W' => (∃ v, e = .returned v) ∧ ∃ xs, S xs ∧ J xs W') :
    CallsIn F n Tryz.prog 108 #[.slice none 0 0, .func (.func g) #[] lb] w fun e w' => ∃ (v : Value) (ss : List S34), e = .returned v ∧ S ss ∧ w'.ownsRow w.heap.size 34 2 v ss.length (cellsN ss) ∧ Below w.heap.size w w' := by
  have h1 : 1 ≤ n := by omega
  have hu24 := Tryz.underlying34
  refine callsIn_of_wp_marks Tryz.func108 rfl hF ?_ hro
  simp only [Tryz.ntmps108, List.size_toArray, List.length_cons, List.length_nil, Nat.reduceAdd, Nat.reduceSub, Array.replicate_succ, Array.replicate_zero, List.push_toArray, List.append_toArray, List.nil_append, List.cons_append]
  gi_wp2
  refine wpIn_rangeFunc ?_
  intro fn hfn
  rw [hro]
  obtain ⟨W0, hW0⟩ : ∃ W0, w.alloc (.cells #[.slice none 0 0] 44) = W0 := ⟨_, rfl⟩
  have hs0 : W0.heap.size = w.heap.size + 1 := by rw [← hW0]; simp
  have hv0 : W0.heap[w.heap.size]? = some (.cells #[.slice none 0 0] 44 (0, 0)) := by rw [← hW0]; exact World.alloc_heap_new w _
  have hb0 : Below w.heap.size w W0 := by rw [← hW0]; exact (Below.refl _ w).alloc (Nat.le_refl _) _
  rw [hW0]
  obtain ⟨W1, hW1⟩ : ∃ W1, (W0.alloc (.deferred (some []))).alloc (.loop (apRecN fn (.func (.func g) #[] lb) w.heap.size W0.heap.size .ready none)) = W1 := ⟨_, rfl⟩
  have hold : ∀ k, k < W0.heap.size → W1.heap[k]? = W0.heap[k]? := fun k hk => by
    rw [← hW1]; exact (Below.heap_alloc _ _ k (by simp; omega)).trans (Below.heap_alloc _ _ k hk)
  have hb1 : Below w.heap.size w W1 := by rw [← hW1]; exact (hb0.alloc hb0.size _).alloc (by have := hb0.size; simp; omega) _
  have hs1 : W1.heap.size = W0.heap.size + 2 := by rw [← hW1]; simp
  have hM : ApN w fn (.func (.func g) #[] lb) w.heap.size (W0.heap.size + 1) W0.heap.size [] W1 :=
    ⟨⟨_, (hold w.heap.size (by omega)).trans hv0, ⟨rfl, .inl ⟨rfl, rfl⟩⟩⟩,
     by rw [← hW1]; have := World.alloc_heap_new (W0.alloc (.deferred (some []))) (.loop (apRecN fn (.func (.func g) #[] lb) w.heap.size W0.heap.size .ready none)); rwa [World.size_alloc] at this,
     by rw [← hW1]; exact (Below.heap_alloc _ _ _ (by simp)).trans (World.alloc_heap_new W0 _), hb1⟩
  refine ⟨W0.heap.size + 1, [{ target := .collected W0.heap.size, args := #[] }], W1, { target := .fn (.func g) lb, args := #[.func (.yield (W0.heap.size + 1)) #[] #[]] }, W1, g,
    #[.func (.yield (W0.heap.size + 1)) #[] #[]] ++ lb, W1, ?_, ?_, ?_, ?_, fun _ => h1, ?_⟩
  · rw [← hW1]; exact run_enterLoop_outer _ _ _ _ _
  · simp [resolve, go_sem]
  · intro f' hf'; simp [Target.leads] at hf'; subst hf'; exact hFg
  · simp [invoke, go_sem, eg]
  · refine (hseq (W0.heap.size + 1) (ApN w fn (.func (.func g) #[] lb) w.heap.size (W0.heap.size + 1) W0.heap.size) W1 hb1 (ap_abides _ _ _ _ _ _ _ hb1.size) (fun s W o h => ap_alloc h o)
      (fun pre x W hJ _ hl => apYieldN F (n - 1 - 1) w fn hfn _ w.heap.size (W0.heap.size + 1) W0.heap.size (by omega) (by omega) (by omega) (Nat.le_refl _) (by omega) pre x W hJ hl) hM).mono ?_
    rintro e W2 ⟨⟨v0, rfl⟩, ss, hS, h2⟩
    obtain ⟨v, hv, hrow⟩ := h2.box
    have hend := run_endLoop (P := Tryz.prog) h2.L (by simp [apRecN])
    obtain ⟨W3, hW3⟩ : ∃ W3, W2.putObj (W0.heap.size + 1) (.loop { apRecN fn (.func (.func g) #[] lb) w.heap.size W0.heap.size .ready none with state := .exhausted }) = W3 := ⟨_, rfl⟩
    rw [hW3] at hend
    have hg3 : W2.grownBy W3 (some (W0.heap.size + 1)) := by rw [← hW3]; exact put_grown _ _ _
    have hv3 : W3.heap[w.heap.size]? = some (.cells #[v] 44 (0, 0)) := by rw [← hW3]; exact (World.putObj_heap_other (by omega)).trans hv
    have hK3 : W3.heap[W0.heap.size]? = some (.deferred (some [])) := by rw [← hW3]; exact (World.putObj_heap_other (by omega)).trans h2.K
    have hrow3 := hrow.kept hg3 (row_ne hrow h2.L (fun cur e => by cases e))
    have hb3 : Below w.heap.size w W3 := h2.below.grown hg3 h2.below.size (fun k e => by cases e; omega)
    obtain ⟨hc3, hf3⟩ := box_cell hv3
    clear hW3
    refine ⟨none, W3, hend, ?_⟩
    gi_wp2
    rw [← hs0]
    refine ⟨by simp, .inl ⟨_, _, rfl, run_takeDeferred hK3, ?_⟩⟩
    exact ⟨_, results_tmp rfl _ _ _, v, ss, rfl, hS, hrow3.kept (put_grown _ _ _) (row_ne hrow3 hK3 (fun cur e => by cases e)), hb3.grown (put_grown _ _ _) hb3.size (fun k e => by cases e; omega)⟩
set_option maxRecDepth 100000 in
set_option maxHeartbeats 2000000 in
theorem collectN_calls (Bm b nn : Nat) (D0 : DataW Unit) (m : List (S34 × Int)) (hm0 : CntM D0 m) (hsz : Maps.size D0 ≤ 4294967296) (w : World) (hBm : Bm < w.heap.size) (hm : w.cell? ⟨Bm, 0, none⟩ = some (.map (some b))) (hown : w.ownsMap Tryz.prog 34 (plainElem Tryz.prog 3) b nn D0) :
    Calls Tryz.prog 94 #[.func (.func 96) #[] #[.pointer (some ⟨Bm, 0, none⟩)]] w fun e w' => ∃ (v : Value) (ss : List S34), e = .returned v ∧ (ss.Nodup ∧ (∀ x ∈ ss, NS x) ∧ ∀ x, NS x → (x ∈ ss ↔ (lookC m x).isSome = true)) ∧ Kd.R k34 34 w' w.heap.size (fun _ => True) v ss ∧ Below w.heap.size w w' := by
  refine (callsIn_wide (n := 6)).1 ?_
  have hfA : Fence.wide.fn 108 := trivial
  have cA := appendSeqN_in Fence.wide 5 trivial rfl (by omega) 96 #[.pointer (some ⟨Bm, 0, none⟩)] trivial (enters_of Tryz.func96 (by kernel_rfl) rfl) _ w (fun l J W hW hJ hJa hY h0 => by
    have hown' : W.ownsMap Tryz.prog 34 (plainElem Tryz.prog 3) b nn D0 := by
      have hbl := hown.lt
      obtain ⟨es, clock, hb, Ft, hs, hD⟩ := hown
      exact ⟨es, clock, (hW.block b hbl).trans hb, Ft, hs, hD⟩
    exact keysN_in Fence.wide 4 trivial rfl (by omega) l Bm b nn D0 m hm0 J (fun pre x W1 h hx hl => hY pre x W1 h hx (Nat.lt_of_lt_of_le hl hsz)) W hJ hJa ((hW.cell (p := ⟨Bm, 0, none⟩) hBm).trans hm) hown' h0)
  refine callsIn_of_wp Tryz.func94 rfl trivial ?_ rfl
  simp only [Tryz.ntmps94, List.size_toArray, List.length_cons, List.length_nil, Nat.reduceAdd, Nat.reduceSub, Array.replicate_succ, Array.replicate_zero, List.push_toArray, List.append_toArray, List.nil_append, List.cons_append]
  gi_wp2_with (gi_at_call 108; refine cA.mono ?_; rintro e w' ⟨v, ss, rfl, hS, hrow, hb⟩)
  go_ret
  exact ⟨v, ss, rfl, hS, R_of_cells hrow (fun _ _ => trivial), hb⟩
end Go.Proofs.YtohdmmafjpjmfaaGreatDoor.Q
end
