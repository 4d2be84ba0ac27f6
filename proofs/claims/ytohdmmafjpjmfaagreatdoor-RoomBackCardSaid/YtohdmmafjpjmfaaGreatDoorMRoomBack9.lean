/- Part 9 of this claim: several texts one behind the other: NDef, LOne, LRd, LFew, NMayV, NOrd, PSet, NAhead, NSets, NKey, NCnt, Sort, NSort, NSortD, EChk, NCells, Lit, Step, NConcat, EvConcat. What each shows stands in its theorems; conditions: sizes of texts and lists, as the functions' definitions say. -/
import Derived.Test.YtohdmmafjpjmfaaGreatDoorMRoomBack8
import Derived.Test.YtohdmmafjpjmfaaGreatDoorMRoomBack2
import Derived.Test.YtohdmmafjpjmfaaGreatDoorMRoomBack3
import Derived.RegionTactic
import Derived.BigRegion
import Derived.Deep.QuietTactic
import Derived.BigQuiet
import Derived.Deep.RegionHeld3
import Derived.ChangeAlike
import Derived.Maps.OwnSet
import Derived.Maps.AppendAt
import Derived.DeepKeys4
import Derived.Maps.OwnOps
import Derived.Maps.Range
import Derived.Sort.KeysCollected
import Derived.Shelf.SlSortCmp.NoneTotal
import Derived.Ground.SlsfProg
import Derived.Test.YtohdmmafjpjmfaaGreatDoorProg
import Derived.Test.YtohdmmafjpjmfaaGreatDoorMRoomBack6
section
namespace Go.Proofs.YtohdmmafjpjmfaaGreatDoor.Q
open Go.Proofs.YtohdmmafjpjmfaaGreatDoor.QB.D
open Go Go.RowKit Go.Lib Go.Proofs.YtohdmmafjpjmfaaGreatDoorW.PrintWords Go.Proofs.YtohdmmafjpjmfaaGreatDoorW.PrintLast Go.Proofs.YtohdmmafjpjmfaaGreatDoorW.PrintMore Gw
set_option linter.unusedVariables false
set_option linter.unusedSimpArgs false
abbrev GoodN (x : S34) : Prop := Tiny x.f0 ∧ Tiny x.f1 ∧ isVersion (bs x.f1) = true
def np (x : S34) : NP := (bs x.f0, bs x.f1)
theorem np_inj {x y : S34} (h : np x = np y) : x = y := by
  cases x; cases y
  simp only [np, Prod.mk.injEq] at h
  rw [bs_inj h.1, bs_inj h.2]
def ordN (x y : S34) : Int := nodC (np x) (np y)
theorem ordN_to : TO GoodN ordN := by
  have h := nodC_to
  refine ⟨fun a b => h.tri _ _, fun a b ha hb => h.sym _ _ ha.2.2 hb.2.2, fun a b ha hb => ?_, fun a b d ha hb hd => h.tr _ _ _ ha.2.2 hb.2.2 hd.2.2⟩
  show nodC _ _ = 0 ↔ _
  rw [h.eq _ _ ha.2.2 hb.2.2]
  exact ⟨np_inj, fun e => by rw [e]⟩
theorem vparts_of {s : ByteArray} (h : isVersion (bs s) = true) : vparts (bs s) = some (vOf (bs s)) := by
  rw [← vparts_some] at h
  obtain ⟨v, hv⟩ := Option.isSome_iff_exists.1 h
  unfold vOf
  rw [hv]
  rfl
instance : DecidableEq S34 := fun a b => if h : a.f0 = b.f0 ∧ a.f1 = b.f1 then isTrue (by cases a; cases b; simp at h; rw [h.1, h.2]) else isFalse (fun e => h (by subst e; exact ⟨rfl, rfl⟩))
abbrev TinyN (x : S34) : Prop := Tiny x.f0 ∧ Tiny x.f1
def mayN (x : S34) : Bool := isNode (np x)
theorem mayN_good {x : S34} (hx : TinyN x) (hm : mayN x = true) : GoodN x := by
  unfold mayN isNode np at hm
  rw [Bool.and_eq_true] at hm
  exact ⟨hx.1, hx.2, hm.2⟩
def few (s : ByteArray) : ByteArray := if (s.size : Int) > 400 then s.extract 0 400 else s
theorem few_size (s : ByteArray) : (few s).size ≤ 400 := by
  unfold few
  split
  · rw [ByteArray.size_extract]; omega
  · omega
abbrev Brief (x : S34) : Prop := x.f0.size ≤ 400 ∧ x.f1.size ≤ 400
theorem Brief.tiny {x : S34} (h : Brief x) : TinyN x := by unfold TinyN Tiny; omega
def oneN (x : S34) : S34 := ⟨few x.f0, few x.f1⟩
theorem oneN_brief (x : S34) : Brief (oneN x) := ⟨few_size _, few_size _⟩
def fewN (l : List S34) : List S34 := (l.take 24).map oneN
theorem fewN_len (l : List S34) : (fewN l).length ≤ 24 := by unfold fewN; rw [List.length_map, List.length_take]; omega
theorem fewN_brief (l : List S34) : ∀ x ∈ fewN l, Brief x := fun x hx => by
  obtain ⟨y, _, rfl⟩ := List.mem_map.1 hx
  exact oneN_brief y
theorem elements_from (s : ByteArray) (hs : Tiny s) : ∀ (k i : Nat), ((parts 47 (bs s)).map ofB).length ≤ i + k → i ≤ ((parts 47 (bs s)).map ofB).length →
    path_Elements.l0 (k + 1) ((parts 47 (bs s)).map ofB) ((parts 47 (bs s)).map ofB) (((parts 47 (bs s)).map ofB).length : Int) (i : Int) = some (if ((parts 47 (bs s)).drop i).all isElem then ((parts 47 (bs s)).map ofB, 0) else ([], 1)) := by
  have hsm : Small s := by unfold Tiny at hs; unfold Small; omega
  obtain ⟨hl, hx⟩ := parts_small hsm 47
  have hlen : ((parts 47 (bs s)).map ofB).length = (parts 47 (bs s)).length := List.length_map _
  have hall : ∀ (i : Nat) (hi : i < (parts 47 (bs s)).length), path_element.f (((parts 47 (bs s)).map ofB)[i]'(by rw [hlen]; exact hi)) = some (isElem (parts 47 (bs s))[i]) := by
    intro i hi
    have h2 := hx (((parts 47 (bs s)).map ofB)[i]'(by rw [hlen]; exact hi)) (List.getElem_mem _)
    unfold path_element.f
    rw [if_pos (by unfold Tiny at *; omega), List.getElem_map, bs_ofB (parts_oct (bs_oct s) _ (List.getElem_mem hi))]
  intro k
  induction k with
  | zero =>
    intro i h1 h2
    have e : i = (parts 47 (bs s)).length := by omega
    subst e
    unfold path_Elements.l0
    rw [if_neg (by omega), List.drop_length]
    rfl
  | succ k ih =>
    intro i h1 h2
    unfold path_Elements.l0
    by_cases hi : i < (parts 47 (bs s)).length
    · rw [if_pos (by omega), if_pos (by omega), if_pos (by omega)]
      have hr : rdOf ByteArray.empty ((parts 47 (bs s)).map ofB) (i : Int) = ((parts 47 (bs s)).map ofB)[i]'(by rw [hlen]; exact hi) := by
        simp [rdOf, List.getD_eq_getElem?_getD, List.getElem?_eq_getElem hi]
      rw [hr, hall i hi, List.drop_eq_getElem_cons hi, List.all_cons, Option.bind_some]
      cases he : isElem (parts 47 (bs s))[i]
      · rfl
      · rw [if_pos rfl, Bool.true_and, show wrap64 ((i : Int) + 1) = ((i + 1 : Nat) : Int) by unfold wrap64; unfold Tiny at hs; omega]
        exact ih (i + 1) (by omega) (by omega)
    · have e : i = (parts 47 (bs s)).length := by omega
      rw [if_neg (by omega), List.drop_eq_nil_of_le (by omega)]
      rfl
theorem path_May_val (k : Nat) (s : ByteArray) (hs : Tiny s) (hk : s.size + 2 ≤ k) : path_May.f k s = some (isPath (bs s)) := by
  obtain ⟨j, rfl⟩ : ∃ j, k = j + 1 := ⟨k - 1, by omega⟩
  have hl := parts_len s 47
  unfold path_May.f path_Elements.f octet_Parts.f
  rw [if_pos ⟨hs, by decide, by decide⟩, Option.bind_some]
  have h := elements_from s hs j 0 (by omega) (Nat.zero_le _)
  rw [show (47 : Int).toNat = 47 from rfl, show ((0 : Nat) : Int) = 0 from rfl] at *
  rw [h, Option.bind_some, List.drop_zero]
  unfold isPath
  cases (parts 47 (bs s)).all isElem <;> rfl
theorem version_May_val (s : ByteArray) (hs : Tiny s) : version_May.f s = some (isVersion (bs s)) := by
  unfold version_May.f version_Split.f
  rw [if_pos hs, Option.bind_some, ← vparts_some]
  cases vparts (bs s) <;> rfl
theorem node_May_val (k : Nat) (x : S34) (hx : TinyN x) (hk : x.f0.size + 2 ≤ k) : node_May.f k x.f0 x.f1 = some (mayN x) := by
  unfold node_May.f
  rw [path_May_val k _ hx.1 hk, version_May_val _ hx.2]
  show _ = some (isPath (bs x.f0) && isVersion (bs x.f1))
  cases isPath (bs x.f0) <;> rfl
theorem order_val (k : Nat) (x y : S34) (hx : GoodN x) (hy : GoodN y) : node_order.f (k + 3) x.f0 x.f1 y.f0 y.f1 = some (ordN x y) := by
  unfold node_order.f
  by_cases h : (x.f0.toList == y.f0.toList && x.f1.toList == y.f1.toList) = true
  · rw [if_pos h]
    rw [str_eq, str_eq, Bool.and_eq_true, decide_eq_true_eq, decide_eq_true_eq] at h
    have e : x = y := by cases x; cases y; simp only at h; rw [h.1, h.2]
    subst e
    exact congrArg some ((ordN_to.eq x x hx hx).2 rfl).symm
  · rw [if_neg h]
    have hv : version_Cmp.f x.f1 y.f1 = some (verC (vOf (bs x.f1)) (vOf (bs y.f1)), 0) := by
      unfold version_Cmp.f
      rw [if_pos ⟨hx.2.1, hy.2.1⟩, vparts_of hx.2.2, vparts_of hy.2.2]
      rfl
    rw [hv, octcmp_val]
    simp only [Option.bind_some]
    rw [or2_val]
    rfl
def insN (x : S34) : List S34 → List S34
  | [] => [x]
  | y :: r => if ordN x y ≤ 0 then x :: y :: r else y :: insN x r
def sortN (l : List S34) : List S34 := l.foldr insN []
theorem insN_perm (x : S34) : ∀ l, (insN x l).Perm (x :: l)
  | [] => List.Perm.refl _
  | y :: r => by
    unfold insN
    split
    · exact List.Perm.refl _
    · exact ((insN_perm x r).cons y).trans (List.Perm.swap x y r)
theorem sortN_perm : ∀ l, (sortN l).Perm l
  | [] => List.Perm.refl _
  | x :: l => (insN_perm x _).trans ((sortN_perm l).cons x)
theorem insN_sorted (x : S34) (hx : GoodN x) : ∀ l, (∀ y ∈ l, GoodN y) → l.Pairwise (fun x y => ordN x y ≤ 0) → (insN x l).Pairwise (fun x y => ordN x y ≤ 0)
  | [], _, _ => List.pairwise_singleton _ _
  | y :: r, hg, hp => by
    have gy := hg y List.mem_cons_self
    rw [List.pairwise_cons] at hp
    unfold insN
    split
    · rename_i h
      refine List.pairwise_cons.2 ⟨fun z hz => ?_, List.pairwise_cons.2 hp⟩
      rcases List.mem_cons.1 hz with rfl | hz
      · exact h
      · exact (ordN_to.le x y z hx gy (hg z (List.mem_cons_of_mem _ hz)) h (hp.1 z hz)).1
    · rename_i h
      refine List.pairwise_cons.2 ⟨fun z hz => ?_, insN_sorted x hx r (fun z hz => hg z (List.mem_cons_of_mem _ hz)) hp.2⟩
      rcases List.mem_cons.1 ((insN_perm x r).mem_iff.1 hz) with rfl | hz
      · have := ordN_to.sym z y hx gy
        omega
      · exact hp.1 z hz
theorem sortN_sorted : ∀ l, (∀ y ∈ l, GoodN y) → (sortN l).Pairwise (fun x y => ordN x y ≤ 0)
  | [], _ => List.Pairwise.nil
  | x :: l, hg => insN_sorted x (hg x List.mem_cons_self) _ (fun y hy => hg y (List.mem_cons_of_mem _ ((sortN_perm l).mem_iff.1 hy))) (sortN_sorted l (fun y hy => hg y (List.mem_cons_of_mem _ hy)))
def chk : Option S34 → List S34 → Bool
  | _, [] => true
  | p, x :: r => mayN x && (match p with | none => true | some q => decide (ordN q x < 0)) && chk (some x) r
def checkN (l : List S34) : Bool := chk none l
def ahead (l : List S34) (t : S34) : Nat := (l.filter (fun x => decide (ordN x t < 0))).length
structure IsSet (l : List S34) : Prop where
  good : ∀ x ∈ l, GoodN x
  may : ∀ x ∈ l, mayN x = true
  lt : l.Pairwise (fun x y => ordN x y < 0)
theorem ordN_self {x : S34} (h : GoodN x) : ordN x x = 0 := (ordN_to.eq x x h h).2 rfl
theorem ordN_ne {x y : S34} (hx : GoodN x) (h : ordN x y < 0) : x ≠ y := fun e => by
  subst e
  rw [ordN_self hx] at h
  omega
theorem IsSet.nodup {l : List S34} (h : IsSet l) : l.Nodup := List.Pairwise.imp_of_mem (fun hx _ hxy => ordN_ne (h.good _ hx) hxy) h.lt
theorem IsSet.nil : IsSet [] := ⟨fun x h => by (cases h), fun x h => by (cases h), List.Pairwise.nil⟩
theorem IsSet.tail {x : S34} {l : List S34} (h : IsSet (x :: l)) : IsSet l := ⟨fun y hy => h.good y (List.mem_cons_of_mem _ hy), fun y hy => h.may y (List.mem_cons_of_mem _ hy), (List.pairwise_cons.1 h.lt).2⟩
theorem IsSet.ext : ∀ {l m : List S34}, IsSet l → IsSet m → (∀ x, x ∈ l ↔ x ∈ m) → l = m
  | [], [], _, _, _ => rfl
  | [], y :: m, _, _, h => absurd ((h y).2 List.mem_cons_self) (by simp)
  | x :: l, [], _, _, h => absurd ((h x).1 List.mem_cons_self) (by simp)
  | x :: l, y :: m, hl, hm, h => by
    have gx := hl.good x List.mem_cons_self
    have gy := hm.good y List.mem_cons_self
    have e : x = y := by
      rcases List.mem_cons.1 ((h x).1 List.mem_cons_self) with e | e
      · exact e
      · rcases List.mem_cons.1 ((h y).2 List.mem_cons_self) with e2 | e2
        · exact e2.symm
        · have h1 := (List.pairwise_cons.1 hm.lt).1 x e
          have h2 := (List.pairwise_cons.1 hl.lt).1 y e2
          have := ordN_to.sym x y gx gy
          omega
    subst e
    have hx1 : x ∉ l := (List.nodup_cons.1 hl.nodup).1
    have hx2 : x ∉ m := (List.nodup_cons.1 hm.nodup).1
    rw [IsSet.ext hl.tail hm.tail (fun z => ⟨fun hz => by
      rcases List.mem_cons.1 ((h z).1 (List.mem_cons_of_mem _ hz)) with e | e
      · subst e; exact absurd hz hx1
      · exact e, fun hz => by
      rcases List.mem_cons.1 ((h z).2 (List.mem_cons_of_mem _ hz)) with e | e
      · subst e; exact absurd hz hx2
      · exact e⟩)]
theorem IsSet.filter {l : List S34} (h : IsSet l) (p : S34 → Bool) : IsSet (l.filter p) :=
  ⟨fun x hx => h.good x (List.mem_filter.1 hx).1, fun x hx => h.may x (List.mem_filter.1 hx).1, h.lt.filter p⟩
theorem chk_of : ∀ (l : List S34) (p : Option S34), (∀ x ∈ l, mayN x = true) → l.Pairwise (fun x y => ordN x y < 0) → (∀ q, p = some q → ∀ x ∈ l, ordN q x < 0) → chk p l = true
  | [], p, _, _, _ => by cases p <;> rfl
  | x :: r, p, hm, hs, hp => by
    rw [List.pairwise_cons] at hs
    simp only [chk, Bool.and_eq_true]
    refine ⟨⟨hm x List.mem_cons_self, ?_⟩, chk_of r (some x) (fun y hy => hm y (List.mem_cons_of_mem _ hy)) hs.2 (fun q e y hy => by injection e with e; rw [← e]; exact hs.1 y hy)⟩
    cases p with
    | none => rfl
    | some q => exact decide_eq_true (hp q rfl x List.mem_cons_self)
theorem IsSet.check {l : List S34} (h : IsSet l) : checkN l = true := chk_of l none h.may h.lt (fun q e => by cases e)
end Go.Proofs.YtohdmmafjpjmfaaGreatDoor.Q
end
section
namespace Go.Proofs.YtohdmmafjpjmfaaGreatDoor.Q
open Go.Proofs.YtohdmmafjpjmfaaGreatDoor.QB.D
open Go Go.RowKit Go.Maps Go.Lib Go.Proofs.YtohdmmafjpjmfaaGreatDoorW.PrintWords Go.Proofs.YtohdmmafjpjmfaaGreatDoorW.PrintLast Go.Proofs.YtohdmmafjpjmfaaGreatDoorW.PrintMore Gw
set_option linter.unusedVariables false
set_option linter.unusedSimpArgs false
set_option maxRecDepth 100000
theorem laid_all : laidOutB Tryz.prog = true := by kernel_rfl
theorem keyt_node : Tryz.prog.keyTypeAt 3 34 = true := by kernel_rfl
theorem keyr_node : 34 < Tryz.prog.types.size := Nat.le_of_ble_eq_true (by kernel_rfl)
theorem wide_node : (match Tryz.prog.underlying 34 with | some (.array _ _) | some (.struct _) => true | _ => false) = true := by kernel_rfl
theorem law_node : Keyed Tryz.prog 34 := Keyed.of_law (deep_law_laid laid_all (m := 3) (by omega) keyr_node keyt_node wide_node)
def nkey (x : S34) : Lit := .string (keyBytes [.string x.f0.data.toList, .string x.f1.data.toList])
theorem keyOf_node (x : S34) (hs : x.f0.size ≤ maxLen) (ht : x.f1.size ≤ maxLen) : keyOf Tryz.prog 34 (.agg #[.string x.f0, .string x.f1]) = some (nkey x) := by
  unfold keyOf
  rw [Tryz.underlying34]
  have h1 : Tryz.prog.keyType 34 = true := by kernel_rfl
  have h2 : Tryz.prog.cellsOf 34 = 2 := by kernel_rfl
  have h3 : Tryz.prog.cellsOf 9 = 1 := by kernel_rfl
  obtain ⟨m, h4⟩ : ∃ m, Tryz.prog.types.size = m + 1 := ⟨Tryz.prog.types.size - 1, by have := keyr_node; omega⟩
  have u9 := Tryz.underlying9
  rw [h4]
  simp [h1, Value.formed, Tryz.underlying34, h2, Program.keyLits, h3, u9, Value.cells, hs, ht, nkey]
abbrev NS (x : S34) : Prop := x.f0.size ≤ maxLen ∧ x.f1.size ≤ maxLen
theorem nkey_inj {x y : S34} (hx : NS x) (hy : NS y) : nkey x = nkey y ↔ x = y := by
  refine ⟨fun h => ?_, fun h => by rw [h]⟩
  have e1 := keyOf_node x hx.1 hx.2
  have e2 := keyOf_node y hy.1 hy.2
  rw [← h] at e2
  have e := keyOf_inj_deep (tiled_of_laidOut laid_all 3 _ (by
    simp only [isVar, Bool.and_eq_true, decide_eq_true_eq]
    refine ⟨keyr_node, ?_⟩
    simp [Tryz.underlying34, kindOk]) keyt_node) wide_node e1 e2
  simp only [Value.agg.injEq] at e
  cases x; cases y
  simpa using e
theorem nkey_lit (x : S34) : WideAt.IsKeyLit (nkey x) := by unfold nkey; simp [WideAt.IsKeyLit]
theorem keyOf_node_inv {key : Value} {kl : Lit} (h : keyOf Tryz.prog 34 key = some kl) : ∃ x : S34, key = .agg #[.string x.f0, .string x.f1] ∧ NS x ∧ kl = nkey x := by
  have h0 := h
  unfold keyOf at h
  rw [Tryz.underlying34] at h
  have h2 : Tryz.prog.cellsOf 34 = 2 := by kernel_rfl
  have h3 : Tryz.prog.cellsOf 9 = 1 := by kernel_rfl
  obtain ⟨m, h4⟩ : ∃ m, Tryz.prog.types.size = m + 1 := ⟨Tryz.prog.types.size - 1, by have := keyr_node; omega⟩
  have u9 := Tryz.underlying9
  simp only [] at h
  split at h
  · rename_i hf
    rw [Option.map_eq_some_iff] at h
    obtain ⟨ls, hls, hk⟩ := h
    have hfm := ((Bool.and_eq_true _ _).mp hf).2
    cases key with
    | agg cs =>
      have hsz : cs.size = 2 := by simpa [Value.formed, Tryz.underlying34, h2] using hfm
      obtain ⟨a, b, rfl⟩ : ∃ a b, cs = #[a, b] := ⟨cs[0], cs[1], by apply Array.ext_getElem?; intro i; match i with
        | 0 => simp [hsz]
        | 1 => simp [hsz]
        | i + 2 => simp [hsz]⟩
      have hab : ∃ s t : ByteArray, a = .string s ∧ b = .string t ∧ s.size ≤ maxLen ∧ t.size ≤ maxLen := by
        rw [h4] at hls
        simp [Program.keyLits, Tryz.underlying34, h2, h3, u9, Value.cells] at hls
        have ha : ∃ s : ByteArray, a = .string s ∧ s.size ≤ maxLen := by
          cases a with
          | string s =>
            by_cases h : s.size ≤ maxLen
            · exact ⟨s, rfl, h⟩
            · simp [h] at hls
          | _ => simp at hls
        obtain ⟨s, rfl, h5⟩ := ha
        simp [h5] at hls
        have hb : ∃ s : ByteArray, b = .string s ∧ s.size ≤ maxLen := by
          cases b with
          | string s =>
            by_cases h : s.size ≤ maxLen
            · exact ⟨s, rfl, h⟩
            · simp [h] at hls
          | _ => simp at hls
        obtain ⟨t, rfl, h6⟩ := hb
        exact ⟨s, t, rfl, rfl, h5, h6⟩
      obtain ⟨s, t, rfl, rfl, h5, h6⟩ := hab
      refine ⟨⟨s, t⟩, rfl, ⟨h5, h6⟩, ?_⟩
      have := keyOf_node ⟨s, t⟩ h5 h6
      rw [this] at h0
      exact (Option.some.inj h0).symm
    | _ => simp [Value.formed, Tryz.underlying34] at hfm
  · cases h
def lookC (m : List (S34 × Int)) (x : S34) : Option Int := (m.find? (fun p => decide (p.1 = x))).map (·.2)
def putC : List (S34 × Int) → S34 → Int → List (S34 × Int)
  | [], x, v => [(x, v)]
  | p :: r, x, v => if p.1 = x then (x, v) :: r else p :: putC r x v
theorem lookC_put (m : List (S34 × Int)) (x y : S34) (v : Int) : lookC (putC m x v) y = if y = x then some v else lookC m y := by
  induction m with
  | nil =>
    unfold putC lookC
    by_cases e : x = y
    · subst e; simp
    · rw [if_neg (fun h => e h.symm)]; simp [e]
  | cons p r ih =>
    unfold putC
    split
    · rename_i hp
      unfold lookC
      by_cases e : x = y
      · subst e; simp
      · rw [if_neg (fun h => e h.symm)]
        simp only [List.find?_cons]
        rw [decide_eq_false e, decide_eq_false (fun h => e (hp.symm.trans h))]
    · rename_i hp
      by_cases e : p.1 = y
      · subst e
        rw [if_neg (fun h => hp h)]
        unfold lookC
        simp
      · unfold lookC at ih ⊢
        simp only [List.find?_cons]
        rw [decide_eq_false e]
        exact ih
theorem putC_len (m : List (S34 × Int)) (x : S34) (v : Int) : (putC m x v).length = if (lookC m x).isSome then m.length else m.length + 1 := by
  induction m with
  | nil => rfl
  | cons p r ih =>
    unfold putC
    split
    · rename_i hp
      have : lookC (p :: r) x = some p.2 := by unfold lookC; simp [hp]
      rw [this]; rfl
    · rename_i hp
      have : lookC (p :: r) x = lookC r x := by unfold lookC; simp only [List.find?_cons]; rw [decide_eq_false hp]
      rw [this, List.length_cons, ih]
      split <;> rfl
structure CntM (D : DataW Unit) (m : List (S34 × Int)) : Prop where
  map : IsMap D
  has : ∀ y, NS y → Maps.has D (nkey y) = (lookC m y).isSome
  at_ : ∀ y, NS y → D.atKey (nkey y) (.lit (.int .i64 0)) = .lit (.int .i64 ((lookC m y).getD 0))
theorem CntM.none : CntM (.map []) [] := ⟨isMap_empty, fun y _ => by simp [Maps.has, lookC], fun y _ => by simp [DataW.atKey, lookC]⟩
theorem CntM.put {D : DataW Unit} {m : List (S34 × Int)} (h : CntM D m) (x : S34) (hx : NS x) (v : Int) : CntM (D.put (nkey x) (.lit (.int .i64 v))) (putC m x v) := by
  refine ⟨h.map.put _ _, fun y hy => ?_, fun y hy => ?_⟩
  · rw [lookC_put]
    by_cases e : y = x
    · subst e
      rw [has_put_same h.map (nkey_lit _), if_pos rfl]; rfl
    · rw [has_put_other (fun h2 => e ((nkey_inj hy hx).1 h2)), h.has y hy, if_neg e]
  · rw [lookC_put]
    by_cases e : y = x
    · subst e
      rw [atKey_put_same h.map (nkey_lit _), if_pos rfl]; rfl
    · rw [atKey_put_other (fun h2 => e ((nkey_inj hy hx).1 h2)), h.at_ y hy, if_neg e]
structure ColN (D0 : DataW Unit) (left : Lit → Bool) (ss : List S34) : Prop where
  nodup : ss.Nodup
  ns : ∀ x ∈ ss, NS x
  mem : ∀ x, NS x → (x ∈ ss ↔ (Maps.has D0 (nkey x) = true ∧ left (nkey x) = false))
theorem ColN.start (D0 : DataW Unit) : ColN D0 (Maps.has D0) [] := ⟨List.nodup_nil, fun x h => (by cases h), fun x _ => by cases Maps.has D0 (nkey x) <;> simp⟩
theorem nkey_same {x y : S34} (hx : NS x) (hy : NS y) : (nkey y).sameKey (nkey x) = decide (y = x) := by
  by_cases e : y = x
  · subst e; unfold nkey; simp [Lit.sameKey]
  · have h : nkey y ≠ nkey x := fun h => e ((nkey_inj hy hx).1 h)
    rw [decide_eq_false e]
    unfold nkey at h ⊢
    simp only [ne_eq, Lit.string.injEq] at h
    simp [Lit.sameKey, h]
theorem ColN.step {D0 : DataW Unit} {left : Lit → Bool} {ss : List S34} (h : ColN D0 left ss) {x : S34} (hx : NS x) {y : DataW Unit} (hlk : left (nkey x) = true) (hat : ∀ zd, D0.atKey (nkey x) zd = y) :
    ColN D0 (fun z => left z && !z.sameKey (nkey x)) (ss ++ [x]) := by
  have hhas : Maps.has D0 (nkey x) = true := has_true_of_atKey hat
  have hnew : x ∉ ss := fun hm => by have := ((h.mem x hx).1 hm).2; rw [hlk] at this; cases this
  refine ⟨List.nodup_append.2 ⟨h.nodup, by simp, fun a ha b hb => by simp at hb; subst hb; exact fun e => hnew (e ▸ ha)⟩, fun z hz => ?_, fun z hz => ?_⟩
  · rcases List.mem_append.1 hz with e | e
    · exact h.ns z e
    · rw [List.mem_singleton] at e; subst e; exact hx
  · rw [nkey_same hx hz, List.mem_append, List.mem_singleton, h.mem z hz]
    by_cases e : z = x
    · subst e; simp [hhas]
    · simp [e]
theorem ColN.all {D0 : DataW Unit} {left : Lit → Bool} {ss : List S34} {m : List (S34 × Int)} (h : ColN D0 left ss) (hm : CntM D0 m) (hl : ∀ kl, left kl = false) : ss.Nodup ∧ (∀ x ∈ ss, NS x) ∧ ∀ x, NS x → (x ∈ ss ↔ (lookC m x).isSome = true) :=
  ⟨h.nodup, h.ns, fun x hx => by rw [h.mem x hx, hm.has x hx, hl]; simp⟩
end Go.Proofs.YtohdmmafjpjmfaaGreatDoor.Q
end
section
namespace Go.Proofs
open Go.Shelf
def Tryz.sortNode_ren : Go.Shelf.Ren := ⟨fun | 6 => 95 | 15 => 110 | 14 => 109 | 28 => 127 | 29 => 128 | 20 => 119 | 21 => 120 | 22 => 121 | 23 => 122 | 24 => 123 | 25 => 124 | 26 => 125 | 27 => 126 | 46 => 140 | 47 => 141 | 48 => 142 | 49 => 143 | 50 => 144 | 57 => 152 | n => n, fun | 22 => 44 | 24 => 34 | 25 => 73 | 3 => 3 | 39 => 127 | 0 => 0 | 53 => 141 | 55 => 143 | 4 => 4 | 46 => 134 | 45 => 133 | 50 => 138 | 5 => 5 | 9 => 9 | 66 => 154 | 70 => 158 | 76 => 167 | 77 => 168 | n => n, fun | n => n⟩
theorem Tryz.sortNode : Go.Proofs.SlLaysF0.n6 Tryz.prog Tryz.sortNode_ren := {
  mixed := by kernel_rfl
  f6 := ⟨Tryz.f95.name, by decide, Tryz.func95.trans (congrArg some (by kernel_rfl))⟩
  f14 := ⟨Tryz.f109.name, by decide, Tryz.func109.trans (congrArg some (by kernel_rfl))⟩
  f15 := Tryz.func110.trans (congrArg some (by kernel_rfl))
  f20 := ⟨Tryz.f119.name, by decide, Tryz.func119.trans (congrArg some (by kernel_rfl))⟩
  f21 := ⟨Tryz.f120.name, by decide, Tryz.func120.trans (congrArg some (by kernel_rfl))⟩
  f22 := ⟨Tryz.f121.name, by decide, Tryz.func121.trans (congrArg some (by kernel_rfl))⟩
  f23 := ⟨Tryz.f122.name, by decide, Tryz.func122.trans (congrArg some (by kernel_rfl))⟩
  f24 := ⟨Tryz.f123.name, by decide, Tryz.func123.trans (congrArg some (by kernel_rfl))⟩
  f25 := ⟨Tryz.f124.name, by decide, Tryz.func124.trans (congrArg some (by kernel_rfl))⟩
  f26 := ⟨Tryz.f125.name, by decide, Tryz.func125.trans (congrArg some (by kernel_rfl))⟩
  f27 := ⟨Tryz.f126.name, by decide, Tryz.func126.trans (congrArg some (by kernel_rfl))⟩
  f28 := Tryz.func127.trans (congrArg some (by kernel_rfl))
  f29 := Tryz.func128.trans (congrArg some (by kernel_rfl))
  f46 := ⟨Tryz.f140.name, by decide, Tryz.func140.trans (congrArg some (by kernel_rfl))⟩
  f47 := Tryz.func141.trans (congrArg some (by kernel_rfl))
  f48 := Tryz.func142.trans (congrArg some (by kernel_rfl))
  f49 := ⟨Tryz.f143.name, by decide, Tryz.func143.trans (congrArg some (by kernel_rfl))⟩
  f50 := ⟨Tryz.f144.name, by decide, Tryz.func144.trans (congrArg some (by kernel_rfl))⟩
  f57 := ⟨Tryz.f152.name, by decide, Tryz.func152.trans (congrArg some (by kernel_rfl))⟩
  t0 := Tryz.underlying0
  a0 := Tryz.isAgg0
  z0 := Tryz.sizeOf0
  v0 := Tryz.zeroValue0
  t3 := Tryz.underlying3
  a3 := Tryz.isAgg3
  z3 := Tryz.sizeOf3
  v3 := Tryz.zeroValue3
  t4 := Tryz.underlying4
  a4 := Tryz.isAgg4
  z4 := Tryz.sizeOf4
  v4 := Tryz.zeroValue4
  t5 := Tryz.underlying5
  a5 := Tryz.isAgg5
  z5 := Tryz.sizeOf5
  v5 := Tryz.zeroValue5
  t9 := Tryz.underlying9
  a9 := Tryz.isAgg9
  z9 := Tryz.sizeOf9
  v9 := Tryz.zeroValue9
  t22 := Tryz.underlying44
  a22 := Tryz.isAgg44
  z22 := Tryz.sizeOf44
  v22 := Tryz.zeroValue44
  t25 := Tryz.underlying73
  a25 := Tryz.isAgg73
  z25 := Tryz.sizeOf73
  v25 := Tryz.zeroValue73
  t39 := Tryz.underlying127
  a39 := Tryz.isAgg127
  z39 := Tryz.sizeOf127
  v39 := Tryz.zeroValue127
  t45 := Tryz.underlying133
  a45 := Tryz.isAgg133
  z45 := Tryz.sizeOf133
  v45 := Tryz.zeroValue133
  t46 := Tryz.underlying134
  a46 := Tryz.isAgg134
  z46 := Tryz.sizeOf134
  v46 := Tryz.zeroValue134
  t50 := Tryz.underlying138
  a50 := Tryz.isAgg138
  z50 := Tryz.sizeOf138
  v50 := Tryz.zeroValue138
  t53 := Tryz.underlying141
  a53 := Tryz.isAgg141
  z53 := Tryz.sizeOf141
  v53 := Tryz.zeroValue141
  t55 := Tryz.underlying143
  a55 := Tryz.isAgg143
  z55 := Tryz.sizeOf143
  v55 := Tryz.zeroValue143
  t66 := Tryz.underlying154
  a66 := Tryz.isAgg154
  z66 := Tryz.sizeOf154
  v66 := Tryz.zeroValue154
  t70 := Tryz.underlying158
  a70 := Tryz.isAgg158
  z70 := Tryz.sizeOf158
  v70 := Tryz.zeroValue158
  t76 := Tryz.underlying167
  a76 := Tryz.isAgg167
  z76 := Tryz.sizeOf167
  v76 := Tryz.zeroValue167
  t77 := Tryz.underlying168
  a77 := Tryz.isAgg168
  z77 := Tryz.sizeOf168
  v77 := Tryz.zeroValue168 }
end Go.Proofs
end
section
namespace Go.Proofs.YtohdmmafjpjmfaaGreatDoor.Q
open Go.Proofs.YtohdmmafjpjmfaaGreatDoor.QB.D
open Go Go.RowKit Go.Maps Go.Lib Go.Sort Go.Proofs.YtohdmmafjpjmfaaGreatDoorW.PrintWords Go.Proofs.YtohdmmafjpjmfaaGreatDoorW.PrintLast Go.Proofs.YtohdmmafjpjmfaaGreatDoorW.PrintMore Gw
set_option linter.unusedVariables false
set_option linter.unusedSimpArgs false
abbrev GN := { x : S34 // GoodN x }
instance : Inhabited GN := ⟨⟨⟨⟨#[]⟩, ⟨#[118, 48, 46, 48, 46, 48]⟩⟩, by unfold Tiny; decide, by unfold Tiny; decide, by decide +kernel⟩⟩
theorem isAggN (w : World) : (isAgg 34).run Tryz.prog w = .ok true w := by kernel_rfl
theorem sizeN (w : World) : (Go.sizeOf 34).run Tryz.prog w = .ok 2 w := by kernel_rfl
def cellsN (xs : List S34) : List Value := xs.flatMap (fun x => [Value.string x.f0, Value.string x.f1])
theorem cellsN_get : ∀ (xs : List S34) (j : Nat), (cellsN xs)[j]? = (xs[j / 2]?).map (fun x => if j % 2 = 0 then Value.string x.f0 else Value.string x.f1) := by
  intro xs
  induction xs with
  | nil => intro j; simp [cellsN]
  | cons x xs ih =>
    intro j
    match j with
    | 0 => simp [cellsN]
    | 1 => simp [cellsN]
    | j + 2 =>
      show ([Value.string x.f0, Value.string x.f1] ++ cellsN xs)[j + 2]? = _
      rw [List.getElem?_append_right (by simp)]
      simp only [List.length_cons, List.length_nil, Nat.zero_add, Nat.add_sub_cancel, Nat.reduceAdd]
      rw [ih j, show (j + 2) / 2 = j / 2 + 1 by omega, show (j + 2) % 2 = j % 2 by omega, List.getElem?_cons_succ]
theorem cellsN_len : ∀ xs, (cellsN xs).length = xs.length * 2
  | [] => rfl
  | x :: xs => by
    show ([Value.string x.f0, Value.string x.f1] ++ cellsN xs).length = _
    rw [List.length_append, cellsN_len xs]; simp; omega
theorem reps_node {w : World} {base : Nat} {ok : Nat → Prop} {xs : List S34} {inner : List Value} (h : Reps (k34.M w base ok) k34.sz xs inner) : inner = cellsN xs := by
  obtain ⟨hl, hp⟩ := h
  have hl2 : inner.length = xs.length * 2 := hl
  apply List.ext_getElem?
  intro j
  rw [cellsN_get]
  by_cases hj : j < xs.length * 2
  · have h2 : j / 2 < xs.length := by omega
    have hm := hp (j / 2) _ (List.getElem?_eq_getElem h2)
    have ho := k34_openM hm
    rw [List.getElem?_eq_getElem h2, Option.map_some]
    have h3 : inner[j]? = ((inner.drop (j / 2 * 2)).take 2)[j % 2]? := by
      rw [List.getElem?_take_of_lt (by omega), List.getElem?_drop, show j / 2 * 2 + j % 2 = j by omega]
    rw [h3]
    have ho' : (inner.drop (j / 2 * 2)).take 2 = [.string xs[j / 2].f0, .string xs[j / 2].f1] := ho
    rw [ho']
    rcases Nat.mod_two_eq_zero_or_one j with e | e <;> rw [e] <;> rfl
  · rw [List.getElem?_eq_none (by omega), List.getElem?_eq_none (by omega)]
    rfl
theorem node_reps (w : World) (base : Nat) (ok : Nat → Prop) (xs : List S34) : Reps (k34.M w base ok) k34.sz xs (cellsN xs) := by
  refine ⟨cellsN_len xs, fun j p hj => ?_⟩
  obtain ⟨hjl, rfl⟩ := List.getElem?_eq_some_iff.1 hj
  have e : ((cellsN xs).drop (j * 2)).take 2 = [.string xs[j].f0, .string xs[j].f1] := by
    apply List.ext_getElem?
    intro t
    rcases Nat.lt_or_ge t 2 with h | h
    · rw [List.getElem?_take_of_lt h, List.getElem?_drop, cellsN_get, show (j * 2 + t) / 2 = j by omega, List.getElem?_eq_getElem hjl, Option.map_some]
      match t, h with
      | 0, _ => rw [if_pos (by omega)]; rfl
      | 1, _ => rw [if_neg (by omega)]; rfl
    · rw [List.getElem?_eq_none (by rw [List.length_take]; omega), List.getElem?_eq_none (by simp; omega)]
  show k34.M w base ok xs[j] (((cellsN xs).drop (j * 2)).take 2)
  rw [e]
  exact k34_mkM _ _ _ _
theorem take_put (cur : Array Value) (F : Array Value) (h : F.size ≤ cur.size) : (putCells id 0 F cur).toList.take F.size = F.toList := by
  apply List.ext_getElem?
  intro j
  rcases Nat.lt_or_ge j F.size with hj | hj
  · rw [List.getElem?_take_of_lt hj, Array.getElem?_toList, Array.getElem?_toList]
    simp only [putCells, Array.getElem?_mapIdx]
    rw [Array.getElem?_eq_getElem (show j < cur.size by omega), Option.map_some, if_pos (by omega), Array.getElem?_eq_getElem hj]
    simp [hj]
  · rw [List.getElem?_eq_none (by simp; omega), List.getElem?_eq_none (by simpa using hj)]
abbrev GM := { x : S34 // TinyN x ∧ mayN x = true }
theorem gM (x : GM) : GoodN x.1 := mayN_good x.2.1 x.2.2
instance : Inhabited GM := ⟨⟨⟨⟨#[97]⟩, ⟨#[118, 48, 46, 48, 46, 48]⟩⟩, by unfold TinyN Tiny; decide, by decide +kernel⟩⟩
def encM (x : GM) : List Value := [.string x.1.f0, .string x.1.f1]
def cfM (x y : GM) : Int := ordN x.1 y.1
theorem ltM (x y : GM) : ltOf cfM x y = decide (cfM x y < 0) := rfl
theorem swoM : SWO (ltOf cfM) where
  irrefl x := by
    rw [ltM, decide_eq_false_iff_not]
    have := (ordN_to.eq x.1 x.1 (gM x) (gM x)).2 rfl
    unfold cfM; omega
  trans x y z h1 h2 := by
    rw [ltM, decide_eq_true_eq] at *
    exact ordN_to.tr _ _ _ (gM x) (gM y) (gM z) h1 h2
  ntrans x y z h1 h2 := by
    rw [ltM, decide_eq_false_iff_not] at *
    have s1 := ordN_to.sym x.1 y.1 (gM x) (gM y)
    have s2 := ordN_to.sym y.1 z.1 (gM y) (gM z)
    have s3 := ordN_to.sym x.1 z.1 (gM x) (gM z)
    unfold cfM at *
    have := (ordN_to.le z.1 y.1 x.1 (gM z) (gM y) (gM x) (by omega) (by omega)).1
    omega
theorem totM (x y : GM) (h1 : ltOf cfM x y = false) (h2 : ltOf cfM y x = false) : x = y := by
  rw [ltM, decide_eq_false_iff_not] at *
  have s1 := ordN_to.sym x.1 y.1 (gM x) (gM y)
  unfold cfM at *
  exact Subtype.ext ((ordN_to.eq x.1 y.1 (gM x) (gM y)).1 (by omega))
theorem order13_val (k : Nat) (hk : 4294967310 ≤ k) (x y : S34) (hx : TinyN x ∧ mayN x = true) (hy : TinyN y ∧ mayN y = true) : diff_order.f k x.f0 x.f1 y.f0 y.f1 = some (ordN x y) := by
  have q1 := hx.1.1
  have q2 := hy.1.1
  unfold Tiny at q1 q2
  obtain ⟨j, rfl⟩ : ∃ j, k = j + 3 := ⟨k - 3, by omega⟩
  unfold diff_order.f node_Cmp.f
  rw [node_May_val _ x hx.1 (by omega), node_May_val _ y hy.1 (by omega), hx.2, hy.2]
  simp only [Option.bind_some, if_true]
  rw [order_val j x y (mayN_good hx.1 hx.2) (mayN_good hy.1 hy.2)]
  rfl
theorem cmpLaysM (blk off size : Nat) (w : World) : CmpLays Tryz.prog 49 #[] encM 2 cfM blk off size w := fun _ _ _ _ x y =>
  (QB.D.diff_order.calls 4294967310 x.1.f0 x.1.f1 y.1.f0 y.1.f1 _ _ (order13_val _ (Nat.le_refl _) x.1 y.1 x.2 y.2)).mono fun e w' h => ⟨h.1, h.2.grows⟩
theorem flat_cellsM (G : List GM) (j : Nat) (hj : j < G.length * 2) : some (flatK encM 2 G.toArray)[j]! = (cellsN (G.map Subtype.val))[j]? := by
  have h2 : j / 2 < G.length := by omega
  rw [get_flatK _ _ _ _ (by simpa using hj), cellsN_get, List.getElem?_map, List.getElem?_eq_getElem h2, Option.map_some, Option.map_some]
  have : G.toArray[j / 2]! = G[j / 2] := by simp [h2]
  rw [this]
  rcases Nat.mod_two_eq_zero_or_one j with e | e <;> rw [e] <;> rfl
theorem sortW_blockM (enc : GM → List Value) (w : World) (g m : Nat) (d : Array GM) (os : Array Obj) (cur : Array Value) (e : TypeId) (hg : w.heap[g]? = some (.cells cur e (0, 0))) :
    (sortWorldK enc 2 w g 0 m d os).heap[g]? = some (.cells (putCells id 0 (flatK enc 2 d) cur) e (0, 0)) := by
  have hlt : g < w.heap.size := by
    rcases Nat.lt_or_ge g w.heap.size with h | h
    · exact h
    · rw [Array.getElem?_eq_none h] at hg; cases hg
  unfold sortWorldK grow putRowK putRow mapBlock Sort.ahead
  simp only []
  rw [Array.getElem?_append_left (by simpa using hlt), Array.getElem?_modify, if_pos rfl, hg]
  rfl
theorem sortW_belowM (enc : GM → List Value) (w : World) (g m : Nat) (d : Array GM) (os : Array Obj) (b : Nat) (hb : b ≤ g) (hg : g < w.heap.size) : Below b w (sortWorldK enc 2 w g 0 m d os) := by
  unfold sortWorldK grow putRowK putRow mapBlock Sort.ahead
  refine ⟨rfl, rfl, rfl, by simp, fun k hk => ?_⟩
  simp only []
  rw [Array.getElem?_append_left (by simp; omega), Array.getElem?_modify, if_neg (by omega)]
theorem enc_lenM (x : GM) : (encM x).length = 2 := rfl
theorem enc_oneM (x : GM) : ∀ v ∈ encM x, v.oneCell' = true := fun v hv => by simp [encM] at hv; rcases hv with rfl | rfl <;> rfl
theorem sortM_calls (L S : List S34) (hL : ∀ x ∈ L, TinyN x ∧ mayN x = true) (hn : L.length ≤ 4294967296) (hS : S.Perm L) (hS2 : S.Pairwise (fun x y => ordN x y ≤ 0)) (W : World) (base b0 : Nat) (ok ok' : Nat → Prop) (v : Value) (hR : Kd.R k34 34 W base ok v L) (hok' : ∀ k, ok k → ok' k) (hb0 : b0 ≤ base) :
    Calls Tryz.prog 95 #[v, .func (.func 49) #[] #[]] W fun e w' => e = .returned (.tuple #[]) ∧ Kd.R k34 34 w' base ok' v S ∧ Below b0 W w' := by
  obtain ⟨hok, inner, ho, hr⟩ := hR
  obtain rfl := reps_node hr
  obtain ⟨_, ⟨rfl, hz⟩ | ⟨g, cap, cur, rfl, hg, hcell, hc1, hc2, hc3, hc4⟩⟩ := ho
  · have hL0 : L = [] := List.length_eq_zero_iff.1 hz
    subst hL0
    have hS0 : S = [] := List.Perm.eq_nil hS
    subst hS0
    refine (AnyF.slices_SortFunc_none Tryz.sortNode none 0 (.func (.func 49) #[] #[]) W).mono ?_
    rintro e w' ⟨rfl, rfl⟩
    exact ⟨rfl, Kd.R_nil _ _ _ _ _, Below.refl _ _⟩
  · obtain ⟨G, rfl⟩ : ∃ G : List GM, G.map Subtype.val = L := ⟨L.attach.map (fun x => ⟨x.1, hL x.1 x.2⟩), by simp [List.map_map, Function.comp_def, List.attach_map_subtype_val]⟩
    have hgl : g < W.heap.size := by
      rcases Nat.lt_or_ge g W.heap.size with h | h
      · exact h
      · rw [Array.getElem?_eq_none h] at hcell; cases hcell
    rw [List.length_map] at *
    have hsz2 : (cellsN (G.map Subtype.val)).length = G.length * 2 := by rw [cellsN_len, List.length_map]
    have hH : HoldsK encM 2 W g 0 G.toArray := by
      intro j hj
      have hj' : j < G.length * 2 := by simpa using hj
      refine ⟨?_, blk_frozen hcell _⟩
      rw [blk_cell hcell, Nat.zero_add]
      show cur[j]? = some (flatK encM 2 G.toArray)[j]!
      rw [flat_cellsM G j hj', ← hc4]
      rw [show k34.sz = 2 from rfl, List.getElem?_take_of_lt hj', Array.getElem?_toList]
    have eg : ∀ args w, (callFunc 49 args).run Tryz.prog w = .ok (.enter 49 args) w := enters_of Tryz.func49 (by kernel_rfl) rfl
    have hcon := AnyQ.slices_SortFunc_total Tryz.sortNode 2 isAggN sizeN encM enc_lenM enc_oneM cfM swoM 49 #[] g 0 cap G.toArray W eg (cmpLaysM _ _ _ _) hH hgl (by simp; omega) totM
    refine Calls.mono hcon ?_
    rintro e w' ⟨rfl, n, os, rfl⟩
    refine ⟨rfl, ?_, sortW_belowM _ _ _ _ _ _ _ (by omega) hgl⟩
    have hM1 : (G.mergeSort fun x y => !(ltOf cfM) y x).Perm G := List.mergeSort_perm _ _
    have hM2 : (G.mergeSort fun x y => !(ltOf cfM) y x).Pairwise (fun x y => (!(ltOf cfM) y x) = true) := by
      refine List.pairwise_mergeSort (le := fun x y => !(ltOf cfM) y x) (fun a b c h1 h2 => ?_) (fun a b => ?_) G
      · simp only [Bool.not_eq_true'] at *
        exact swoM.ntrans _ _ _ h2 h1
      · simp only [ltM]
        have := ordN_to.sym a.1 b.1 (gM a) (gM b)
        unfold cfM
        by_cases h : ordN b.1 a.1 < 0
        · rw [decide_eq_true h, decide_eq_false (by omega)]; rfl
        · rw [decide_eq_false h]; rfl
    have hSM : S = (G.mergeSort fun x y => !(ltOf cfM) y x).map Subtype.val := by
      refine List.Perm.eq_of_pairwise (le := fun x y => ordN x y ≤ 0) ?_ hS2 ?_ (hS.trans (hM1.map _).symm)
      · intro a b ha hb h1 h2
        have ga := mayN_good (hL a (hS.mem_iff.1 ha)).1 (hL a (hS.mem_iff.1 ha)).2
        have gb : GoodN b := by obtain ⟨y, _, rfl⟩ := List.mem_map.1 hb; exact gM y
        have := ordN_to.sym a b ga gb
        exact (ordN_to.eq a b ga gb).1 (by omega)
      · refine List.pairwise_map.2 (hM2.imp ?_)
        intro x y h
        simp only [Bool.not_eq_true', ltM, decide_eq_false_iff_not] at h
        have := ordN_to.sym x.1 y.1 (gM x) (gM y)
        unfold cfM at h
        omega
    have hlM := hM1.length_eq
    generalize hMM : (G.mergeSort fun x y => !(ltOf cfM) y x) = M at hSM hlM
    have hfs : (flatK encM 2 M.toArray).size = G.length * 2 := by simp [hlM]
    have hSl : S.length = G.length := by rw [hSM, List.length_map, hlM]
    refine ⟨fun k hk => hok' k (hok k hk), cellsN S, ?_, ?_⟩
    · refine ⟨by rw [cellsN_len]; rfl, Or.inr ⟨g, cap, putCells id 0 (flatK encM 2 M.toArray) cur, by rw [hSl], hg, sortW_blockM _ _ _ _ _ _ _ _ hcell, by rw [hSl]; exact hc1, hc2, by simp [putCells]; exact hc3, ?_⟩⟩
      rw [show S.length * k34.sz = (flatK encM 2 M.toArray).size by rw [hfs, hSl]; rfl, take_put _ _ (by rw [hfs, hc3]; exact Nat.mul_le_mul_right _ hc1)]
      apply List.ext_getElem?
      intro j
      by_cases hj : j < G.length * 2
      · rw [hSM, ← flat_cellsM M j (by omega), Array.getElem?_toList, Array.getElem?_eq_getElem (by omega)]
        simp [hfs, hj]
      · rw [List.getElem?_eq_none (by simp; omega), List.getElem?_eq_none (by rw [cellsN_len]; omega)]
    · exact node_reps _ _ _ _
end Go.Proofs.YtohdmmafjpjmfaaGreatDoor.Q
end
section
namespace Go.Proofs.YtohdmmafjpjmfaaGreatDoor.Q
open Go.Proofs.YtohdmmafjpjmfaaGreatDoor.QB.D
open Go Go.RowKit Go.Lib Go.Proofs.YtohdmmafjpjmfaaGreatDoorW.PrintWords Go.Proofs.YtohdmmafjpjmfaaGreatDoorW.PrintLast Go.Proofs.YtohdmmafjpjmfaaGreatDoorW.PrintMore Gw
set_option linter.unusedVariables false
set_option linter.unusedSimpArgs false
def okV : Bool → Int
  | true => 0
  | false => 1
def edE (x : S48) : Bool := mayN x.f0 && (!decide (x.f1 = 0) && (!decide (x.f1 > 1099511627776) && !decide (x.f1 < -1099511627776)))
def chkE : Option S48 → List S48 → Bool
  | _, [] => true
  | none, x :: r => edE x && chkE (some x) r
  | some q, x :: r => edE x && (decide (ordN q.f0 x.f0 < 0) && chkE (some x) r)
def checkE (l : List S48) : Bool := chkE none l
theorem checkE_l0 (l : List S48) (hl : l.length ≤ 4294967296) (ht : ∀ x ∈ l, TinyN x.f0) : ∀ (n i k : Nat) (p : Option S48), l.length ≤ i + n → i ≤ l.length → n + 4294967320 ≤ k →
    (p = if i = 0 then none else l[i - 1]?) → (∀ q, p = some q → mayN q.f0 = true) →
    diff_Check.l0 k l l (l.length : Int) (i : Int) = some (okV (chkE p (l.drop i))) := by
  intro n
  induction n with
  | zero =>
    intro i k p h1 h2 hk hp hq
    obtain ⟨j, rfl⟩ : ∃ j, k = j + 1 := ⟨k - 1, by omega⟩
    have e : i = l.length := by omega
    subst e
    simp only [diff_Check.l0]
    rw [if_neg (by omega), List.drop_length]
    cases p <;> rfl
  | succ n ih =>
    intro i k p h1 h2 hk hp hq
    obtain ⟨j, rfl⟩ : ∃ j, k = j + 1 := ⟨k - 1, by omega⟩
    by_cases hi : i < l.length
    · have hm := List.getElem_mem hi
      have htx := ht _ hm
      have hrd : rd_T48 l (i : Int) = l[i] := by simp [rd_T48, List.getD_eq_getElem?_getD, List.getElem?_eq_getElem hi]
      have hmv := node_May_val j l[i].f0 htx (by have := htx.1; unfold Tiny at this; omega)
      simp only [diff_Check.l0]
      rw [if_pos (by omega), if_pos (by omega), if_pos (by omega), hrd, hmv, List.drop_eq_getElem_cons hi]
      simp only [Option.bind_some]
      have hbad : edE l[i] = false → okV (chkE p (l[i] :: l.drop (i + 1))) = 1 := fun h => by
        cases p <;> simp only [chkE] <;> rw [h] <;> rfl
      by_cases hmx : mayN l[i].f0 = true
      case neg =>
        rw [if_neg hmx, hbad (by unfold edE; rw [Bool.not_eq_true] at hmx; rw [hmx]; rfl)]
      case pos =>
        rw [if_pos hmx]
        by_cases z0 : l[i].f1 = 0
        · rw [if_pos z0, hbad (by unfold edE; rw [decide_eq_true z0]; simp)]
        rw [if_neg z0]
        by_cases z1 : l[i].f1 > 1099511627776
        · rw [if_pos z1, hbad (by unfold edE; rw [decide_eq_true z1]; simp)]
        rw [if_neg z1]
        by_cases z2 : l[i].f1 < -1099511627776
        · rw [if_pos z2, hbad (by unfold edE; rw [decide_eq_true z2]; simp)]
        rw [if_neg z2]
        have hgood : edE l[i] = true := by unfold edE; rw [hmx, decide_eq_false z0, decide_eq_false z1, decide_eq_false z2]; rfl
        have hw : wrap64 ((i : Int) + 1) = ((i + 1 : Nat) : Int) := by unfold wrap64; omega
        have ih' := ih (i + 1) j (some l[i]) (by omega) (by omega) (by omega) (by rw [if_neg (by omega)]; simp [List.getElem?_eq_getElem hi]) (fun q h => by injection h with h; rw [← h]; exact hmx)
        by_cases h0 : i = 0
        · subst h0
          rw [if_pos rfl] at hp
          subst hp
          rw [if_neg (by omega), hw, ih']
          simp only [chkE]
          rw [hgood]
          rfl
        · rw [if_neg h0, List.getElem?_eq_getElem (by omega)] at hp
          subst hp
          have hi1 : i - 1 < l.length := by omega
          have hw1 : wrap64 ((i : Int) - 1) = ((i - 1 : Nat) : Int) := by unfold wrap64; omega
          have hrd1 : rd_T48 l ((i - 1 : Nat) : Int) = l[i - 1] := by simp [rd_T48, List.getD_eq_getElem?_getD, List.getElem?_eq_getElem hi1]
          have gx : TinyN l[i - 1].f0 ∧ mayN l[i - 1].f0 = true := ⟨ht _ (List.getElem_mem hi1), hq _ rfl⟩
          rw [if_pos (by omega), hw1, if_pos (by omega), if_pos (by omega), hrd1, order13_val j (by omega) _ _ gx ⟨htx, hmx⟩]
          simp only [Option.bind_some, chkE]
          rw [hgood]
          by_cases hc : ordN l[i - 1].f0 l[i].f0 < 0
          · rw [if_neg (by omega), hw, ih', decide_eq_true hc]
            rfl
          · rw [if_pos (by omega), decide_eq_false hc]
            rfl
    · exact ih i (j + 1) p (by omega) h2 (by omega) hp hq
theorem checkE_val (l : List S48) (hl : l.length ≤ 4294967296) (ht : ∀ x ∈ l, TinyN x.f0) (k : Nat) (hk : l.length + 4294967320 ≤ k) : diff_Check.f k l = some (okV (checkE l)) := by
  have h := checkE_l0 l hl ht l.length 0 k none (by omega) (Nat.zero_le _) (by omega) rfl (fun q h => by cases h)
  rw [List.drop_zero] at h
  exact h
theorem chkE_all : ∀ (l : List S48) (p : Option S48), chkE p l = true → ∀ x ∈ l, edE x = true
  | [], _, _, x, h => by cases h
  | y :: r, none, h, x, hx => by
    simp only [chkE, Bool.and_eq_true] at h
    rcases List.mem_cons.1 hx with rfl | hx
    · exact h.1
    · exact chkE_all r _ h.2 x hx
  | y :: r, some q, h, x, hx => by
    simp only [chkE, Bool.and_eq_true] at h
    rcases List.mem_cons.1 hx with rfl | hx
    · exact h.1
    · exact chkE_all r _ h.2.2 x hx
theorem edE_iff (x : S48) : edE x = true ↔ mayN x.f0 = true ∧ x.f1 ≠ 0 ∧ x.f1 ≤ 1099511627776 ∧ -1099511627776 ≤ x.f1 := by
  unfold edE
  simp only [Bool.and_eq_true, Bool.not_eq_true', decide_eq_false_iff_not]
  constructor
  · rintro ⟨h1, h2, h3, h4⟩; exact ⟨h1, h2, by omega, by omega⟩
  · rintro ⟨h1, h2, h3, h4⟩; exact ⟨h1, h2, by omega, by omega⟩
theorem R_of_cells {w : World} {base : Nat} {ok : Nat → Prop} {v : Value} {xs : List S34} (ho : w.ownsRow base 34 2 v xs.length (cellsN xs)) (hok : ∀ k, v.ownBlock = some k → ok k) : Kd.R k34 34 w base ok v xs := ⟨hok, cellsN xs, ho, node_reps _ _ _ _⟩
theorem cellsN_snoc (xs : List S34) (x : S34) : cellsN xs ++ [.string x.f0, .string x.f1] = cellsN (xs ++ [x]) := by unfold cellsN; rw [List.flatMap_append]; rfl
end Go.Proofs.YtohdmmafjpjmfaaGreatDoor.Q
end
section
namespace Go.Proofs.YtohdmmafjpjmfaaGreatDoor.Q
open Go.Proofs.YtohdmmafjpjmfaaGreatDoor.QB.D
open Go Go.RowKit Go.Lib Go.Proofs.YtohdmmafjpjmfaaGreatDoorW.PrintWords Go.Proofs.YtohdmmafjpjmfaaGreatDoorW.PrintLast Go.Proofs.YtohdmmafjpjmfaaGreatDoorW.PrintMore Gw
set_option linter.unusedVariables false
abbrev SeeA {α : Type} (d : Kd α) (w : World) (A : Option Addr) (c : Nat) (xs : List α) : Prop := Aside0 (xs.length ≤ c ∧ d.C w A xs.length xs)
theorem SeeA.to {α : Type} {d : Kd α} {w w' : World} {A : Option Addr} {c : Nat} {xs : List α} (h : SeeA d w A c xs) (b : Aside0 (Below w.heap.size w w')) : SeeA d w' A c xs := ⟨h.out.1, Kd.C_below h.out.2 b.out⟩
end Go.Proofs.YtohdmmafjpjmfaaGreatDoor.Q
end
section
namespace Go.Proofs.YtohdmmafjpjmfaaGreatDoor.Q
open Go.Proofs.YtohdmmafjpjmfaaGreatDoor.QB.D
open Go Go.RowKit Go.Maps Go.Lib Go.Proofs.YtohdmmafjpjmfaaGreatDoorW.PrintWords Go.Proofs.YtohdmmafjpjmfaaGreatDoorW.PrintLast Go.Proofs.YtohdmmafjpjmfaaGreatDoorW.PrintMore Gw
set_option linter.unusedVariables false
set_option linter.unusedSimpArgs false
def SeeLL (w : World) (A : Option Addr) (c : Nat) (LL : List (List S34)) : Prop := LL.length ≤ c ∧ ∀ i (h : i < LL.length), ∃ ad, A = some ad ∧ ∃ Ai ci, w.cell? (ad.add i) = some (.slice Ai LL[i].length ci) ∧ LL[i].length ≤ ci ∧ Kd.C k34 w Ai LL[i].length LL[i]
theorem SeeLL.to {w w' : World} {A : Option Addr} {c : Nat} {LL : List (List S34)} (h : SeeLL w A c LL) (b : Below w.heap.size w w') : SeeLL w' A c LL := ⟨h.1, fun i hi => by
  obtain ⟨ad, e, Ai, ci, h1, h2, h3⟩ := h.2 i hi
  exact ⟨ad, e, Ai, ci, (b.cell (World.block_lt_of_cell? _ _ h1)).trans h1, h2, Kd.C_below h3 b⟩⟩
set_option maxHeartbeats 4000000 in
set_option maxRecDepth 100000 in
theorem growN_calls (n : Nat) (hn : n ≤ 4294967296) (w : World) :
    Calls Tryz.prog 63 #[.slice none 0 0, .int .i64 (n : Int)] w fun e w' => ∃ v, e = .returned v ∧ Kd.R k34 34 w' w.heap.size (fun _ => True) v ([] : List S34) ∧ Below w.heap.size w w' := by
  have hwr : IntKind.i64.wrap (n : Int) = (n : Int) := by rw [IntKind.wrap_i64]; omega
  have hd0 : decide ((n : Int) < 0) = false := decide_eq_false (by omega)
  have HB0 := Aside0.mk (Below.refl w.heap.size w)
  by_cases h0 : n = 0
  · subst h0
    clear hwr hd0
    go_enter Tryz.func63, Tryz.ntmps63
    go_wp2
    go_ret
    exact ⟨_, rfl, Kd.R_nil _ _ _ _ _, HB0.out⟩
  · have hp1 : decide ((n : Int) > 0) = true := decide_eq_true (by omega)
    have hp2 : decide ((0 : Int) < (n : Int)) = true := decide_eq_true (by omega)
    have HO0 := Aside0.mk (Kd.R_nil k34 34 w w.heap.size (fun _ => True))
    go_enter Tryz.func63, Tryz.ntmps63
    go_wp2_with (first
      | ((with_reducible refine gate_builtin (b := .append) (xs := #[.tmp 20, .tmp 21]) rfl ?_); at_builtin; refine Kd.R_append_zeros k34 (w0 := w) w.heap.size rfl (.tmp 20) (.tmp 21) 44 3 34 (.agg #[(.string ⟨#[]⟩), (.string ⟨#[]⟩)]) 32 rfl Tryz.underlying44 Tryz.underlying3 info34 rfl (by decide) (by omega) (.slice none 0 0) [] ⟨⟨#[]⟩, ⟨#[]⟩⟩ (n : Int) (fun _ => True) rfl rfl ?aP (fun _ _ => trivial) ?aO ?aN ?aB ?aS ?aL ?_; (case aP => exact k34_mkM _ _ _ ⟨⟨#[]⟩, ⟨#[]⟩⟩); (case aB => exact HB0.out); (case aN => omega); (case aO => exact HO0.out); (case aS => exact Nat.le_refl _); (case aL => simp; omega); intro v9 w9 ho9 hb9 hg9 hat9; obtain ⟨gg, gc, hvv, _, _, _⟩ := Kd.R_form ho9 (by simp; omega); subst hvv; have HO9 := Aside0.mk (Kd.R_take ho9 (Nat.zero_le _)); have HB9 := Aside0.mk hb9; clear ho9 hb9 hg9 hat9)
      | fail)
    go_wp2
    go_ret
    exact ⟨_, rfl, HO9.out, HB9.out⟩
def flen (LL : List (List S34)) (i : Nat) : Nat := (LL.take i).flatten.length
theorem flat_take (LL : List (List S34)) (i : Nat) (h : i < LL.length) : (LL.take (i + 1)).flatten = (LL.take i).flatten ++ LL[i] := by
  rw [List.take_succ_eq_append_getElem h, List.flatten_append]; simp
theorem flat_le (LL : List (List S34)) (i : Nat) : (LL.take i).flatten.length ≤ LL.flatten.length := by
  have : LL = LL.take i ++ LL.drop i := (List.take_append_drop i LL).symm
  conv => rhs; rw [this]
  rw [List.flatten_append, List.length_append]
  omega
end Go.Proofs.YtohdmmafjpjmfaaGreatDoor.Q
end
section
namespace Go.Proofs.YtohdmmafjpjmfaaGreatDoor.Q
open Go.Proofs.YtohdmmafjpjmfaaGreatDoor.QB.D
open Go Go.RowKit Go.Maps Go.Lib Go.Proofs.YtohdmmafjpjmfaaGreatDoorW.PrintWords Go.Proofs.YtohdmmafjpjmfaaGreatDoorW.PrintLast Go.Proofs.YtohdmmafjpjmfaaGreatDoorW.PrintMore Gw Go.Ev
set_option linter.unusedVariables false
set_option linter.unusedSimpArgs false
set_option maxHeartbeats 8000000 in
set_option maxRecDepth 100000 in
theorem concatR_calls (A : Option Addr) (c : Nat) (LL : List (List S34)) (w : World) (hs : SeeLL w A c LL) (hl : LL.flatten.length ≤ 65536) (hn : LL.length ≤ 100) :
    Calls Tryz.prog 46 #[.slice A LL.length c] w fun e w' => ∃ v, e = .returned v ∧ Kd.R k34 34 w' w.heap.size (fun _ => True) v LL.flatten ∧ Below w.heap.size w w' := by
  have HS := Aside0.mk hs
  have HL := Aside0.mk hl
  have hfl : flen LL LL.length = LL.flatten.length := by unfold flen; rw [List.take_length]
  have CG := fun (W : World) => growN_calls (flen LL LL.length) (by rw [hfl]; omega) W
  have HFL := Aside0.mk hfl
  clear hfl
  have hl1 : (LL.length : Int) ≤ 100 := by omega
  have HB0 := Aside0.mk (Below.refl w.heap.size w)
  clear hs
  go_enter Tryz.func46, Tryz.ntmps46
  go_wp2_with fail
  go_loopw [3, 11] (fun v3 v11 wr => ∃ i : Nat, i ≤ LL.length ∧ v11 = .int .i64 (i : Int) ∧ v3 = .int .i64 (flen LL i : Int) ∧ Aside0 (wr = w)) (fun _ v11 _ => LL.length - (RowKit.intOf v11).toNat)
  case atStart => exact ⟨0, Nat.zero_le _, rfl, rfl, ⟨rfl⟩⟩
  case round =>
    obtain ⟨i, hi, rfl, rfl, HW⟩ := hrel
    have hw := HW.out.symm
    subst hw
    clear HW
    by_cases hil : i < LL.length
    · have j1 : (i : Int) < (LL.length : Int) := by omega
      have hdi : decide ((i : Int) < (LL.length : Int)) = true := decide_eq_true j1
      obtain ⟨ad, eA, Ai, ci, q0, _, _⟩ := HS.out.2 i hil
      subst eA
      have h1 := flat_le LL (i + 1)
      have h2 := flat_take LL i hil
      have h3 : flen LL (i + 1) = flen LL i + LL[i].length := by unfold flen; rw [h2, List.length_append]
      have h4 : flen LL i ≤ LL.flatten.length := flat_le LL i
      have h1' : flen LL (i + 1) ≤ LL.flatten.length := h1
      obtain ⟨n, hnn⟩ : ∃ n, n = LL[i].length := ⟨_, rfl⟩
      obtain ⟨s, hss⟩ : ∃ n, n = flen LL i := ⟨_, rfl⟩
      rw [← hnn] at q0 h3
      rw [← hss] at h3 h4
      rw [← hss]
      have hw0 : IntKind.i64.wrap ((s : Int) + (n : Int)) = (s : Int) + (n : Int) := by rw [IntKind.wrap_i64]; omega
      have hd0 : decide ((s : Int) + (n : Int) < 0) = false := decide_eq_false (by omega)
      have H3 := Aside0.mk h3
      clear CG h1 h1' h2 h3 h4 hnn hss hl
      go_wp2
      go_roundw
      case rel => exact ⟨i + 1, by omega, by go_num, by rw [H3.out]; go_num, ⟨trivial⟩⟩
      case measure => simp [RowKit.intOf]; omega
    · obtain rfl : i = LL.length := by omega
      have hdi : decide ((LL.length : Int) < (LL.length : Int)) = false := decide_eq_false (by omega)
      clear hl
      go_wp2_with fail
      refine (CG _).mono ?_
      rintro e w2 ⟨v, rfl, hR, hb⟩
      have HB2 := Aside0.mk hb
      have HO2 := Aside0.mk hR
      clear hR hb CG
      go_wp2_with fail
      go_loopw [6, 27] (fun v6 v27 wr => ∃ i : Nat, i ≤ LL.length ∧ v27 = .int .i64 (i : Int) ∧ Aside0 (Kd.R k34 34 wr w.heap.size (fun _ => True) v6 ((LL.take i).flatten)) ∧ Aside0 (Below w.heap.size w wr)) (fun _ v27 _ => LL.length - (RowKit.intOf v27).toNat)
      case atStart => exact ⟨0, by omega, rfl, HO2, HB2⟩
      case round =>
        clear HO2 HB2
        obtain ⟨i, hi, rfl, HO, HB⟩ := hrel
        by_cases hil : i < LL.length
        · have j1 : (i : Int) < (LL.length : Int) := by omega
          have hdj : decide ((i : Int) < (LL.length : Int)) = true := decide_eq_true j1
          obtain ⟨ad, eA, Ai, ci, q0, q1, q2⟩ := (HS.out.to HB.out).2 i hil
          subst eA
          have h1 := flat_le LL (i + 1)
          have h2 := flat_take LL i hil
          rw [h2, List.length_append] at h1
          obtain ⟨L, hL⟩ : ∃ n, n = LL[i] := ⟨_, rfl⟩
          obtain ⟨M, hM⟩ : ∃ n, n = (LL.take i).flatten := ⟨_, rfl⟩
          rw [← hL] at q0 q2 h1 h2
          rw [← hM] at HO h1 h2
          have H1 := Aside0.mk h1
          have H2 := Aside0.mk h2
          have Q2 := Aside0.mk q2
          clear h1 h2 q1 q2 hL hM
          go_wp2_with (first
            | ((with_reducible refine gate_builtin (b := .append) (xs := #[.tmp 31, .tmp 32]) rfl ?_); at_builtin; refine Kd.R_append_rows k34 (w0 := w) w.heap.size rfl (.tmp 31) (.tmp 32) 44 34 (.agg #[(.string ⟨#[]⟩), (.string ⟨#[]⟩)]) 32 rfl Tryz.underlying44 info34 rfl (by decide) (by omega) u6 M L _ _ _ (fun _ => True) (fun _ => False) rfl rfl ?aO ?aR (fun _ _ h => h) (fun _ h => h.elim) ?aF ?aB ?aS ?aL ?_; (case aR => exact Q2.out); (case aB => exact HB.out); (case aF => exact (fun _ _ => trivial)); (case aO => exact HO.out); (case aS => exact HB.out.size); (case aL => have := H1.out; have := HL.out; omega); intro v7 w7 ho7 hb7 hg7 hat7; have HO7 := Aside0.mk ho7; have HB7 := Aside0.mk hb7; clear ho7 hb7 hg7 hat7)
            | fail)
          go_roundw
          case rel => exact ⟨i + 1, by omega, by go_num, ⟨by rw [H2.out]; exact HO7.out⟩, HB7⟩
          case measure => simp [RowKit.intOf]; omega
        · obtain rfl : i = LL.length := by omega
          have hdj : decide ((LL.length : Int) < (LL.length : Int)) = false := decide_eq_false (by omega)
          rw [List.take_length] at HO
          go_wp2
          go_ret
          exact ⟨_, rfl, HO.out, HB.out⟩
def evR (l : List S34) : PV := .sl 0 2 (l.map evN)
theorem repLL {F : Nat → Nat → Prop} {w : World} {LL : List (List S34)} {v : Value} (h : RepC F w (.sl 0 1 (LL.map evR)) v) (hl : ∀ l ∈ LL, l.length ≤ 9223372036854775807) : ∃ A c, v = .slice A LL.length c ∧ SeeLL w A c LL := by
  rcases h.parts with ⟨rfl, h0⟩ | ⟨a0, c0, rfl, h0⟩ | ⟨b, o, cap, u, rfl, hc, hzz, hcell, hr⟩
  · obtain rfl : LL = [] := by simpa using h0
    exact ⟨none, 0, rfl, Nat.le_refl _, fun i hi => absurd hi (Nat.not_lt_zero _)⟩
  · obtain rfl : LL = [] := by simpa using h0
    exact ⟨some a0, c0, rfl, Nat.zero_le _, fun i hi => absurd hi (Nat.not_lt_zero _)⟩
  · rw [List.length_map] at hc hcell ⊢
    refine ⟨_, cap, rfl, hc, fun i hi => ?_⟩
    have h1 := (hcell i 0 hi (by decide)).1
    have h2 := hr i (evR LL[i]) 0 (evR LL[i]) (by rw [List.getElem?_map, List.getElem?_eq_getElem hi]; rfl) rfl
    obtain ⟨Ai, ci, e, q1, q2⟩ := flatN.toC h2 rfl (hl _ (List.getElem_mem hi))
    rw [e] at h1
    refine ⟨_, rfl, Ai, ci, ?_, q1, q2⟩
    rw [Addr.add_lit, ← h1]
    congr 2
    omega
theorem concat_pc (LL : List (List S34)) (hl : LL.flatten.length ≤ 65536) (hn : LL.length ≤ 100) : PC 46 [.sl 0 1 (LL.map evR)] (.sl 4 2 (LL.flatten.map evN)) :=
  ⟨⟨_, Tryz.func46, by kernel_rfl, rfl⟩, fun w F vs hv => by
    match vs, hv with
    | [v], hv =>
      obtain ⟨A, c, rfl, hs⟩ := repLL hv.1 (fun l hl' => by
        have : l.length ≤ LL.flatten.length := (List.sublist_flatten_of_mem hl').length_le
        omega)
      exact (concatR_calls A c LL w hs hl hn).mono fun e w' ⟨v, he, hr, hb⟩ => ⟨_, he, hb, flatN.res hr⟩
    | [], hv => exact hv.elim
    | _ :: _ :: _, hv => exact hv.2.elim⟩
end Go.Proofs.YtohdmmafjpjmfaaGreatDoor.Q
end
