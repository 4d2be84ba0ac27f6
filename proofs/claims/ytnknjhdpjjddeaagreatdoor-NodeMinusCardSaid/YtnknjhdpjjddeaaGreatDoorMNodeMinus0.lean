/- Part 0 of this claim: several texts one behind the other: PlainA, Base, Bel, Q0, DFcmpOrint, DFcmpisNaNstring, PlainV, PlainO, Ord, DFcmpComparestring, DFoctetCmp, Shelf, DParts, DCut, DRune, DAny. What each shows stands in its theorems; conditions: sizes of texts and lists, as the functions' definitions say. -/
import Derived.Test.YtnknjhdpjjddeaaGreatDoorVNodeMinus
import Derived.Sort.Grow
import Derived.Lib.OthersKept
import Derived.Test.YtnknjhdpjjddeaaGreatDoorProg
import Derived.Below
import Derived.Deep.Draws
import Derived.Deep.AppendLies
import Derived.Maps.AppendAt
import Derived.OwnWalk
import Derived.Laws.BytesArg
import Derived.Laws.MakeOwn
import Derived.Laws.OwnMore
import Derived.Deep.OwnRows
import Derived.Tactics
import Derived.Lib.ConvBytes
import Derived.Laws.Slices
import Derived.WalkKit
import Derived.KernelRfl
import Derived.RowKit3
import Derived.Deep.LoopGhost
import Derived.Deep.QuietTactic
import Derived.BigQuiet
import Derived.WideLaws
import Derived.Deep.DeepCutAuto
import Derived.Deep.CutBlock
import Derived.Deep.RegionHeld3
import Derived.Laws.Rows
import Derived.Lib.AppendStr
import Derived.ArgAppend
import Derived.Laws.IdiomCopy
import Derived.OrdersHeld
import Derived.Laws.BitsLemmas
import Derived.RowKit
import Derived.Shelf.Small.Utf8
import Derived.Shelf.Small.Bits
import Derived.Shelf.Small.Strs
import Derived.Shelf.Small.Wraps
import Derived.Shelf.Utf8.RuneCount
import Derived.Shelf.Strconv.Itoa0
import Derived.Shelf.Strings.Search1
import Derived.Shelf.Strings.Search2
import Derived.Shelf.Strings.Search3
import Derived.Shelf.Strings.Cut
import Derived.Shelf.Strings.Count
import Derived.Shelf.LaysM
import Derived.Shelf.Strings.Shaped
import Derived.Shelf.Strings.Prefix
import Derived.Shelf.Strings.Split
import Derived.Shelf.Strings.SplitShaped
import Derived.Shelf.Unicode.Decode
import Derived.Shelf.Strings.Runes
import Derived.Shelf.Strings.RuneCount
import Derived.Shelf.Strings.IndexAny
import Derived.Shelf.Strings.AsciiSet
import Derived.Shelf.Strings.IndexAnyAll
import Derived.Shelf.Strings.Explode
import Derived.Shelf.Unicode.DecodeSlow
import Derived.Shelf.Unicode.DecodeAny
import Derived.Shelf.Strings.SplitCore
import Derived.Lib.SplitLaws
import Derived.Lib.CutLaws
import Derived.RegionTactic
import Derived.BigRegion
import Derived.ChangeAlike
import Derived.Laws.Runes
import Derived.Laws.RangeAny
import Derived.WalkMore
import Derived.ScopeJumps
section
/- Plain words about texts as lists of octets (numbers below 256), and the automata of the three kinds of words. Nothing of Go stands in here. -/
set_option linter.unusedVariables false
namespace Gw
abbrev B := List Nat
def dig (c : Nat) : Bool := 48 ≤ c && c ≤ 57
def let_ (c : Nat) : Bool := (65 ≤ c && c ≤ 90) || (97 ≤ c && c ≤ 122)
/-- a letter, a digit, or one of - _ ~ -/
def inner (c : Nat) : Bool := dig c || let_ c || c == 45 || c == 95 || c == 126
def wch (c : Nat) : Bool := dig c || let_ c || c == 45
def tailc (c : Nat) : Bool := let_ c || c == 45
def parts (sep : Nat) : B → List B
  | [] => [[]]
  | c :: r => if c = sep then [] :: parts sep r else match parts sep r with
    | p :: ps => (c :: p) :: ps
    | [] => [[c]]
theorem parts_ne (sep : Nat) : ∀ s, parts sep s ≠ []
  | [] => by simp [parts]
  | c :: r => by
    unfold parts
    split
    · simp
    · split <;> simp
theorem parts_cons (sep : Nat) (s : B) : ∃ p ps, parts sep s = p :: ps := by
  cases h : parts sep s with
  | nil => exact absurd h (parts_ne sep s)
  | cons p ps => exact ⟨p, ps, rfl⟩
theorem parts_sep (sep : Nat) (r : B) : parts sep (sep :: r) = [] :: parts sep r := by simp [parts]
theorem parts_other {sep c : Nat} (h : c ≠ sep) {r p : B} {ps : List B} (hr : parts sep r = p :: ps) : parts sep (c :: r) = (c :: p) :: ps := by simp [parts, h, hr]
def isNum (s : B) : Bool := s.all dig && match s with | [] => false | c :: r => r.isEmpty || c != 48
def isElem (s : B) : Bool := match s with | [] => false | c :: r => c != 46 && (c :: r).getLast? != some 46 && (c :: r).all (fun c => inner c || c == 46)
def isPath (s : B) : Bool := (parts 47 s).all isElem
def isWord (s : B) : Bool := !s.isEmpty && s.all wch && (!s.all dig || isNum s)
/-- What is ahead of the first -, and what is behind it, if there is one. -/
def cutDash : B → B × Option B
  | [] => ([], none)
  | c :: r => if c = 45 then ([], some r) else ((c :: (cutDash r).1), (cutDash r).2)
def preOk : Option B → Bool
  | none => true
  | some r => (parts 46 r).all isWord
def coreOk (n : Nat) (core : B) : Bool := (parts 46 core).length == n && (parts 46 core).all isNum
def isVersion : B → Bool
  | 118 :: r => coreOk 3 (cutDash r).1 && preOk (cutDash r).2
  | _ => false
def isGo (s : B) : Bool := coreOk 2 s || coreOk 3 s
def isKind (k : Nat) (s : B) : Bool := if k = 0 then isPath s else if k = 1 then isVersion s else isGo s

/-! The automata. -/
structure St where
  moves : List (B × Nat)
  ends : Bool
  rest : B
def z : St := ⟨[], false, []⟩
def Bsome : B := [49, 50, 51, 52, 53, 54, 55, 56, 57]
def Bdigits : B := 48 :: Bsome
def Bletters : B := [97, 98, 99, 100, 101, 102, 103, 104, 105, 106, 107, 108, 109, 110, 111, 112, 113, 114, 115, 116, 117, 118, 119, 120, 121, 122, 65, 66, 67, 68, 69, 70, 71, 72, 73, 74, 75, 76, 77, 78, 79, 80, 81, 82, 83, 84, 85, 86, 87, 88, 89, 90]
def Binner : B := Bdigits ++ Bletters ++ [45, 95, 126]
def Btail : B := Bletters ++ [45]
def pathT : List St := [⟨[(Binner, 1)], false, [97]⟩, ⟨[(Binner, 1), ([46], 2), ([47], 0)], true, []⟩, ⟨[(Binner, 1), ([46], 2)], false, [97]⟩]
def versionT : List St := [
  ⟨[([118], 1)], false, [118, 48, 46, 48, 46, 48]⟩,
  ⟨[([48], 2), (Bsome, 3)], false, [48, 46, 48, 46, 48]⟩,
  ⟨[([46], 4)], false, [46, 48, 46, 48]⟩,
  ⟨[(Bdigits, 3), ([46], 4)], false, [46, 48, 46, 48]⟩,
  ⟨[([48], 5), (Bsome, 6)], false, [48, 46, 48]⟩,
  ⟨[([46], 7)], false, [46, 48]⟩,
  ⟨[(Bdigits, 6), ([46], 7)], false, [46, 48]⟩,
  ⟨[([48], 8), (Bsome, 9)], false, [48]⟩,
  ⟨[([45], 10)], true, []⟩,
  ⟨[(Bdigits, 9), ([45], 10)], true, []⟩,
  ⟨[([48], 11), (Bsome, 12), (Btail, 13)], false, [48]⟩,
  ⟨[(Bdigits, 14), (Btail, 13), ([46], 10)], true, []⟩,
  ⟨[(Bdigits, 12), (Btail, 13), ([46], 10)], true, []⟩,
  ⟨[(Bdigits ++ Btail, 13), ([46], 10)], true, []⟩,
  ⟨[(Bdigits, 14), (Btail, 13)], false, [97]⟩]
def goT : List St := [
  ⟨[([48], 1), (Bsome, 2)], false, [48, 46, 48]⟩,
  ⟨[([46], 3)], false, [46, 48]⟩,
  ⟨[(Bdigits, 2), ([46], 3)], false, [46, 48]⟩,
  ⟨[([48], 4), (Bsome, 5)], false, [48]⟩,
  ⟨[([46], 6)], true, []⟩,
  ⟨[(Bdigits, 5), ([46], 6)], true, []⟩,
  ⟨[([48], 7), (Bsome, 8)], false, [48]⟩,
  ⟨[], true, []⟩,
  ⟨[(Bdigits, 8)], true, []⟩]
def tab (k : Nat) : List St := if k = 0 then pathT else if k = 1 then versionT else if k = 2 then goT else []
def stepM (l : List (B × Nat)) (c : Nat) : Option Nat := match l with
  | [] => none
  | m :: r => if m.1.contains c then some m.2 else stepM r c
def at_ (k q : Nat) : St := (tab k).getD q z
def next (k q c : Nat) : Option Nat := stepM (at_ k q).moves c
/-- How much is read, and the state behind that. -/
def run (k q : Nat) : B → Nat × Nat
  | [] => (0, q)
  | c :: r => match next k q c with
    | none => (0, q)
    | some q' => ((run k q' r).1 + 1, (run k q' r).2)
def goes (k q : Nat) : B → Option Nat
  | [] => some q
  | c :: r => match next k q c with
    | none => none
    | some q' => goes k q' r
def acc (k q : Nat) (s : B) : Bool := match goes k q s with | none => false | some q' => (at_ k q').ends
def oct (s : B) : Prop := ∀ c ∈ s, c < 256

theorem path_next : ∀ q < 3, ∀ c < 256, next 0 q c = if inner c then some 1 else if c = 46 ∧ q ≠ 0 then some 2 else if c = 47 ∧ q = 1 then some 0 else none := by decide +kernel
end Gw
end

section
namespace Go.Proofs.YtnknjhdpjjddeaaGreatDoor.Q
open Go.RowKit Go.Proofs.YtnknjhdpjjddeaaGreatDoorW.PrintWords Go.Proofs.YtnknjhdpjjddeaaGreatDoorW.PrintLast Go.Proofs.YtnknjhdpjjddeaaGreatDoorW.PrintMore Gw
set_option linter.unusedVariables false
set_option linter.unusedSimpArgs false

def bs (s : ByteArray) : List Nat := s.data.toList.map UInt8.toNat
def ofB (l : List Nat) : ByteArray := ⟨(l.map UInt8.ofNat).toArray⟩
theorem bs_length (s : ByteArray) : (bs s).length = s.size := by simp [bs]
theorem bs_oct (s : ByteArray) : ∀ c ∈ bs s, c < 256 := by
  intro c hc
  simp only [bs, List.mem_map] at hc
  obtain ⟨x, _, rfl⟩ := hc
  exact x.toNat_lt
theorem bs_inj {s t : ByteArray} (h : bs s = bs t) : s = t := by
  have h2 : s.data.toList = t.data.toList := by
    refine List.map_inj_right (f := UInt8.toNat) ?_ |>.1 h
    intro a b hab
    exact UInt8.toNat_inj.1 hab
  cases s; cases t; simp only [ByteArray.mk.injEq]; exact Array.toList_inj.1 h2
theorem bs_ofB {l : List Nat} (h : ∀ c ∈ l, c < 256) : bs (ofB l) = l := by
  simp only [bs, ofB, List.map_map]
  refine (List.map_congr_left fun c hc => ?_).trans (List.map_id _)
  simp [UInt8.toNat_ofNat, Nat.mod_eq_of_lt (h c hc)]
theorem ofB_bs (s : ByteArray) : ofB (bs s) = s := bs_inj (bs_ofB (bs_oct s))
theorem bs_extract (s : ByteArray) (i j : Nat) : bs (s.extract i j) = ((bs s).take j).drop i := by
  simp only [bs, ByteArray.data_extract, Array.toList_extract, List.extract_eq_take_drop, List.map_take, List.map_drop]
  rw [List.drop_take]
theorem bs_append (s t : ByteArray) : bs (s ++ t) = bs s ++ bs t := by simp [bs]
theorem bt_drop {s : ByteArray} {i c : Nat} {r : List Nat} (h : (bs s).drop i = c :: r) : i < s.size ∧ bt s (i : Int) = (c : Int) ∧ (bs s).drop (i + 1) = r ∧ c < 256 := by
  have hl : i < (bs s).length := by
    rcases Nat.lt_or_ge i (bs s).length with h1 | h1
    · exact h1
    · rw [List.drop_eq_nil_of_le h1] at h; cases h
  rw [List.drop_eq_getElem_cons hl] at h
  injection h with h1 h2
  rw [bs_length] at hl
  refine ⟨hl, ?_, h2, ?_⟩
  · unfold bt
    simp only [Int.toNat_natCast, dif_pos hl]
    rw [← h1]
    simp [bs]
    rfl
  · rw [← h1]; exact bs_oct s _ (List.getElem_mem _)
theorem drop_nil {s : ByteArray} {i : Nat} (h : (bs s).drop i = []) (hi : i ≤ s.size) : i = s.size := by
  have := List.drop_eq_nil_iff.1 h
  rw [bs_length] at this
  omega
theorem w1 {i n : Nat} (h : i < n) (hn : n ≤ 4398046511104) : wrap64 ((i : Int) + 1) = ((i + 1 : Nat) : Int) := by
  unfold wrap64; omega
abbrev Small (s : ByteArray) : Prop := s.size ≤ 4398046511104

def cls (c : Nat) : Nat := if dig c then 1 else if let_ c then 2 else if c = 45 ∨ c = 46 ∨ c = 95 ∨ c = 126 then 3 else if c = 47 then 4 else if c = 32 ∨ c = 9 then 5 else if c = 10 then 6 else if c = 34 then 7 else if c = 40 then 8 else if c = 41 then 9 else 0
theorem cls_dig : ∀ c < 256, (cls c = 1 ↔ dig c = true) := by decide +kernel
theorem cls_let : ∀ c < 256, (cls c = 2 ↔ let_ c = true) := by decide +kernel
theorem cls_elem : ∀ c < 256, ((1 ≤ cls c ∧ cls c ≤ 3) ↔ (inner c || c == 46) = true) := by decide +kernel

def glue (cur : List Nat) : List (List Nat) → List (List Nat)
  | [] => [cur]
  | p :: ps => (cur ++ p) :: ps
theorem cur_snoc {l : List Nat} {f i c : Nat} {r : List Nat} (h : l.drop i = c :: r) (hf : f ≤ i) : (l.take (i + 1)).drop f = (l.take i).drop f ++ [c] := by
  have hl : i < l.length := by
    rcases Nat.lt_or_ge i l.length with h1 | h1
    · exact h1
    · rw [List.drop_eq_nil_of_le h1] at h; cases h
  rw [List.drop_eq_getElem_cons hl] at h
  injection h with h1 h2
  rw [List.take_succ_eq_append_getElem hl, List.drop_append_of_le_length (by rw [List.length_take]; omega), h1]
theorem ext_ofB (s : ByteArray) (f i : Nat) : s.extract f i = ofB (((bs s).take i).drop f) := by rw [← bs_extract, ofB_bs]
theorem parts_oct {sep : Nat} : ∀ {s : List Nat}, (∀ c ∈ s, c < 256) → ∀ p ∈ parts sep s, ∀ c ∈ p, c < 256
  | [], _, p, hp, c, hc => by simp [parts] at hp; subst hp; cases hc
  | x :: r, h, p, hp, c, hc => by
    obtain ⟨q, qs, hq⟩ := parts_cons sep r
    have ih := parts_oct (sep := sep) (s := r) (fun c hc => h c (List.mem_cons_of_mem _ hc))
    by_cases hx : x = sep
    · subst hx
      rw [parts_sep, List.mem_cons] at hp
      rcases hp with rfl | hp
      · cases hc
      · exact ih p hp c hc
    · rw [parts_other hx hq, List.mem_cons] at hp
      rw [hq] at ih
      rcases hp with rfl | hp
      · rcases List.mem_cons.1 hc with rfl | hc
        · exact h _ List.mem_cons_self
        · exact ih q List.mem_cons_self c hc
      · exact ih p (List.mem_cons_of_mem _ hp) c hc
theorem parts_le {sep : Nat} : ∀ (s : List Nat), (∀ p ∈ parts sep s, p.length ≤ s.length) ∧ (parts sep s).length ≤ s.length + 1
  | [] => by simp [parts]
  | x :: r => by
    obtain ⟨q, qs, hq⟩ := parts_cons sep r
    obtain ⟨ih, il⟩ := parts_le (sep := sep) r
    by_cases hx : x = sep
    · subst hx
      rw [parts_sep]
      refine ⟨fun p hp => ?_, by simp; omega⟩
      rcases List.mem_cons.1 hp with rfl | hp
      · simp
      · have := ih p hp; simp; omega
    · rw [parts_other hx hq]
      rw [hq] at ih il
      refine ⟨fun p hp => ?_, by simp at il ⊢; omega⟩
      rcases List.mem_cons.1 hp with rfl | hp
      · have := ih q List.mem_cons_self; simp; omega
      · have := ih p (List.mem_cons_of_mem _ hp); simp; omega

theorem bt_at_get (s : ByteArray) (i : Nat) (h : i < s.size) : bt s (i : Int) = (((bs s)[i]'(by rw [bs_length]; exact h) : Nat) : Int) := by
  have hd : (bs s).drop i = (bs s)[i]'(by rw [bs_length]; exact h) :: (bs s).drop (i + 1) := List.drop_eq_getElem_cons _
  exact (bt_drop hd).2.1
theorem rdOf_nat {l : List ByteArray} {i : Nat} {x : ByteArray} {r : List ByteArray} (h : l.drop i = x :: r) : i < l.length ∧ rdOf ByteArray.empty l (i : Int) = x ∧ l.drop (i + 1) = r := by
  have hl : i < l.length := by
    rcases Nat.lt_or_ge i l.length with h1 | h1
    · exact h1
    · rw [List.drop_eq_nil_of_le h1] at h; cases h
  rw [List.drop_eq_getElem_cons hl] at h
  injection h with h1 h2
  refine ⟨hl, ?_, h2⟩
  simp [rdOf, List.getD_eq_getElem?_getD, List.getElem?_eq_getElem hl, h1]
theorem wl {i n : Nat} (h : i < n) (hn : n ≤ 8796093022208) : wrap64 ((i : Int) + 1) = ((i + 1 : Nat) : Int) := by
  unfold wrap64; omega
theorem parts_small {s : ByteArray} (hs : Small s) (sep : Nat) : ((parts sep (bs s)).map ofB).length ≤ s.size + 1 ∧ ∀ x ∈ (parts sep (bs s)).map ofB, Small x ∧ x.size ≤ s.size := by
  have h := parts_le (sep := sep) (bs s)
  rw [bs_length] at h
  refine ⟨by rw [List.length_map]; exact h.2, fun x hx => ?_⟩
  obtain ⟨p, hp, rfl⟩ := List.mem_map.1 hx
  have h2 := h.1 p hp
  have h3 : (ofB p).size = p.length := by rw [← bs_length, bs_ofB (parts_oct (bs_oct s) p hp)]
  unfold Small at *
  omega
theorem parts_all (s : ByteArray) (sep : Nat) (q : List Nat → Bool) : ((parts sep (bs s)).map ofB).all (fun x => q (bs x)) = (parts sep (bs s)).all q := by
  rw [List.all_map]
  have : ∀ p ∈ parts sep (bs s), q (bs (ofB p)) = q p := fun p hp => by rw [bs_ofB (parts_oct (bs_oct s) p hp)]
  rw [Bool.eq_iff_iff]
  simp only [List.all_eq_true, Function.comp]
  exact ⟨fun h p hp => by rw [← this p hp]; exact h p hp, fun h p hp => by rw [this p hp]; exact h p hp⟩
theorem less_irrefl : ∀ l : List UInt8, Op.bytesLess l l = false
  | [] => rfl
  | a :: r => by simp [Op.bytesLess, less_irrefl r]
theorem less_tri : ∀ x y : List UInt8, Op.bytesLess x y = false → Op.bytesLess y x = false → x = y
  | [], [], _, _ => rfl
  | [], b :: y, h, _ => by simp [Op.bytesLess] at h
  | a :: x, [], _, h => by simp [Op.bytesLess] at h
  | a :: x, b :: y, h, h2 => by
    simp only [Op.bytesLess, Bool.or_eq_false_iff, decide_eq_false_iff_not, Bool.and_eq_false_iff, beq_eq_false_iff_ne] at h h2
    have hab : a = b := UInt8.le_antisymm (UInt8.not_lt.1 h2.1) (UInt8.not_lt.1 h.1)
    subst hab
    rw [less_tri x y (h.2.resolve_left (fun e => e rfl)) (h2.2.resolve_left (fun e => e rfl))]
theorem bytes_ne {x y : List UInt8} (h : Op.bytesLess y x = true) : (x == y) = false := by
  rw [beq_eq_false_iff_ne]; intro e; subst e; rw [less_irrefl] at h; cases h
theorem bytes_eq {x y : List UInt8} (h : Op.bytesLess x y = false) (h2 : Op.bytesLess y x = false) : (x == y) = true := by
  rw [beq_iff_eq]; exact less_tri x y h h2
end Go.Proofs.YtnknjhdpjjddeaaGreatDoor.Q
end

section
namespace Go.Proofs.YtnknjhdpjjddeaaGreatDoor.QB
open Go Go.RowKit Go.Sort Go.Proofs.YtnknjhdpjjddeaaGreatDoorW.PrintWords Go.Proofs.YtnknjhdpjjddeaaGreatDoorW.PrintLast Go.Proofs.YtnknjhdpjjddeaaGreatDoorW.PrintMore
set_option linter.unusedVariables false
structure Below (B : Nat) (w w' : World) : Prop extends Go.RowKit.Below B w w' where
  drawn : w.drawn ≤ w'.drawn
theorem Below.refl (B : Nat) (w : World) : Below B w w := ⟨Go.RowKit.Below.refl B w, Nat.le_refl _⟩
theorem Below.trans {B : Nat} {a b c : World} (h : Below B a b) (k : Below B b c) : Below B a c := ⟨h.toBelow.trans k.toBelow, Nat.le_trans h.drawn k.drawn⟩
theorem Below.mono {B B' : Nat} {w w' : World} (h : Below B w w') (hB : B' ≤ B) : Below B' w w' := ⟨h.toBelow.mono hB, h.drawn⟩
theorem Below.alloc {B : Nat} {w w' : World} (h : Below B w w') (hB : B ≤ w'.heap.size) (o : Obj) : Below B w (w'.alloc o) := ⟨h.toBelow.alloc hB o, h.drawn⟩
theorem Below.drew {B : Nat} {w w' : World} (h : Below B w w') : Below B w w'.drew := ⟨h.toBelow.drew, Nat.le_trans h.drawn (Nat.le_succ _)⟩
theorem Below.drewN {B : Nat} {w w' : World} (h : Below B w w') (n : Nat) : Below B w (w'.drewN n) := ⟨Go.Proofs.YtnknjhdpjjddeaaGreatDoorW.PrintWords.pw_below_drewN h.toBelow n, Nat.le_trans h.drawn (Nat.le_add_right _ n)⟩
theorem below_alloc {w W : World} (h : Below w.heap.size w W) (o : Obj) : Below w.heap.size w (W.alloc o) := h.alloc h.size o
theorem below_drew {B : Nat} {w W : World} (h : Below B w W) : Below B w W.drew := h.drew
theorem below_drew1 {B : Nat} {w W : World} (h : Below B w W) : Below B w W.drew := h.drew
theorem pw_below_drewN {B : Nat} {w W : World} (h : Below B w W) (n : Nat) : Below B w (W.drewN n) := h.drewN n
theorem below_set {w W : World} {g j : Nat} {v : Value} (h : Below w.heap.size w W) (hg : w.heap.size ≤ g) : Below w.heap.size w (W.setCell ⟨g, j, none⟩ v) := ⟨Go.Proofs.YtnknjhdpjjddeaaGreatDoorW.PrintWords.below_set h.toBelow hg, h.drawn⟩
theorem below_size {w W : World} (h : Below w.heap.size w W) : w.heap.size ≤ W.heap.size := h.size
theorem below_step {w W w2 : World} (h : Below w.heap.size w W) (k : Below W.heap.size W w2) : Below w.heap.size w w2 := h.trans (k.mono h.size)
theorem blk_below {w w1 : World} {g : Nat} {o : Obj} (h : w.heap[g]? = some o) (hb : Below w.heap.size w w1) : w1.heap[g]? = some o := Go.Proofs.YtnknjhdpjjddeaaGreatDoorW.PrintWords.blk_below h hb.toBelow
theorem drawn_below {w w' : World} (h : Drawn0 w w') : Below w.heap.size w w' := by
  obtain ⟨n, rfl⟩ := h
  exact (Below.refl _ _).drewN n
theorem Kd.R_below {α : Type} {d : Kd α} {e : Nat} {w w1 : World} {base : Nat} {ok : Nat → Prop} {v : Value} {xs : List α} (h : d.R e w base ok v xs) (hb : Below w.heap.size w w1) : d.R e w1 base ok v xs := Go.Proofs.YtnknjhdpjjddeaaGreatDoorW.PrintWords.Kd.R_below h hb.toBelow
theorem Kd.C_below {α : Type} {d : Kd α} {w w1 : World} {xs : List α} {A : Option Addr} {n : Nat} (h : d.C w A n xs) (hb : Below w.heap.size w w1) : d.C w1 A n xs := Go.Proofs.YtnknjhdpjjddeaaGreatDoorW.PrintWords.Kd.C_below h hb.toBelow
theorem Kd.R_elder' {α : Type} {d : Kd α} {e : Nat} {W w1 : World} {base : Nat} {ok : Nat → Prop} {u v : Value} {xs : List α} (hu : d.R e W base ok u xs) (hbase : ∀ k, v.ownBlock = some k → W.heap.size ≤ k) (hb : Below W.heap.size W w1) : d.R e w1 base (fun k => ok k ∧ some k ≠ v.ownBlock) u xs := Go.Proofs.YtnknjhdpjjddeaaGreatDoorW.PrintWords.Kd.R_elder' hu hbase hb.toBelow
theorem below_iterAt {B : Nat} {w W : World} (h : Below B w W) {k : Nat} (hk : B ≤ k) (s : ByteArray) (i : Nat) : Below B w (W.iterAt k s i) := ⟨Go.Lib.below_iterAt h.toBelow hk s i, h.drawn⟩
section
variable {α : Type} {P : Program} {ops : Array Oper} {rest : List Oper} {o : Oper} {a : Act} {Q : Exit → Act → World → Prop} {Kc : Act → World → Prop}
theorem Kd.lit_new (d : Kd α) {W : World} (base e : Nat) {xs : List α} {inner : List Value} {ok okp : Nat → Prop} (hrep : Reps (d.M W base okp) d.sz xs inner) (hok : ∀ k, okp k → ok k) (hfresh : ok W.heap.size) (hbase : base ≤ W.heap.size) (hm : xs.length ≤ 9223372036854775807) :
    d.R e (W.alloc (.cells inner.toArray e)) base ok (.slice (some ⟨W.heap.size, 0, none⟩) xs.length xs.length) xs := by
  refine ⟨fun k hk => ?_, inner, ?_, ?_⟩
  · have : W.heap.size = k := by simpa [Value.ownBlock] using hk
    subst this
    exact hfresh
  · have h2 := World.ownsRow_lit (base := base) (e := e) (size := d.sz) W inner.toArray xs.length hbase (by simpa [maxLen] using hm) (by simpa using hrep.1)
    simpa using h2
  · refine hrep.imp_ (fun p c hp => d.M_mono (fun k hk => ⟨hok k hk.1, fun he => ?_⟩) (Go.Proofs.YtnknjhdpjjddeaaGreatDoorW.PrintWords.Kd.M_below (d.M_bound hp) (Go.Proofs.YtnknjhdpjjddeaaGreatDoorW.PrintWords.below_alloc (Go.RowKit.Below.refl _ _) _)))
    have h3 : k = W.heap.size := by simpa [Value.ownBlock] using he
    have := hk.2.2.1
    omega
theorem Kd.R_lit (d : Kd α) {w0 W : World} (base e : Nat) (hgd : o.guard = none) {N : Tmp} (_hd : o.dst = some N) {xs : List α} {inner : List Value} {ok okp : Nat → Prop}
    (hrun : (execOp a.eval o).run P W = .ok (.value (.slice (some ⟨W.heap.size, 0, none⟩) xs.length xs.length)) (W.alloc (.cells inner.toArray e)))
    (hrep : Reps (d.M W base okp) d.sz xs inner) (hok : ∀ k, okp k → ok k) (hfresh : ok W.heap.size) (HB : Below base w0 W) (hbase : base ≤ W.heap.size) (hm : xs.length ≤ 9223372036854775807)
    (h : ∀ v1 w1, d.R e w1 base ok v1 xs → Below base w0 w1 → W.grownBy w1 none → (∃ b, v1.ownBlock = some b ∧ W.heap.size ≤ b) → wpList P ops Q rest (a.put o.dst v1) w1) : wpList P ops Q (o :: rest) a W :=
  Go.Proofs.YtnknjhdpjjddeaaGreatDoorW.PrintWords.Kd.event_run hgd hrun (h _ _ (Kd.lit_new d base e hrep hok hfresh hbase hm) (HB.alloc hbase _) (World.grownBy_alloc W _ none) ⟨W.heap.size, by simp [Value.ownBlock], Nat.le_refl _⟩)
theorem Kd.R_lit_step (d : Kd α) {w0 W : World} (base e : Nat) (hw : Region.wanted o (yielded ops a.tmps) = true) {N : Tmp} (_hd : o.dst = some N) {xs : List α} {inner : List Value} {ok okp : Nat → Prop}
    (hrun : (execOp a.eval o).run P W = .ok (.value (.slice (some ⟨W.heap.size, 0, none⟩) xs.length xs.length)) (W.alloc (.cells inner.toArray e)))
    (hrep : Reps (d.M W base okp) d.sz xs inner) (hok : ∀ k, okp k → ok k) (hfresh : ok W.heap.size) (HB : Below base w0 W) (hbase : base ≤ W.heap.size) (hm : xs.length ≤ 9223372036854775807)
    (h : ∀ v1 w1, d.R e w1 base ok v1 xs → Below base w0 w1 → W.grownBy w1 none → (∃ b, v1.ownBlock = some b ∧ W.heap.size ≤ b) → Kc (a.put o.dst v1) w1) : if Region.wanted o (yielded ops a.tmps) = true then Oper.wp P o a W Kc Q else Kc (a.put o.dst undef) W :=
  Go.Proofs.YtnknjhdpjjddeaaGreatDoorW.PrintWords.event_step hw hrun (h _ _ (Kd.lit_new d base e hrep hok hfresh hbase hm) (HB.alloc hbase _) (World.grownBy_alloc W _ none) ⟨W.heap.size, by simp [Value.ownBlock], Nat.le_refl _⟩)
theorem box_event {W : World} (hgd : o.guard = none) {N : Tmp} (_hd : o.dst = some N) {cs : Array Value} {t : TypeId}
    (hrun : (execOp a.eval o).run P W = .ok (.value (.pointer (some ⟨W.heap.size, 0, none⟩))) (W.alloc (.cells cs t (0, 0))))
    (h : ∀ g, g = W.heap.size → ∀ w1, w1.heap[g]? = some (.cells cs t (0, 0)) → Below W.heap.size W w1 → wpList P ops Q rest (a.put o.dst (.pointer (some ⟨g, 0, none⟩))) w1) : wpList P ops Q (o :: rest) a W :=
  Go.Proofs.YtnknjhdpjjddeaaGreatDoorW.PrintWords.Kd.event_run hgd hrun (h _ rfl _ (blk_new W _) (below_alloc (Below.refl _ _) _))
theorem box_step {W : World} (hw : Region.wanted o (yielded ops a.tmps) = true) {N : Tmp} (_hd : o.dst = some N) {cs : Array Value} {t : TypeId}
    (hrun : (execOp a.eval o).run P W = .ok (.value (.pointer (some ⟨W.heap.size, 0, none⟩))) (W.alloc (.cells cs t (0, 0))))
    (h : ∀ g, g = W.heap.size → ∀ w1, w1.heap[g]? = some (.cells cs t (0, 0)) → Below W.heap.size W w1 → Kc (a.put o.dst (.pointer (some ⟨g, 0, none⟩))) w1) : if Region.wanted o (yielded ops a.tmps) = true then Oper.wp P o a W Kc Q else Kc (a.put o.dst undef) W :=
  Go.Proofs.YtnknjhdpjjddeaaGreatDoorW.PrintWords.event_step hw hrun (h _ rfl _ (blk_new W _) (below_alloc (Below.refl _ _) _))
end
/-- Nothing drawn back, nothing turned: draws and new blocks. -/
theorem Below.grows {w w' : World} (h : Below w.heap.size w w') : ∃ q os, w' = grow (w.drewN q) os := by
  refine ⟨w'.drawn - w.drawn, w'.heap.extract w.heap.size w'.heap.size, ?_⟩
  have hd := h.drawn
  have hh : w'.heap = w.heap ++ w'.heap.extract w.heap.size w'.heap.size := by
    apply Array.ext_getElem?
    intro i
    rw [Array.getElem?_append]
    split
    · exact h.block i (by assumption)
    · have := h.size
      by_cases hi : i < w'.heap.size
      · rw [Array.getElem?_extract]
        simp; rw [if_pos (by omega)]; congr 1; omega
      · rw [Array.getElem?_extract]
        simp; rw [if_neg (by omega), Array.getElem?_eq_none (by omega)]
  have h1 := h.os
  have h2 := h.tape
  have h3 := h.output
  cases w' with
  | mk heap tape drawn os output =>
    cases w with
    | mk heap0 tape0 drawn0 os0 output0 =>
      simp only at hh h1 h2 h3 hd
      simp only [grow, World.drewN, World.mk.injEq]
      subst h1 h2 h3
      exact ⟨hh, rfl, by omega, rfl, rfl⟩
end Go.Proofs.YtnknjhdpjjddeaaGreatDoor.QB
end

section
namespace Go.Proofs.YtnknjhdpjjddeaaGreatDoor.Q
open Go.RowKit Go.Proofs.YtnknjhdpjjddeaaGreatDoorW.PrintWords Go.Proofs.YtnknjhdpjjddeaaGreatDoorW.PrintLast Go.Proofs.YtnknjhdpjjddeaaGreatDoorW.PrintMore
attribute [local go_sem] max2_int min2_int max_two min_two max_three min_three max_four min_four   -- for this text's walks alone
set_option linter.unusedVariables false
set_option linter.unusedSimpArgs false



def errW : Option Int → Value
  | none => .nilIface
  | some c => .iface 0 (.int .i64 c)
theorem errW_none : errW none = .nilIface := rfl
theorem errW_some (c : Int) : errW (some c) = .iface 0 (.int .i64 c) := rfl

theorem info3 : (Tryz.prog.info? 3).map (fun i => (i.zero, i.size, i.bytes)) = some (some (.int .i64 0), 1, 8) := by kernel_rfl
theorem info9 : (Tryz.prog.info? 9).map (fun i => (i.zero, i.size, i.bytes)) = some (some (.string ⟨#[]⟩), 1, 16) := by kernel_rfl
theorem info32 : (Tryz.prog.info? 32).map (fun i => (i.zero, i.size, i.bytes)) = some (some (.agg #[(.string ⟨#[]⟩), (.string ⟨#[]⟩)]), 2, 32) := by kernel_rfl
-- the values' own types
/-! #### struct type 32 -/
structure S32 where
  f0 : ByteArray
  f1 : ByteArray
def z32 : S32 := ⟨(⟨#[]⟩ : ByteArray), (⟨#[]⟩ : ByteArray)⟩
def k32 : Kd S32 := Kd.iso (Kd.pair Kd.string Kd.string) (fun x : S32 => (x.f0, x.f1))
theorem k32_open {w : World} {x : S32} {cs : List Value} (h : k32.K w x cs) : cs = [.string x.f0, .string x.f1] := by
  obtain ⟨_, _, rfl, rfl, rfl⟩ := h
  exact rfl
theorem k32_openM {w : World} {base : Nat} {ok : Nat → Prop} {x : S32} {cs : List Value} (h : k32.M w base ok x cs) : cs = [.string x.f0, .string x.f1] := by
  obtain ⟨_, _, rfl, rfl, rfl⟩ := h
  exact rfl
theorem k32_mk (w : World) (x : S32)  : k32.K w x [.string x.f0, .string x.f1] := ⟨[.string x.f0], [.string x.f1], rfl, rfl, rfl⟩
theorem k32_mkM (w : World) (base : Nat) (ok : Nat → Prop) (x : S32)  : k32.M w base ok x [.string x.f0, .string x.f1] := ⟨[.string x.f0], [.string x.f1], rfl, rfl, rfl⟩
def rd_T32 (xs : List S32) (i : Int) : S32 := xs.getD i.toNat z32
theorem at_T32 {w : World} {A : Option Addr} {n : Nat} {xs : List S32} (h : Kd.C k32 w A n xs) (i : Int) (h0 : 0 ≤ i) (h1 : i < n) : ∃ ad , A = some ad ∧ w.cell? (ad.add (i.toNat * 2)) = some (.string (rd_T32 xs i).f0) ∧ w.cell? ⟨(ad.add (i.toNat * 2)).block, (ad.add (i.toNat * 2)).off + 1, none⟩ = some (.string (rd_T32 xs i).f1) := by
  obtain ⟨ad, c, e, _, hK, hc0⟩ := Kd.C_get h z32 i h0 h1
  have hc : ∀ j u, c[j]? = some u → w.cell? (ad.add (i.toNat * 2 + j)) = some u := hc0
  obtain rfl := k32_open hK
  exact ⟨ad, e, hc 0 _ rfl, by rw [← add_field _ _ 1 (by omega)]; exact hc 1 _ rfl⟩

end Go.Proofs.YtnknjhdpjjddeaaGreatDoor.Q
end

section
namespace Go.Proofs.YtnknjhdpjjddeaaGreatDoor.QB.D
open Go.Proofs.YtnknjhdpjjddeaaGreatDoor.Q
open Go.RowKit Go.Proofs.YtnknjhdpjjddeaaGreatDoorW.PrintWords Go.Proofs.YtnknjhdpjjddeaaGreatDoorW.PrintLast Go.Proofs.YtnknjhdpjjddeaaGreatDoorW.PrintMore
attribute [local go_sem] max2_int min2_int max_two min_two max_three min_three max_four min_four   -- for this text's walks alone
set_option linter.unusedVariables false
set_option linter.unusedSimpArgs false

/-! ### cmp_Or_int: function 44 -/
def cmp_Or_int.l0 : Nat → Int → List Int → Int → Int → Option (Int)
  | 0, _, _, _, _ => none
  | k + 1, x3, x6, x7, x8 => if x8 < x7 then (if 0 ≤ x8 then (if x8 < (x6.length : Int) then (if (rd x6 x8) = x3 then (cmp_Or_int.l0 k x3 x6 x7 (wrap64 (x8 + 1))) else (some (rd x6 x8))) else (none)) else (none)) else (some x3)
def cmp_Or_int.f (k : Nat) (l0 : List Int) : Option (Int) := cmp_Or_int.l0 k 0 l0 (l0.length : Int) 0
theorem cmp_Or_int.mono_l : ∀ k, (∀ y0 y1 y2 y3, LeO (cmp_Or_int.l0 k y0 y1 y2 y3) (cmp_Or_int.l0 (k + 1) y0 y1 y2 y3))
  | 0 => fun _ _ _ _ r h => by simp [cmp_Or_int.l0] at h
  | k + 1 => by
    have ih0 := cmp_Or_int.mono_l k
    · intro y0 y1 y2 y3
      unfold cmp_Or_int.l0
      repeat' first
      | (with_reducible exact ih0 _ _ _ _)
      | (with_reducible exact LeO.refl _)
      | (with_reducible exact LeO.none _)
      | (with_reducible refine LeO.ite ?_ ?_)
      | (with_reducible refine LeO.bind ?_ (fun _ => ?_))
      | exact ih0 _ _ _ _
      | exact LeO.none _
      | refine LeO.ite ?_ ?_
      | refine LeO.bind ?_ (fun _ => ?_)
theorem cmp_Or_int.mono : ∀ a0 k, LeO (cmp_Or_int.f k a0) (cmp_Or_int.f (k + 1) a0) := by
  intro a0 k
  have ih0 := cmp_Or_int.mono_l k
  unfold cmp_Or_int.f
  repeat' first
      | (with_reducible exact ih0 _ _ _ _)
      | (with_reducible exact LeO.refl _)
      | (with_reducible exact LeO.none _)
      | (with_reducible refine LeO.ite ?_ ?_)
      | (with_reducible refine LeO.bind ?_ (fun _ => ?_))
      | exact ih0 _ _ _ _
      | exact LeO.none _
      | refine LeO.ite ?_ ?_
      | refine LeO.bind ?_ (fun _ => ?_)
set_option maxHeartbeats 8000000 in
set_option maxRecDepth 100000 in
theorem cmp_Or_int.calls (k : Nat) (A0 : Option Addr) (c0 : Nat) (l0 : List Int) (r : Int) (w : World) (hr0 : Kd.C (Kd.int .i64) w A0 l0.length l0) (hc0 : l0.length ≤ c0) (h : cmp_Or_int.f k l0 = some r) :
    Calls Tryz.prog 44 #[.slice A0 l0.length c0] w fun e w' => e = .returned (.int .i64 r) ∧ Drawn0 w w' := by
  have HR0 := Aside0.mk hr0
  have HC0 := Aside0.mk hc0
  clear hr0 hc0
  have H : (cmp_Or_int.l0 k 0 l0 (l0.length : Int) 0) = some r := h
  clear h
  have H' := Aside0.mk H
  clear H
  go_enter Tryz.func44, Tryz.ntmps44
  go_wp2
  go_loopg [8] k (fun kq v8 w' => ∃ (x8_1 : Int), v8 = .int .i64 x8_1 ∧ Aside0 (cmp_Or_int.l0 kq 0 l0 (l0.length : Int) x8_1 = some r) ∧ Aside0 (kq ≤ k) ∧ Drawn0 w w')
  case atStart => exact ⟨(0), (by first | rfl | (simp; done) | (simp [*]; done)), H', ⟨Nat.le_refl _⟩, by repeat (first | exact Drawn0.refl _ | apply Drawn0.step)⟩
  case round =>
    clear H'
    obtain ⟨x8_1, rfl, HA, HK1, ⟨m1, rfl⟩⟩ := hrel
    cases gk with
    | zero => exact absurd HA.out (by simp [cmp_Or_int.l0])
    | succ k1 =>
      have H := HA.out
      clear HA
      simp only [cmp_Or_int.l0] at H
      by_cases c2 : x8_1 < (l0.length : Int)
      · rw [if_pos c2] at H
        have c2b0 : decide (x8_1 < (l0.length : Int)) = true := decide_eq_true c2
        clear c2
        by_cases c3 : 0 ≤ x8_1
        · rw [if_pos c3] at H
          have c3b0 : decide (0 ≤ x8_1) = true := decide_eq_true c3
          clear c3
          by_cases c4 : x8_1 < (l0.length : Int)
          · rw [if_pos c4] at H
            have c4b0 : decide (x8_1 < (l0.length : Int)) = true := decide_eq_true c4
            clear c4
            by_cases c5 : (rd l0 x8_1) = 0
            · rw [if_pos c5] at H
              have c5b0 : ((rd l0 x8_1) == 0) = true := beq_iff_eq.mpr c5
              have c5b1 : ((rd l0 x8_1) != 0) = false := bne_eq_false_iff_eq.mpr c5
              clear c5
              have H' := Aside0.mk H
              clear H
              have p135 : 0 ≤ (x8_1 : Int) := of_decide_eq_true (by first | (with_reducible assumption) | assumption)
              have q135 : x8_1 < (l0.length : Int) := of_decide_eq_true (by first | (with_reducible assumption) | assumption)
              obtain ⟨ad135, e135, hx135_0⟩ := Kd.at_int HR0.out x8_1 p135 q135
              cases e135
              replace p135 := eq_true p135
              replace q135 := eq_true q135
              go_wp2
              go_roundg k1
              case measure => have := HK1.out; omega
              case rel => exact ⟨(wrap64 (x8_1 + 1)), (by first | rfl | (simp; done) | (simp [*]; done)), H', ⟨by have := HK1.out; omega⟩, by repeat (first | exact Drawn0.refl _ | apply Drawn0.step)⟩
            · rw [if_neg c5] at H
              have c5b0 : ((rd l0 x8_1) == 0) = false := beq_eq_false_iff_ne.mpr c5
              have c5b1 : ((rd l0 x8_1) != 0) = true := bne_iff_ne.mpr c5
              obtain rfl := Option.some.inj H
              have p135 : 0 ≤ (x8_1 : Int) := of_decide_eq_true (by first | (with_reducible assumption) | assumption)
              have q135 : x8_1 < (l0.length : Int) := of_decide_eq_true (by first | (with_reducible assumption) | assumption)
              obtain ⟨ad135, e135, hx135_0⟩ := Kd.at_int HR0.out x8_1 p135 q135
              cases e135
              replace p135 := eq_true p135
              replace q135 := eq_true q135
              go_wp2
              go_ret
              exact ⟨by first | rfl | (simp; done) | (simp [*]; done), by repeat (first | exact Drawn0.refl _ | apply Drawn0.step)⟩
          · rw [if_neg c4] at H
            exact absurd H (by simp)
        · rw [if_neg c3] at H
          exact absurd H (by simp)
      · rw [if_neg c2] at H
        have c2b0 : decide (x8_1 < (l0.length : Int)) = false := decide_eq_false c2
        clear c2
        obtain rfl := Option.some.inj H
        go_wp2
        go_ret
        exact ⟨by first | rfl | (simp; done) | (simp [*]; done), by repeat (first | exact Drawn0.refl _ | apply Drawn0.step)⟩

end Go.Proofs.YtnknjhdpjjddeaaGreatDoor.QB.D
end

section
namespace Go.Proofs.YtnknjhdpjjddeaaGreatDoor.QB.D
open Go.Proofs.YtnknjhdpjjddeaaGreatDoor.Q
open Go.RowKit Go.Proofs.YtnknjhdpjjddeaaGreatDoorW.PrintWords Go.Proofs.YtnknjhdpjjddeaaGreatDoorW.PrintLast Go.Proofs.YtnknjhdpjjddeaaGreatDoorW.PrintMore
attribute [local go_sem] max2_int min2_int max_two min_two max_three min_three max_four min_four   -- for this text's walks alone
set_option linter.unusedVariables false
set_option linter.unusedSimpArgs false

/-! ### cmp_isNaN_string: function 84 -/
def cmp_isNaN_string.f (a0 : ByteArray) : Option (Bool) := some (a0.toList != a0.toList)
set_option maxHeartbeats 8000000 in
set_option maxRecDepth 100000 in
theorem cmp_isNaN_string.calls (a0 : ByteArray) (r : Bool) (w : World) (h : cmp_isNaN_string.f a0 = some r) :
    Calls Tryz.prog 84 #[.string a0] w fun e w' => e = .returned (.bool r) ∧ Drawn0 w w' := by
  have H : (some (a0.toList != a0.toList)) = some r := h
  clear h
  obtain rfl := Option.some.inj H
  go_enter Tryz.func84, Tryz.ntmps84
  go_wp2
  go_ret
  exact ⟨by first | rfl | (simp; done) | (simp [*]; done), by repeat (first | exact Drawn0.refl _ | apply Drawn0.step)⟩

end Go.Proofs.YtnknjhdpjjddeaaGreatDoor.QB.D
end

section
set_option linter.unusedVariables false
namespace Gw
abbrev VP := B × B × B × List B
def vpre (a b c : B) (pre : Option B) : Option VP := match pre with
  | none => some (a, b, c, [])
  | some p => if (parts 46 p).all isWord then some (a, b, c, parts 46 p) else none
def vcore (core : B) (pre : Option B) : Option VP := match parts 46 core with
  | [a, b, c] => if isNum a && isNum b && isNum c then vpre a b c pre else none
  | _ => none
def vparts : B → Option VP
  | 118 :: r => vcore (cutDash r).1 (cutDash r).2
  | _ => none
theorem vcore_some (core : B) (pre : Option B) : (vcore core pre).isSome = (coreOk 3 core && preOk pre) := by
  unfold vcore coreOk vpre
  rcases hp : parts 46 core with _ | ⟨a, _ | ⟨b, _ | ⟨c, _ | ⟨d, l⟩⟩⟩⟩
  · rfl
  · rfl
  · rfl
  · simp only [List.length_cons, List.length_nil, List.all_cons, List.all_nil, Bool.and_true]
    cases isNum a <;> cases isNum b <;> cases isNum c <;> try rfl
    cases pre with
    | none => rfl
    | some p =>
      simp only [preOk]
      cases (parts 46 p).all isWord <;> rfl
  · simp
theorem vparts_some (s : B) : (vparts s).isSome = isVersion s := by
  unfold vparts isVersion
  split
  · exact vcore_some _ _
  · rename_i h
    first
      | rfl
      | (split
         · exact absurd rfl (h _)
         · rfl)
end Gw
end

section
set_option linter.unusedVariables false
namespace Gw
def orI (x y : Int) : Int := if x = 0 then y else x
/-- A comparison that is an order among what P lets in. -/
structure TO {α : Type} (P : α → Prop) (c : α → α → Int) : Prop where
  tri : ∀ a b, c a b = -1 ∨ c a b = 0 ∨ c a b = 1
  sym : ∀ a b, P a → P b → c b a = - c a b
  eq : ∀ a b, P a → P b → (c a b = 0 ↔ a = b)
  tr : ∀ a b d, P a → P b → P d → c a b < 0 → c b d < 0 → c a d < 0
def cmpN (n m : Nat) : Int := if n < m then -1 else if m < n then 1 else 0
def lexC : List Nat → List Nat → Int
  | [], [] => 0
  | [], _ :: _ => -1
  | _ :: _, [] => 1
  | a :: x, b :: y => if a < b then -1 else if b < a then 1 else lexC x y
def numC (a b : B) : Int := orI (cmpN a.length b.length) (lexC a b)
def wordC (a b : B) : Int := if isNum a then (if isNum b then numC a b else -1) else if isNum b then 1 else lexC a b
def wordsC : List B → List B → Int
  | [], [] => 0
  | [], _ :: _ => -1
  | _ :: _, [] => 1
  | a :: x, b :: y => orI (wordC a b) (wordsC x y)
def preC (x y : List B) : Int := if x = [] ∨ y = [] then cmpN y.length x.length else wordsC x y
def preK : List B → Int := fun l => if l = [] then 1 else 0
def flagC (x y : List B) : Int := if x = [] then (if y = [] then 0 else 1) else if y = [] then -1 else 0
def verC (x y : VP) : Int := orI (numC x.1 y.1) (orI (numC x.2.1 y.2.1) (orI (numC x.2.2.1 y.2.2.1) (orI (flagC x.2.2.2 y.2.2.2) (wordsC x.2.2.2 y.2.2.2))))
theorem orI_tri {x y : Int} (hx : x = -1 ∨ x = 0 ∨ x = 1) (hy : y = -1 ∨ y = 0 ∨ y = 1) : orI x y = -1 ∨ orI x y = 0 ∨ orI x y = 1 := by
  unfold orI; split <;> assumption
theorem cmpN_to : TO (fun _ : Nat => True) cmpN := by
  refine ⟨fun a b => ?_, fun a b _ _ => ?_, fun a b _ _ => ?_, fun a b d _ _ _ => ?_⟩ <;> unfold cmpN <;> (repeat' split) <;> omega
theorem lexC_tri : ∀ a b, lexC a b = -1 ∨ lexC a b = 0 ∨ lexC a b = 1
  | [], [] => by simp [lexC]
  | [], _ :: _ => by simp [lexC]
  | _ :: _, [] => by simp [lexC]
  | a :: x, b :: y => by
    have := lexC_tri x y
    unfold lexC
    repeat' split
    all_goals first | omega | exact this
theorem lexC_sym : ∀ a b, lexC b a = - lexC a b
  | [], [] => by simp [lexC]
  | [], _ :: _ => by simp [lexC]
  | _ :: _, [] => by simp [lexC]
  | a :: x, b :: y => by
    have := lexC_sym x y
    unfold lexC
    repeat' split
    all_goals first | omega | exact this
theorem lexC_eq : ∀ a b, lexC a b = 0 ↔ a = b
  | [], [] => by simp [lexC]
  | [], _ :: _ => by simp [lexC]
  | _ :: _, [] => by simp [lexC]
  | a :: x, b :: y => by
    have := lexC_eq x y
    unfold lexC
    rw [List.cons.injEq]
    repeat' split
    all_goals first | (simp; omega) | (rw [this]; constructor <;> intro h <;> first | exact h.2 | exact ⟨by omega, h⟩)
theorem lexC_tr : ∀ a b d, lexC a b < 0 → lexC b d < 0 → lexC a d < 0
  | [], [], _, h, _ => by simp [lexC] at h
  | [], _ :: _, [], _, h => by simp [lexC] at h
  | [], _ :: _, _ :: _, _, _ => by simp [lexC]
  | _ :: _, [], _, h, _ => by simp [lexC] at h
  | _ :: _, _ :: _, [], _, h => by simp [lexC] at h
  | a :: x, b :: y, d :: z, h1, h2 => by
    unfold lexC at *
    repeat' split
    all_goals (try omega)
    have hab : ¬ a < b := fun h => by
      rw [if_pos h] at h1
      split at h2
      · omega
      · split at h2 <;> omega
    have hba : ¬ b < a := fun h => by rw [if_neg hab, if_pos h] at h1; omega
    rw [if_neg hab, if_neg hba] at h1
    have hbd : ¬ b < d := by omega
    have hdb : ¬ d < b := by omega
    rw [if_neg hbd, if_neg hdb] at h2
    exact lexC_tr x y z h1 h2
theorem lexC_to : TO (fun _ : B => True) lexC := ⟨lexC_tri, fun a b _ _ => lexC_sym a b, fun a b _ _ => lexC_eq a b, fun a b d _ _ _ => lexC_tr a b d⟩
/-- One key ahead of another. -/
theorem TO.or {α : Type} {P : α → Prop} {c1 c2 : α → α → Int} (t1 : ∀ a b, c1 a b = -1 ∨ c1 a b = 0 ∨ c1 a b = 1) (s1 : ∀ a b, P a → P b → c1 b a = - c1 a b)
    (z1 : ∀ a b d, P a → P b → P d → c1 a b ≤ 0 → c1 b d ≤ 0 → c1 a d ≤ 0 ∧ (c1 a d = 0 → c1 a b = 0 ∧ c1 b d = 0))
    (t2 : ∀ a b, c2 a b = -1 ∨ c2 a b = 0 ∨ c2 a b = 1) (s2 : ∀ a b, P a → P b → c1 a b = 0 → c2 b a = - c2 a b)
    (e : ∀ a b, P a → P b → (c1 a b = 0 ∧ c2 a b = 0 ↔ a = b))
    (r2 : ∀ a b d, P a → P b → P d → c1 a b = 0 → c1 b d = 0 → c2 a b < 0 → c2 b d < 0 → c2 a d < 0) : TO P (fun a b => orI (c1 a b) (c2 a b)) := by
  refine ⟨fun a b => orI_tri (t1 a b) (t2 a b), fun a b ha hb => ?_, fun a b ha hb => ?_, fun a b d ha hb hd h1 h2 => ?_⟩
  · have := s1 a b ha hb
    have h2 := s2 a b ha hb
    show orI (c1 b a) (c2 b a) = - orI (c1 a b) (c2 a b)
    unfold orI
    split <;> split <;> first | omega | (rename_i h; exact h2 (by omega))
  · rw [← e a b ha hb]
    show orI (c1 a b) (c2 a b) = 0 ↔ _
    unfold orI
    split <;> rename_i h
    · exact ⟨fun h2 => ⟨h, h2⟩, fun h2 => h2.2⟩
    · exact ⟨fun h2 => absurd h2 h, fun h2 => absurd h2.1 h⟩
  · have h1' : orI (c1 a b) (c2 a b) < 0 := h1
    have h2' : orI (c1 b d) (c2 b d) < 0 := h2
    show orI (c1 a d) (c2 a d) < 0
    have k1 : c1 a b ≤ 0 := by unfold orI at h1'; split at h1' <;> omega
    have k2 : c1 b d ≤ 0 := by unfold orI at h2'; split at h2' <;> omega
    have z := z1 a b d ha hb hd k1 k2
    unfold orI
    split <;> rename_i h
    · have zz := z.2 h
      unfold orI at h1' h2'
      rw [if_pos zz.1] at h1'
      rw [if_pos zz.2] at h2'
      exact r2 a b d ha hb hd zz.1 zz.2 h1' h2'
    · omega
theorem TO.le {α : Type} {P : α → Prop} {c : α → α → Int} (h : TO P c) : ∀ a b d, P a → P b → P d → c a b ≤ 0 → c b d ≤ 0 → c a d ≤ 0 ∧ (c a d = 0 → c a b = 0 ∧ c b d = 0) := by
  intro a b d ha hb hd h1 h2
  by_cases e1 : c a b = 0
  · have := (h.eq a b ha hb).1 e1
    subst this
    exact ⟨h2, fun h3 => ⟨e1, h3⟩⟩
  · by_cases e2 : c b d = 0
    · have := (h.eq b d hb hd).1 e2
      subst this
      exact ⟨h1, fun h3 => ⟨h3, e2⟩⟩
    · have := h.tr a b d ha hb hd (by omega) (by omega)
      exact ⟨by omega, fun h3 => by omega⟩
/-- Two keys of their own. -/
theorem TO.keys {α β γ : Type} {P : α → Prop} {Q : β → Prop} {R : γ → Prop} {c : β → β → Int} {d : γ → γ → Int} (f : α → β) (g : α → γ) (hc : TO Q c) (hd : TO R d) (hf : ∀ a, P a → Q (f a)) (hg : ∀ a, P a → R (g a)) (inj : ∀ a b, f a = f b → g a = g b → a = b) : TO P (fun a b => orI (c (f a) (f b)) (d (g a) (g b))) := by
  refine TO.or (fun a b => hc.tri _ _) (fun a b ha hb => hc.sym _ _ (hf a ha) (hf b hb)) (fun a b d ha hb hd => hc.le _ _ _ (hf a ha) (hf b hb) (hf d hd)) (fun a b => hd.tri _ _) (fun a b ha hb _ => hd.sym _ _ (hg a ha) (hg b hb)) (fun a b ha hb => ?_) (fun a b d' ha hb hd' _ _ => hd.tr _ _ _ (hg a ha) (hg b hb) (hg d' hd'))
  rw [hc.eq _ _ (hf a ha) (hf b hb), hd.eq _ _ (hg a ha) (hg b hb)]
  exact ⟨fun h => inj a b h.1 h.2, fun h => by subst h; exact ⟨rfl, rfl⟩⟩
theorem numC_to : TO (fun _ : B => True) numC := by
  refine TO.or (c1 := fun a b : B => cmpN a.length b.length) (fun a b => cmpN_to.tri _ _) (fun a b _ _ => cmpN_to.sym _ _ trivial trivial) (fun a b d _ _ _ => cmpN_to.le _ _ _ trivial trivial trivial) lexC_tri (fun a b _ _ _ => lexC_sym a b) (fun a b _ _ => ?_) (fun a b d _ _ _ _ _ => lexC_tr a b d)
  rw [lexC_eq]
  exact ⟨fun h => h.2, fun h => by subst h; exact ⟨(cmpN_to.eq _ _ trivial trivial).2 rfl, rfl⟩⟩
theorem wordC_to : TO (fun _ : B => True) wordC := by
  refine ⟨fun a b => ?_, fun a b _ _ => ?_, fun a b _ _ => ?_, fun a b d _ _ _ => ?_⟩
  · have h1 := numC_to.tri a b
    have h2 := lexC_tri a b
    unfold wordC
    repeat' split
    all_goals first | assumption | omega
  · have h1 := numC_to.sym a b trivial trivial
    have h2 := lexC_sym a b
    unfold wordC
    cases isNum a <;> cases isNum b <;> simp_all
  · have h1 := numC_to.eq a b trivial trivial
    have h2 := lexC_eq a b
    unfold wordC
    by_cases ha : isNum a = true <;> by_cases hb : isNum b = true <;> simp only [ha, hb, if_true, if_false, Bool.false_eq_true] <;> first | exact h1 | exact h2 | skip
    · exact ⟨fun h => absurd h (by decide), fun h => by subst h; exact absurd ha hb⟩
    · exact ⟨fun h => absurd h (by decide), fun h => by subst h; exact absurd hb ha⟩
  · have h1 := numC_to.tr a b d trivial trivial trivial
    have h2 := lexC_tr a b d
    unfold wordC
    cases isNum a <;> cases isNum b <;> cases isNum d <;> simp <;> assumption
theorem wordsC_to : TO (fun _ : List B => True) wordsC := by
  have tri : ∀ a b, wordsC a b = -1 ∨ wordsC a b = 0 ∨ wordsC a b = 1 := by
    intro a
    induction a with
    | nil => intro b; cases b <;> simp [wordsC]
    | cons x a ih => intro b; cases b with
      | nil => simp [wordsC]
      | cons y b => exact orI_tri (wordC_to.tri _ _) (ih b)
  refine ⟨tri, fun a => ?_, fun a => ?_, fun a => ?_⟩
  · induction a with
    | nil => intro b _ _; cases b <;> simp [wordsC]
    | cons x a ih =>
      intro b _ _
      cases b with
      | nil => simp [wordsC]
      | cons y b =>
        have h1 := wordC_to.sym x y trivial trivial
        have h2 := ih b trivial trivial
        simp only [wordsC]
        unfold orI
        split <;> split <;> omega
  · induction a with
    | nil => intro b _ _; cases b <;> simp [wordsC]
    | cons x a ih =>
      intro b _ _
      cases b with
      | nil => simp [wordsC]
      | cons y b =>
        have h1 := wordC_to.eq x y trivial trivial
        have h2 := ih b trivial trivial
        simp only [wordsC, List.cons.injEq]
        unfold orI
        split <;> rename_i h
        · rw [h2]; exact ⟨fun h3 => ⟨h1.1 h, h3⟩, fun h3 => h3.2⟩
        · exact ⟨fun h3 => absurd h3 h, fun h3 => absurd (h1.2 h3.1) h⟩
  · induction a with
    | nil =>
      intro b d _ _ _ h1 h2
      cases b with
      | nil => simp [wordsC] at h1
      | cons y b => cases d with
        | nil => simp [wordsC] at h2
        | cons => simp [wordsC]
    | cons x a ih =>
      intro b d _ _ _ h1 h2
      cases b with
      | nil => simp [wordsC] at h1
      | cons y b => cases d with
        | nil => simp [wordsC] at h2
        | cons z d =>
          have h3 := ih b d trivial trivial trivial
          simp only [wordsC] at h1 h2 ⊢
          have k1 : wordC x y ≤ 0 := by unfold orI at h1; split at h1 <;> omega
          have k2 : wordC y z ≤ 0 := by unfold orI at h2; split at h2 <;> omega
          have z := wordC_to.le x y z trivial trivial trivial k1 k2
          unfold orI at *
          split
          · rename_i h
            rw [if_pos (z.2 h).1] at h1
            rw [if_pos (z.2 h).2] at h2
            exact h3 h1 h2
          · omega
theorem pre_to : TO (fun _ : List B => True) (fun x y => orI (flagC x y) (wordsC x y)) := by
  refine TO.or (fun a b => ?_) (fun a b _ _ => ?_) (fun a b d _ _ _ => ?_) wordsC_to.tri (fun a b _ _ _ => wordsC_to.sym a b trivial trivial) (fun a b _ _ => ?_) (fun a b d _ _ _ _ _ => wordsC_to.tr a b d trivial trivial trivial)
  · unfold flagC; repeat' split
    all_goals omega
  · unfold flagC; repeat' split
    all_goals omega
  · unfold flagC; repeat' split
    all_goals omega
  · rw [wordsC_to.eq _ _ trivial trivial]
    exact ⟨fun h => h.2, fun h => by subst h; refine ⟨?_, rfl⟩; unfold flagC; split <;> rfl⟩
theorem verC_to : TO (fun _ : VP => True) verC :=
  TO.keys (fun x : VP => x.1) (fun x : VP => x.2) numC_to
    (TO.keys (P := fun _ => True) (fun x : B × B × List B => x.1) (fun x => x.2) numC_to
      (TO.keys (P := fun _ => True) (fun x : B × List B => x.1) (fun x => x.2) numC_to pre_to (fun _ _ => trivial) (fun _ _ => trivial) (fun a b h1 h2 => Prod.ext h1 h2))
      (fun _ _ => trivial) (fun _ _ => trivial) (fun a b h1 h2 => Prod.ext h1 h2))
    (fun _ _ => trivial) (fun _ _ => trivial) (fun a b h1 h2 => Prod.ext h1 h2)
theorem preC_eq (x y : List B) : preC x y = orI (flagC x y) (wordsC x y) := by
  unfold preC flagC orI
  cases x <;> cases y <;> simp [wordsC, cmpN]
end Gw
end

section
namespace Go.Proofs.YtnknjhdpjjddeaaGreatDoor.Q
open Go Go.RowKit Go.Proofs.YtnknjhdpjjddeaaGreatDoorW.PrintWords Go.Proofs.YtnknjhdpjjddeaaGreatDoorW.PrintLast Go.Proofs.YtnknjhdpjjddeaaGreatDoorW.PrintMore Gw
set_option linter.unusedVariables false
set_option linter.unusedSimpArgs false
theorem less_lex : ∀ x y : List UInt8, Op.bytesLess x y = decide (lexC (x.map UInt8.toNat) (y.map UInt8.toNat) = -1)
  | [], [] => rfl
  | [], _ :: _ => rfl
  | _ :: _, [] => by simp [Op.bytesLess, lexC]
  | a :: x, b :: y => by
    have ih := less_lex x y
    simp only [Op.bytesLess, List.map_cons, lexC, ih]
    by_cases h1 : a.toNat < b.toNat
    · have : a < b := h1
      simp [h1, this]
    · have h1' : ¬ a < b := h1
      by_cases h2 : b.toNat < a.toNat
      · have h3 : a ≠ b := fun e => by subst e; omega
        simp [h1, h1', h2, h3]
      · have h3 : a = b := UInt8.toNat_inj.1 (by omega)
        subst h3
        simp
theorem str_less (a b : ByteArray) : Op.bytesLess a.toList b.toList = decide (lexC (bs a) (bs b) = -1) := by
  rw [less_lex, ByteArray.toList_eq, ByteArray.toList_eq]; rfl
theorem str_eq (a b : ByteArray) : (a.toList == b.toList) = decide (a = b) := by
  rw [ByteArray.toList_eq, ByteArray.toList_eq]
  by_cases h : a = b
  · subst h; simp
  · rw [decide_eq_false h, beq_eq_false_iff_ne]
    intro e
    apply h
    cases a; cases b; simp only [ByteArray.mk.injEq]; exact Array.toList_inj.1 e
theorem less_asymm {x y : List UInt8} (h : Op.bytesLess x y = true) : Op.bytesLess y x = false := by
  rw [less_lex] at h ⊢
  have := of_decide_eq_true h
  rw [lexC_sym, this]
  rfl
theorem run_gtr_str (P : Program) (w : World) (t : TypeId) (a b : ByteArray) : Sem.run P (binOp .gtr t (.string a) (.string b)) w = .ok (.bool (Op.bytesLess b.toList a.toList)) w := by
  have e : (!(Op.bytesLess a.toList b.toList || a.toList == b.toList)) = Op.bytesLess b.toList a.toList := by
    cases h1 : Op.bytesLess a.toList b.toList
    · cases h2 : Op.bytesLess b.toList a.toList
      · rw [bytes_eq h1 h2]; rfl
      · rw [bytes_ne h2]; rfl
    · rw [less_asymm h1]; rfl
  rw [← e]
  rfl
end Go.Proofs.YtnknjhdpjjddeaaGreatDoor.Q
end

section
namespace Go.Proofs.YtnknjhdpjjddeaaGreatDoor.QB.D
open Go.Proofs.YtnknjhdpjjddeaaGreatDoor.Q
open Go.RowKit Go.Proofs.YtnknjhdpjjddeaaGreatDoorW.PrintWords Go.Proofs.YtnknjhdpjjddeaaGreatDoorW.PrintLast Go.Proofs.YtnknjhdpjjddeaaGreatDoorW.PrintMore
attribute [local go_sem] max2_int min2_int max_two min_two max_three min_three max_four min_four   -- for this text's walks alone
set_option linter.unusedVariables false
set_option linter.unusedSimpArgs false

attribute [local go_sem] run_gtr_str
/-! ### cmp_Compare_string: function 68 -/
def cmp_Compare_string.f (a0 : ByteArray) (a1 : ByteArray) : Option (Int) := (cmp_isNaN_string.f a0).bind fun t136 => ((cmp_isNaN_string.f a1).bind fun t137 => (if t136 = true then (if t137 = true then (some 0) else (some (-1))) else (if t137 = true then (some 1) else (if (Op.bytesLess a0.toList a1.toList) = true then (some (-1)) else (if (Op.bytesLess a1.toList a0.toList) = true then (some 1) else (some 0))))))
set_option maxHeartbeats 8000000 in
set_option maxRecDepth 100000 in
theorem cmp_Compare_string.calls (a0 : ByteArray) (a1 : ByteArray) (r : Int) (w : World) (h : cmp_Compare_string.f a0 a1 = some r) :
    Calls Tryz.prog 68 #[.string a0, .string a1] w fun e w' => e = .returned (.int .i64 r) ∧ Drawn0 w w' := by
  have H : ((cmp_isNaN_string.f a0).bind fun t136 => ((cmp_isNaN_string.f a1).bind fun t137 => (if t136 = true then (if t137 = true then (some 0) else (some (-1))) else (if t137 = true then (some 1) else (if (Op.bytesLess a0.toList a1.toList) = true then (some (-1)) else (if (Op.bytesLess a1.toList a0.toList) = true then (some 1) else (some 0))))))) = some r := h
  clear h
  replace H := Option.bind_eq_some_iff.mp H
  obtain ⟨t136, A30, H⟩ := H
  replace H : ((cmp_isNaN_string.f a1).bind fun t137 => (if t136 = true then (if t137 = true then (some 0) else (some (-1))) else (if t137 = true then (some 1) else (if (Op.bytesLess a0.toList a1.toList) = true then (some (-1)) else (if (Op.bytesLess a1.toList a0.toList) = true then (some 1) else (some 0)))))) = some r := H
  have A3 := Aside0.mk A30
  clear A30
  replace H := Option.bind_eq_some_iff.mp H
  obtain ⟨t137, A40, H⟩ := H
  replace H : (if t136 = true then (if t137 = true then (some 0) else (some (-1))) else (if t137 = true then (some 1) else (if (Op.bytesLess a0.toList a1.toList) = true then (some (-1)) else (if (Op.bytesLess a1.toList a0.toList) = true then (some 1) else (some 0))))) = some r := H
  have A4 := Aside0.mk A40
  clear A40
  by_cases c5 : t136 = true
  · subst c5
    have H1 : (if t137 = true then (some 0) else (some (-1))) = some r := by rw [if_pos rfl] at H; exact H
    clear H
    have H := H1
    clear H1
    by_cases c6 : t137 = true
    · subst c6
      have H1 : (some 0) = some r := by rw [if_pos rfl] at H; exact H
      clear H
      have H := H1
      clear H1
      obtain rfl := Option.some.inj H
      go_enter Tryz.func68, Tryz.ntmps68
      go_wp2_with (first | ((with_reducible refine gate_callee (f := 84) rfl ?_); refine goesL_ (some 8) rfl rfl Tryz.func84 (by kernel_rfl) rfl #[.string a0] rfl (by (try simp only [List.map_toArray, List.map_cons, List.map_nil]); first | done | rfl | (simp only [List.length_drop, List.length_take]; rfl)) ?_; (with_reducible refine (cmp_isNaN_string.calls a0 true _ A3.out).mono ?_); rintro e w' ⟨rfl, ⟨nd, rfl⟩⟩; refine ⟨_, rfl, ?_⟩) | ((with_reducible refine gate_callee (f := 84) rfl ?_); refine goesL_ (some 10) rfl rfl Tryz.func84 (by kernel_rfl) rfl #[.string a1] rfl (by (try simp only [List.map_toArray, List.map_cons, List.map_nil]); first | done | rfl | (simp only [List.length_drop, List.length_take]; rfl)) ?_; (with_reducible refine (cmp_isNaN_string.calls a1 true _ A4.out).mono ?_); rintro e w' ⟨rfl, ⟨nd, rfl⟩⟩; refine ⟨_, rfl, ?_⟩))
      go_ret
      exact ⟨by first | rfl | (simp; done) | (simp [*]; done), by repeat (first | exact Drawn0.refl _ | apply Drawn0.step)⟩
    · replace c6 := Bool.eq_false_iff.mpr c6
      subst c6
      have H1 : (some (-1)) = some r := by rw [if_neg (show ¬ (false = true) by decide)] at H; exact H
      clear H
      have H := H1
      clear H1
      obtain rfl := Option.some.inj H
      go_enter Tryz.func68, Tryz.ntmps68
      go_wp2_with (first | ((with_reducible refine gate_callee (f := 84) rfl ?_); refine goesL_ (some 8) rfl rfl Tryz.func84 (by kernel_rfl) rfl #[.string a0] rfl (by (try simp only [List.map_toArray, List.map_cons, List.map_nil]); first | done | rfl | (simp only [List.length_drop, List.length_take]; rfl)) ?_; (with_reducible refine (cmp_isNaN_string.calls a0 true _ A3.out).mono ?_); rintro e w' ⟨rfl, ⟨nd, rfl⟩⟩; refine ⟨_, rfl, ?_⟩) | ((with_reducible refine gate_callee (f := 84) rfl ?_); refine goesL_ (some 10) rfl rfl Tryz.func84 (by kernel_rfl) rfl #[.string a1] rfl (by (try simp only [List.map_toArray, List.map_cons, List.map_nil]); first | done | rfl | (simp only [List.length_drop, List.length_take]; rfl)) ?_; (with_reducible refine (cmp_isNaN_string.calls a1 false _ A4.out).mono ?_); rintro e w' ⟨rfl, ⟨nd, rfl⟩⟩; refine ⟨_, rfl, ?_⟩))
      go_ret
      exact ⟨by first | rfl | (simp; done) | (simp [*]; done), by repeat (first | exact Drawn0.refl _ | apply Drawn0.step)⟩
  · replace c5 := Bool.eq_false_iff.mpr c5
    subst c5
    have H1 : (if t137 = true then (some 1) else (if (Op.bytesLess a0.toList a1.toList) = true then (some (-1)) else (if (Op.bytesLess a1.toList a0.toList) = true then (some 1) else (some 0)))) = some r := by rw [if_neg (show ¬ (false = true) by decide)] at H; exact H
    clear H
    have H := H1
    clear H1
    by_cases c7 : t137 = true
    · subst c7
      have H1 : (some 1) = some r := by rw [if_pos rfl] at H; exact H
      clear H
      have H := H1
      clear H1
      obtain rfl := Option.some.inj H
      go_enter Tryz.func68, Tryz.ntmps68
      go_wp2_with (first | ((with_reducible refine gate_callee (f := 84) rfl ?_); refine goesL_ (some 8) rfl rfl Tryz.func84 (by kernel_rfl) rfl #[.string a0] rfl (by (try simp only [List.map_toArray, List.map_cons, List.map_nil]); first | done | rfl | (simp only [List.length_drop, List.length_take]; rfl)) ?_; (with_reducible refine (cmp_isNaN_string.calls a0 false _ A3.out).mono ?_); rintro e w' ⟨rfl, ⟨nd, rfl⟩⟩; refine ⟨_, rfl, ?_⟩) | ((with_reducible refine gate_callee (f := 84) rfl ?_); refine goesL_ (some 10) rfl rfl Tryz.func84 (by kernel_rfl) rfl #[.string a1] rfl (by (try simp only [List.map_toArray, List.map_cons, List.map_nil]); first | done | rfl | (simp only [List.length_drop, List.length_take]; rfl)) ?_; (with_reducible refine (cmp_isNaN_string.calls a1 true _ A4.out).mono ?_); rintro e w' ⟨rfl, ⟨nd, rfl⟩⟩; refine ⟨_, rfl, ?_⟩))
      go_ret
      exact ⟨by first | rfl | (simp; done) | (simp [*]; done), by repeat (first | exact Drawn0.refl _ | apply Drawn0.step)⟩
    · replace c7 := Bool.eq_false_iff.mpr c7
      subst c7
      have H1 : (if (Op.bytesLess a0.toList a1.toList) = true then (some (-1)) else (if (Op.bytesLess a1.toList a0.toList) = true then (some 1) else (some 0))) = some r := by rw [if_neg (show ¬ (false = true) by decide)] at H; exact H
      clear H
      have H := H1
      clear H1
      by_cases c8 : (Op.bytesLess a0.toList a1.toList) = true
      · rw [if_pos c8] at H
        have c8b0 : (Op.bytesLess a0.toList a1.toList) = true := c8
        clear c8
        obtain rfl := Option.some.inj H
        go_enter Tryz.func68, Tryz.ntmps68
        go_wp2_with (first | ((with_reducible refine gate_callee (f := 84) rfl ?_); refine goesL_ (some 8) rfl rfl Tryz.func84 (by kernel_rfl) rfl #[.string a0] rfl (by (try simp only [List.map_toArray, List.map_cons, List.map_nil]); first | done | rfl | (simp only [List.length_drop, List.length_take]; rfl)) ?_; (with_reducible refine (cmp_isNaN_string.calls a0 false _ A3.out).mono ?_); rintro e w' ⟨rfl, ⟨nd, rfl⟩⟩; refine ⟨_, rfl, ?_⟩) | ((with_reducible refine gate_callee (f := 84) rfl ?_); refine goesL_ (some 10) rfl rfl Tryz.func84 (by kernel_rfl) rfl #[.string a1] rfl (by (try simp only [List.map_toArray, List.map_cons, List.map_nil]); first | done | rfl | (simp only [List.length_drop, List.length_take]; rfl)) ?_; (with_reducible refine (cmp_isNaN_string.calls a1 false _ A4.out).mono ?_); rintro e w' ⟨rfl, ⟨nd, rfl⟩⟩; refine ⟨_, rfl, ?_⟩))
        go_ret
        exact ⟨by first | rfl | (simp; done) | (simp [*]; done), by repeat (first | exact Drawn0.refl _ | apply Drawn0.step)⟩
      · rw [if_neg c8] at H
        have c8b0 : (Op.bytesLess a0.toList a1.toList) = false := by simpa using c8
        clear c8
        by_cases c9 : (Op.bytesLess a1.toList a0.toList) = true
        · rw [if_pos c9] at H
          have c9b0 : (Op.bytesLess a1.toList a0.toList) = true := c9
          clear c9
          obtain rfl := Option.some.inj H
          go_enter Tryz.func68, Tryz.ntmps68
          go_wp2_with (first | ((with_reducible refine gate_callee (f := 84) rfl ?_); refine goesL_ (some 8) rfl rfl Tryz.func84 (by kernel_rfl) rfl #[.string a0] rfl (by (try simp only [List.map_toArray, List.map_cons, List.map_nil]); first | done | rfl | (simp only [List.length_drop, List.length_take]; rfl)) ?_; (with_reducible refine (cmp_isNaN_string.calls a0 false _ A3.out).mono ?_); rintro e w' ⟨rfl, ⟨nd, rfl⟩⟩; refine ⟨_, rfl, ?_⟩) | ((with_reducible refine gate_callee (f := 84) rfl ?_); refine goesL_ (some 10) rfl rfl Tryz.func84 (by kernel_rfl) rfl #[.string a1] rfl (by (try simp only [List.map_toArray, List.map_cons, List.map_nil]); first | done | rfl | (simp only [List.length_drop, List.length_take]; rfl)) ?_; (with_reducible refine (cmp_isNaN_string.calls a1 false _ A4.out).mono ?_); rintro e w' ⟨rfl, ⟨nd, rfl⟩⟩; refine ⟨_, rfl, ?_⟩))
          go_ret
          exact ⟨by first | rfl | (simp; done) | (simp [*]; done), by repeat (first | exact Drawn0.refl _ | apply Drawn0.step)⟩
        · rw [if_neg c9] at H
          have c9b0 : (Op.bytesLess a1.toList a0.toList) = false := by simpa using c9
          clear c9
          obtain rfl := Option.some.inj H
          go_enter Tryz.func68, Tryz.ntmps68
          go_wp2_with (first | ((with_reducible refine gate_callee (f := 84) rfl ?_); refine goesL_ (some 8) rfl rfl Tryz.func84 (by kernel_rfl) rfl #[.string a0] rfl (by (try simp only [List.map_toArray, List.map_cons, List.map_nil]); first | done | rfl | (simp only [List.length_drop, List.length_take]; rfl)) ?_; (with_reducible refine (cmp_isNaN_string.calls a0 false _ A3.out).mono ?_); rintro e w' ⟨rfl, ⟨nd, rfl⟩⟩; refine ⟨_, rfl, ?_⟩) | ((with_reducible refine gate_callee (f := 84) rfl ?_); refine goesL_ (some 10) rfl rfl Tryz.func84 (by kernel_rfl) rfl #[.string a1] rfl (by (try simp only [List.map_toArray, List.map_cons, List.map_nil]); first | done | rfl | (simp only [List.length_drop, List.length_take]; rfl)) ?_; (with_reducible refine (cmp_isNaN_string.calls a1 false _ A4.out).mono ?_); rintro e w' ⟨rfl, ⟨nd, rfl⟩⟩; refine ⟨_, rfl, ?_⟩))
          go_ret
          exact ⟨by first | rfl | (simp; done) | (simp [*]; done), by repeat (first | exact Drawn0.refl _ | apply Drawn0.step)⟩

end Go.Proofs.YtnknjhdpjjddeaaGreatDoor.QB.D
end

section
namespace Go.Proofs.YtnknjhdpjjddeaaGreatDoor.QB.D
open Go.Proofs.YtnknjhdpjjddeaaGreatDoor.Q
open Go.RowKit Go.Proofs.YtnknjhdpjjddeaaGreatDoorW.PrintWords Go.Proofs.YtnknjhdpjjddeaaGreatDoorW.PrintLast Go.Proofs.YtnknjhdpjjddeaaGreatDoorW.PrintMore
attribute [local go_sem] max2_int min2_int max_two min_two max_three min_three max_four min_four   -- for this text's walks alone
set_option linter.unusedVariables false
set_option linter.unusedSimpArgs false

/-! ### octet_Cmp: function 45 -/
def octet_Cmp.f (a0 : ByteArray) (a1 : ByteArray) : Option (Int) := (cmp_Compare_string.f a0 a1).bind fun t138 => (some t138)
set_option maxHeartbeats 8000000 in
set_option maxRecDepth 100000 in
theorem octet_Cmp.calls (a0 : ByteArray) (a1 : ByteArray) (r : Int) (w : World) (h : octet_Cmp.f a0 a1 = some r) :
    Calls Tryz.prog 45 #[.string a0, .string a1] w fun e w' => e = .returned (.int .i64 r) ∧ Drawn0 w w' := by
  have H : ((cmp_Compare_string.f a0 a1).bind fun t138 => (some t138)) = some r := h
  clear h
  replace H := Option.bind_eq_some_iff.mp H
  obtain ⟨t138, A30, H⟩ := H
  replace H : (some t138) = some r := H
  have A3 := Aside0.mk A30
  clear A30
  obtain rfl := Option.some.inj H
  go_enter Tryz.func45, Tryz.ntmps45
  go_wp2_with (first | ((with_reducible refine gate_callee (f := 68) rfl ?_); refine goesL_ (some 7) rfl rfl Tryz.func68 (by kernel_rfl) rfl #[.string a0, .string a1] rfl (by (try simp only [List.map_toArray, List.map_cons, List.map_nil]); first | done | rfl | (simp only [List.length_drop, List.length_take]; rfl)) ?_; (with_reducible refine (cmp_Compare_string.calls a0 a1 t138 _ A3.out).mono ?_); rintro e w' ⟨rfl, ⟨nd, rfl⟩⟩; refine ⟨_, rfl, ?_⟩))
  go_ret
  exact ⟨by first | rfl | (simp; done) | (simp [*]; done), by repeat (first | exact Drawn0.refl _ | apply Drawn0.step)⟩

end Go.Proofs.YtnknjhdpjjddeaaGreatDoor.QB.D
end

section
namespace Go.Proofs
open Go.Shelf
set_option maxRecDepth 100000
def Tryz.lays119_ren : Go.Shelf.Ren := ⟨fun | 119 => 112 | n => n, fun | 21 => 21 | 4 => 4 | n => n, fun | n => n⟩
theorem Tryz.lays119 : Go.Proofs.Lays.n119 Tryz.prog Tryz.lays119_ren := {
  mixed := by kernel_rfl
  f119 := Tryz.func112.trans (congrArg some (by kernel_rfl))
  t4 := Tryz.underlying4
  a4 := Tryz.isAgg4
  z4 := Tryz.sizeOf4
  v4 := Tryz.zeroValue4
  t21 := Tryz.underlying21
  a21 := Tryz.isAgg21
  z21 := Tryz.sizeOf21
  v21 := Tryz.zeroValue21 }
/-- utf8.ValidRune: "ValidRune reports whether r can be legally encoded as UTF-8. Code points that are out of range or a surrogate half are illegal.": IT RETURNS 'Lib.validRune r'; the world is as it was. (LAID: no walk: one application.) -/
theorem Tryz.utf8_ValidRune (r : Int) (w : World) :
    Calls Tryz.prog 112 #[.int .i32 r] w fun e w' => e = .returned (.bool (Lib.validRune r)) ∧ w' = w := Any.utf8_ValidRune Tryz.lays119 r w
def Tryz.lays137_ren : Go.Shelf.Ren := ⟨fun | 137 => 111 | 217 => 85 | 266 => 95 | n => n, fun | 9 => 9 | 5 => 5 | 3 => 3 | n => n, fun | n => n⟩
theorem Tryz.lays137 : Go.Proofs.Lays.n137 Tryz.prog Tryz.lays137_ren := {
  mixed := by kernel_rfl
  f137 := Tryz.func111.trans (congrArg some (by kernel_rfl))
  f217 := Tryz.func85.trans (congrArg some (by kernel_rfl))
  f266 := Tryz.func95.trans (congrArg some (by kernel_rfl))
  t3 := Tryz.underlying3
  a3 := Tryz.isAgg3
  z3 := Tryz.sizeOf3
  v3 := Tryz.zeroValue3
  t5 := Tryz.underlying5
  a5 := Tryz.isAgg5
  z5 := Tryz.sizeOf5
  v5 := Tryz.zeroValue5
  t9 := Tryz.underlying9
  a9 := Tryz.isAgg9
  z9 := Tryz.sizeOf9
  v9 := Tryz.zeroValue9 }
open Go.RowKit in
/-- strings.IndexByte: "IndexByte returns the index of the first instance of c in s, or -1 if c is not present in s.": IT RETURNS 'Lib.indexByte s c'; the world is as it was. (LAID: no walk: one application.) -/
theorem Tryz.strings_IndexByte (s : ByteArray) (c : Int) (w : World) :
    Calls Tryz.prog 111 #[.string s, .int .u8 c] w fun e w' => e = .returned (.int .i64 (Lib.indexByte s.data.toList c.toNat.toUInt8)) ∧ w' = w := Any.strings_IndexByte Tryz.lays137 s c w
def Tryz.lays219_ren : Go.Shelf.Ren := ⟨fun | 219 => 70 | 217 => 85 | 225 => 86 | 224 => 87 | 267 => 88 | 266 => 95 | 314 => 96 | n => n, fun | 9 => 9 | 3 => 3 | 4 => 4 | 5 => 5 | 46 => 68 | 146 => 110 | 51 => 86 | n => n, fun | 1 => 0 | n => n⟩
theorem Tryz.lays219 : Go.Proofs.Lays.n219 Tryz.prog Tryz.lays219_ren := {
  mixed := by kernel_rfl
  f217 := Tryz.func85.trans (congrArg some (by kernel_rfl))
  f219 := Tryz.func70.trans (congrArg some (by kernel_rfl))
  f224 := Tryz.func87.trans (congrArg some (by kernel_rfl))
  f225 := Tryz.func86.trans (congrArg some (by kernel_rfl))
  f266 := Tryz.func95.trans (congrArg some (by kernel_rfl))
  f267 := Tryz.func88.trans (congrArg some (by kernel_rfl))
  f314 := Tryz.func96.trans (congrArg some (by kernel_rfl))
  t3 := Tryz.underlying3
  a3 := Tryz.isAgg3
  z3 := Tryz.sizeOf3
  v3 := Tryz.zeroValue3
  t4 := Tryz.underlying4
  a4 := Tryz.isAgg4
  z4 := Tryz.sizeOf4
  v4 := Tryz.zeroValue4
  t5 := Tryz.underlying5
  a5 := Tryz.isAgg5
  z5 := Tryz.sizeOf5
  v5 := Tryz.zeroValue5
  t9 := Tryz.underlying9
  a9 := Tryz.isAgg9
  z9 := Tryz.sizeOf9
  v9 := Tryz.zeroValue9
  t46 := Tryz.underlying68
  a46 := Tryz.isAgg68
  z46 := Tryz.sizeOf68
  v46 := Tryz.zeroValue68
  t51 := Tryz.underlying86
  a51 := Tryz.isAgg86
  z51 := Tryz.sizeOf86
  v51 := Tryz.zeroValue86
  t146 := Tryz.underlying110
  a146 := Tryz.isAgg110
  z146 := Tryz.sizeOf110
  v146 := Tryz.zeroValue110
  g1 := by kernel_rfl }
open Go.RowKit Go.Lib in
/-- internal/stringslite.Index (what strings.Index calls) AT A substr OF ONE BYTE c: IT RETURNS 'Lib.indexByte s c'; the world is as it was. (LAID: no walk: one application.) -/
theorem Tryz.stringslite_Index_one (s : ByteArray) (c : UInt8) (w : World) :
    Calls Tryz.prog 70 #[.string s, .string ⟨#[c]⟩] w fun e w' => e = .returned (.int .i64 (Lib.indexByte s.data.toList c)) ∧ w' = w := Any.stringslite_Index_one Tryz.lays219 s c w
def Tryz.lays143_ren : Go.Shelf.Ren := ⟨fun | 143 => 103 | 219 => 70 | 217 => 85 | 225 => 86 | 224 => 87 | 267 => 88 | 266 => 95 | 314 => 96 | n => n, fun | 9 => 9 | 3 => 3 | 4 => 4 | 5 => 5 | 46 => 68 | 146 => 110 | 51 => 86 | n => n, fun | 1 => 0 | n => n⟩
theorem Tryz.lays143 : Go.Proofs.Lays.n143 Tryz.prog Tryz.lays143_ren := {
  mixed := by kernel_rfl
  f143 := Tryz.func103.trans (congrArg some (by kernel_rfl))
  f217 := Tryz.func85.trans (congrArg some (by kernel_rfl))
  f219 := Tryz.func70.trans (congrArg some (by kernel_rfl))
  f224 := Tryz.func87.trans (congrArg some (by kernel_rfl))
  f225 := Tryz.func86.trans (congrArg some (by kernel_rfl))
  f266 := Tryz.func95.trans (congrArg some (by kernel_rfl))
  f267 := Tryz.func88.trans (congrArg some (by kernel_rfl))
  f314 := Tryz.func96.trans (congrArg some (by kernel_rfl))
  t3 := Tryz.underlying3
  a3 := Tryz.isAgg3
  z3 := Tryz.sizeOf3
  v3 := Tryz.zeroValue3
  t4 := Tryz.underlying4
  a4 := Tryz.isAgg4
  z4 := Tryz.sizeOf4
  v4 := Tryz.zeroValue4
  t5 := Tryz.underlying5
  a5 := Tryz.isAgg5
  z5 := Tryz.sizeOf5
  v5 := Tryz.zeroValue5
  t9 := Tryz.underlying9
  a9 := Tryz.isAgg9
  z9 := Tryz.sizeOf9
  v9 := Tryz.zeroValue9
  t46 := Tryz.underlying68
  a46 := Tryz.isAgg68
  z46 := Tryz.sizeOf68
  v46 := Tryz.zeroValue68
  t51 := Tryz.underlying86
  a51 := Tryz.isAgg86
  z51 := Tryz.sizeOf86
  v51 := Tryz.zeroValue86
  t146 := Tryz.underlying110
  a146 := Tryz.isAgg110
  z146 := Tryz.sizeOf110
  v146 := Tryz.zeroValue110
  g1 := by kernel_rfl }
open Go.RowKit Go.Lib in
/-- strings.Index: "Index returns the index of the first instance of substr in s, or -1 if substr is not present in s.": AT A substr OF ONE BYTE c: IT RETURNS 'Lib.indexByte s c'; the world is as it was. (LAID: no walk: one application.) -/
theorem Tryz.strings_Index_one (s : ByteArray) (c : UInt8) (w : World) :
    Calls Tryz.prog 103 #[.string s, .string ⟨#[c]⟩] w fun e w' => e = .returned (.int .i64 (Lib.indexByte s.data.toList c)) ∧ w' = w := Any.strings_Index_one Tryz.lays143 s c w
def Tryz.lays138_ren : Go.Shelf.Ren := ⟨fun | 138 => 102 | 195 => 108 | 218 => 110 | 143 => 103 | 219 => 70 | 217 => 85 | 225 => 86 | 224 => 87 | 267 => 88 | 266 => 95 | 314 => 96 | n => n, fun | 9 => 9 | 3 => 3 | 4 => 4 | 5 => 5 | 0 => 0 | 46 => 68 | 146 => 110 | 51 => 86 | n => n, fun | 1 => 0 | n => n⟩
theorem Tryz.lays138 : Go.Proofs.Lays.n138 Tryz.prog Tryz.lays138_ren := {
  mixed := by kernel_rfl
  f138 := Tryz.func102.trans (congrArg some (by kernel_rfl))
  f143 := Tryz.func103.trans (congrArg some (by kernel_rfl))
  f195 := Tryz.func108.trans (congrArg some (by kernel_rfl))
  f217 := Tryz.func85.trans (congrArg some (by kernel_rfl))
  f218 := Tryz.func110.trans (congrArg some (by kernel_rfl))
  f219 := Tryz.func70.trans (congrArg some (by kernel_rfl))
  f224 := Tryz.func87.trans (congrArg some (by kernel_rfl))
  f225 := Tryz.func86.trans (congrArg some (by kernel_rfl))
  f266 := Tryz.func95.trans (congrArg some (by kernel_rfl))
  f267 := Tryz.func88.trans (congrArg some (by kernel_rfl))
  f314 := Tryz.func96.trans (congrArg some (by kernel_rfl))
  t0 := Tryz.underlying0
  a0 := Tryz.isAgg0
  z0 := Tryz.sizeOf0
  v0 := Tryz.zeroValue0
  t3 := Tryz.underlying3
  a3 := Tryz.isAgg3
  z3 := Tryz.sizeOf3
  v3 := Tryz.zeroValue3
  t4 := Tryz.underlying4
  a4 := Tryz.isAgg4
  z4 := Tryz.sizeOf4
  v4 := Tryz.zeroValue4
  t5 := Tryz.underlying5
  a5 := Tryz.isAgg5
  z5 := Tryz.sizeOf5
  v5 := Tryz.zeroValue5
  t9 := Tryz.underlying9
  a9 := Tryz.isAgg9
  z9 := Tryz.sizeOf9
  v9 := Tryz.zeroValue9
  t46 := Tryz.underlying68
  a46 := Tryz.isAgg68
  z46 := Tryz.sizeOf68
  v46 := Tryz.zeroValue68
  t51 := Tryz.underlying86
  a51 := Tryz.isAgg86
  z51 := Tryz.sizeOf86
  v51 := Tryz.zeroValue86
  t146 := Tryz.underlying110
  a146 := Tryz.isAgg110
  z146 := Tryz.sizeOf110
  v146 := Tryz.zeroValue110
  g1 := by kernel_rfl }
open Go.RowKit Go.Lib in
/-- strings.Count AT A substr OF ONE BYTE ('hp'): "Count counts the number of non-overlapping instances of substr in s.": IT RETURNS 'Lib.countByte s (that byte)'; the world is as it was. ✋ NO CONTRACT HERE YET at an empty substr (utf8.RuneCountInString) or at a longer one (a loop over strings.Index). (LAID: no walk: one application.) -/
theorem Tryz.strings_Count_one (s : ByteArray) (c : UInt8) (w : World) :
    Calls Tryz.prog 102 #[.string s, .string ⟨#[c]⟩] w fun e w' => e = .returned (.int .i64 (Lib.countByte s.data.toList c)) ∧ w' = w := Any.strings_Count_one Tryz.lays138 s c w
def Tryz.lays99_ren : Go.Shelf.Ren := ⟨fun | 99 => 74 | 206 => 91 | n => n, fun | 9 => 9 | 4 => 4 | 3 => 3 | n => n, fun | n => n⟩
theorem Tryz.lays99 : Go.Proofs.Lays.n99 Tryz.prog Tryz.lays99_ren := {
  mixed := by kernel_rfl
  f99 := Tryz.func74.trans (congrArg some (by kernel_rfl))
  f206 := Tryz.func91.trans (congrArg some (by kernel_rfl))
  t3 := Tryz.underlying3
  a3 := Tryz.isAgg3
  z3 := Tryz.sizeOf3
  v3 := Tryz.zeroValue3
  t4 := Tryz.underlying4
  a4 := Tryz.isAgg4
  z4 := Tryz.sizeOf4
  v4 := Tryz.zeroValue4
  t9 := Tryz.underlying9
  a9 := Tryz.isAgg9
  z9 := Tryz.sizeOf9
  v9 := Tryz.zeroValue9 }
open Go.RowKit Go.Lib in
/-- strings.HasPrefix: "HasPrefix reports whether the string s begins with prefix.": IT RETURNS 'Lib.hasPrefix s prefix'; the world is as it was. (LAID: no walk: one application.) -/
theorem Tryz.strings_HasPrefix (s p : ByteArray) (w : World) :
    Calls Tryz.prog 74 #[.string s, .string p] w fun e w' => e = .returned (.bool (Lib.hasPrefix s.data.toList p.data.toList)) ∧ w' = w := Any.strings_HasPrefix Tryz.lays99 s p w
def Tryz.lays221_ren : Go.Shelf.Ren := ⟨fun | 221 => 97 | 268 => 101 | 138 => 102 | 143 => 103 | 195 => 108 | 197 => 109 | 218 => 110 | 219 => 70 | 260 => 113 | 217 => 85 | 225 => 86 | 224 => 87 | 267 => 88 | 266 => 95 | 314 => 96 | n => n, fun | 9 => 9 | 3 => 3 | 31 => 60 | 4 => 4 | 0 => 0 | 105 => 125 | 21 => 21 | 5 => 5 | 46 => 68 | 119 => 129 | 139 => 132 | 138 => 131 | 146 => 110 | 51 => 86 | n => n, fun | 1 => 0 | 3 => 1 | 4 => 2 | n => n⟩
theorem Tryz.lays221 : Go.Proofs.Lays.n221 Tryz.prog Tryz.lays221_ren := {
  mixed := by kernel_rfl
  f138 := Tryz.func102.trans (congrArg some (by kernel_rfl))
  f143 := Tryz.func103.trans (congrArg some (by kernel_rfl))
  f195 := Tryz.func108.trans (congrArg some (by kernel_rfl))
  f197 := Tryz.func109.trans (congrArg some (by kernel_rfl))
  f217 := Tryz.func85.trans (congrArg some (by kernel_rfl))
  f218 := Tryz.func110.trans (congrArg some (by kernel_rfl))
  f219 := Tryz.func70.trans (congrArg some (by kernel_rfl))
  f221 := Tryz.func97.trans (congrArg some (by kernel_rfl))
  f224 := Tryz.func87.trans (congrArg some (by kernel_rfl))
  f225 := Tryz.func86.trans (congrArg some (by kernel_rfl))
  f260 := Tryz.func113.trans (congrArg some (by kernel_rfl))
  f266 := Tryz.func95.trans (congrArg some (by kernel_rfl))
  f267 := Tryz.func88.trans (congrArg some (by kernel_rfl))
  f268 := Tryz.func101.trans (congrArg some (by kernel_rfl))
  f314 := Tryz.func96.trans (congrArg some (by kernel_rfl))
  t0 := Tryz.underlying0
  a0 := Tryz.isAgg0
  z0 := Tryz.sizeOf0
  v0 := Tryz.zeroValue0
  t3 := Tryz.underlying3
  a3 := Tryz.isAgg3
  z3 := Tryz.sizeOf3
  v3 := Tryz.zeroValue3
  t4 := Tryz.underlying4
  a4 := Tryz.isAgg4
  z4 := Tryz.sizeOf4
  v4 := Tryz.zeroValue4
  t5 := Tryz.underlying5
  a5 := Tryz.isAgg5
  z5 := Tryz.sizeOf5
  v5 := Tryz.zeroValue5
  t9 := Tryz.underlying9
  a9 := Tryz.isAgg9
  z9 := Tryz.sizeOf9
  v9 := Tryz.zeroValue9
  t21 := Tryz.underlying21
  a21 := Tryz.isAgg21
  z21 := Tryz.sizeOf21
  v21 := Tryz.zeroValue21
  t31 := Tryz.underlying60
  a31 := Tryz.isAgg60
  z31 := Tryz.sizeOf60
  v31 := Tryz.zeroValue60
  t46 := Tryz.underlying68
  a46 := Tryz.isAgg68
  z46 := Tryz.sizeOf68
  v46 := Tryz.zeroValue68
  t51 := Tryz.underlying86
  a51 := Tryz.isAgg86
  z51 := Tryz.sizeOf86
  v51 := Tryz.zeroValue86
  t105 := Tryz.underlying125
  a105 := Tryz.isAgg125
  z105 := Tryz.sizeOf125
  v105 := Tryz.zeroValue125
  t119 := Tryz.underlying129
  a119 := Tryz.isAgg129
  z119 := Tryz.sizeOf129
  t138 := Tryz.underlying131
  a138 := Tryz.isAgg131
  z138 := Tryz.sizeOf131
  v138 := Tryz.zeroValue131
  t139 := Tryz.underlying132
  a139 := Tryz.isAgg132
  z139 := Tryz.sizeOf132
  v139 := Tryz.zeroValue132
  t146 := Tryz.underlying110
  a146 := Tryz.isAgg110
  z146 := Tryz.sizeOf110
  v146 := Tryz.zeroValue110
  g1 := by kernel_rfl
  g3 := by kernel_rfl
  g4 := by kernel_rfl }
def Tryz.lays152_ren : Go.Shelf.Ren := ⟨fun | 152 => 104 | 137 => 111 | 119 => 112 | 224 => 87 | 225 => 86 | 217 => 85 | 266 => 95 | n => n, fun | 9 => 9 | 21 => 21 | 3 => 3 | 4 => 4 | 5 => 5 | 0 => 0 | 46 => 68 | n => n, fun | n => n⟩
theorem Tryz.lays152 : Go.Proofs.Lays.n152 Tryz.prog Tryz.lays152_ren := {
  mixed := by kernel_rfl
  f119 := Tryz.func112.trans (congrArg some (by kernel_rfl))
  f137 := Tryz.func111.trans (congrArg some (by kernel_rfl))
  f152 := Tryz.func104.trans (congrArg some (by kernel_rfl))
  f217 := Tryz.func85.trans (congrArg some (by kernel_rfl))
  f224 := Tryz.func87.trans (congrArg some (by kernel_rfl))
  f225 := Tryz.func86.trans (congrArg some (by kernel_rfl))
  f266 := Tryz.func95.trans (congrArg some (by kernel_rfl))
  t0 := Tryz.underlying0
  a0 := Tryz.isAgg0
  z0 := Tryz.sizeOf0
  v0 := Tryz.zeroValue0
  t3 := Tryz.underlying3
  a3 := Tryz.isAgg3
  z3 := Tryz.sizeOf3
  v3 := Tryz.zeroValue3
  t4 := Tryz.underlying4
  a4 := Tryz.isAgg4
  z4 := Tryz.sizeOf4
  v4 := Tryz.zeroValue4
  t5 := Tryz.underlying5
  a5 := Tryz.isAgg5
  z5 := Tryz.sizeOf5
  v5 := Tryz.zeroValue5
  t9 := Tryz.underlying9
  a9 := Tryz.isAgg9
  z9 := Tryz.sizeOf9
  v9 := Tryz.zeroValue9
  t21 := Tryz.underlying21
  a21 := Tryz.isAgg21
  z21 := Tryz.sizeOf21
  v21 := Tryz.zeroValue21
  t46 := Tryz.underlying68
  a46 := Tryz.isAgg68
  z46 := Tryz.sizeOf68
  v46 := Tryz.zeroValue68 }
open Go.RowKit Go.Lib in
theorem Tryz.strings_IndexRune_ascii (s : ByteArray) (r : Int) (w : World) (h0 : 0 ≤ r) (h1 : r < 128) :
    Calls Tryz.prog 104 #[.string s, .int .i32 r] w fun e w' => e = .returned (.int .i64 (Lib.indexByte s.data.toList r.toNat.toUInt8)) ∧ w' = w := Any.strings_IndexRune_ascii Tryz.lays152 s r w h0 h1
def Tryz.lays226_ren : Go.Shelf.Ren := ⟨fun | 226 => 105 | n => n, fun | 3 => 3 | 4 => 4 | n => n, fun | n => n⟩
theorem Tryz.lays226 : Go.Proofs.Lays.n226 Tryz.prog Tryz.lays226_ren := {
  mixed := by kernel_rfl
  f226 := Tryz.func105.trans (congrArg some (by kernel_rfl))
  t3 := Tryz.underlying3
  a3 := Tryz.isAgg3
  z3 := Tryz.sizeOf3
  v3 := Tryz.zeroValue3
  t4 := Tryz.underlying4
  a4 := Tryz.isAgg4
  z4 := Tryz.sizeOf4
  v4 := Tryz.zeroValue4 }
open Go.RowKit Go.Lib in
theorem Tryz.strings_shouldUseASCIISet (n : Int) (w : World) :
    Calls Tryz.prog 105 #[.int .i64 n] w fun e w' => e = .returned (.bool (decide (8 < n))) ∧ w' = w := Any.strings_shouldUseASCIISet Tryz.lays226 n w
def Tryz.lays153_ren : Go.Shelf.Ren := ⟨fun | 153 => 100 | 152 => 104 | 226 => 105 | 227 => 106 | 228 => 107 | 137 => 111 | 119 => 112 | 224 => 87 | 225 => 86 | 217 => 85 | 266 => 95 | n => n, fun | 9 => 9 | 3 => 3 | 4 => 4 | 5 => 5 | 21 => 21 | 117 => 121 | 116 => 120 | 0 => 0 | 46 => 68 | 124 => 128 | n => n, fun | n => n⟩
theorem Tryz.lays153 : Go.Proofs.Lays.n153 Tryz.prog Tryz.lays153_ren := {
  mixed := by kernel_rfl
  f119 := Tryz.func112.trans (congrArg some (by kernel_rfl))
  f137 := Tryz.func111.trans (congrArg some (by kernel_rfl))
  f152 := Tryz.func104.trans (congrArg some (by kernel_rfl))
  f153 := Tryz.func100.trans (congrArg some (by kernel_rfl))
  f217 := Tryz.func85.trans (congrArg some (by kernel_rfl))
  f224 := Tryz.func87.trans (congrArg some (by kernel_rfl))
  f225 := Tryz.func86.trans (congrArg some (by kernel_rfl))
  f226 := Tryz.func105.trans (congrArg some (by kernel_rfl))
  f227 := Tryz.func106.trans (congrArg some (by kernel_rfl))
  f228 := Tryz.func107.trans (congrArg some (by kernel_rfl))
  f266 := Tryz.func95.trans (congrArg some (by kernel_rfl))
  t0 := Tryz.underlying0
  a0 := Tryz.isAgg0
  z0 := Tryz.sizeOf0
  v0 := Tryz.zeroValue0
  t3 := Tryz.underlying3
  a3 := Tryz.isAgg3
  z3 := Tryz.sizeOf3
  v3 := Tryz.zeroValue3
  t4 := Tryz.underlying4
  a4 := Tryz.isAgg4
  z4 := Tryz.sizeOf4
  v4 := Tryz.zeroValue4
  t5 := Tryz.underlying5
  a5 := Tryz.isAgg5
  z5 := Tryz.sizeOf5
  v5 := Tryz.zeroValue5
  t9 := Tryz.underlying9
  a9 := Tryz.isAgg9
  z9 := Tryz.sizeOf9
  v9 := Tryz.zeroValue9
  t21 := Tryz.underlying21
  a21 := Tryz.isAgg21
  z21 := Tryz.sizeOf21
  v21 := Tryz.zeroValue21
  t46 := Tryz.underlying68
  a46 := Tryz.isAgg68
  z46 := Tryz.sizeOf68
  v46 := Tryz.zeroValue68
  t116 := Tryz.underlying120
  a116 := Tryz.isAgg120
  z116 := Tryz.sizeOf120
  t117 := Tryz.underlying121
  a117 := Tryz.isAgg121
  z117 := Tryz.sizeOf121
  v117 := Tryz.zeroValue121
  t124 := Tryz.underlying128
  a124 := Tryz.isAgg128
  z124 := Tryz.sizeOf128
  v124 := Tryz.zeroValue128 }
open Go.RowKit Go.Lib in
/-- s of at most 8 bytes; chars of two or more: 'for i, c := range s { if IndexRune(chars, c) >= 0 { return i } }'. One block more: the model's iterator over s. (LAID: no walk: one application.) -/
theorem Tryz.strings_IndexAny_short (s chars : ByteArray) (w : World) (h2 : 2 ≤ chars.size) (h8 : s.size ≤ 8) (hascii : ∀ (j : Nat) b, s.data.toList[j]? = some b → b.toNat < 128) :
    Calls Tryz.prog 100 #[.string s, .string chars] w fun e w' => e = .returned (.int .i64 (Lib.indexAny s.data.toList chars.data.toList)) ∧ ∃ pos, w' = w.iter s pos := Any.strings_IndexAny_short Tryz.lays153 s chars w h2 h8 hascii
open Go.RowKit Go.Lib in
theorem Tryz.strings_IndexAny_long (hv116 : ∀ w, (zeroValue 120).run Tryz.prog w = .ok (.agg (Array.replicate 256 (.bool false))) w) (s chars : ByteArray) (w : World) (h2 : 2 ≤ chars.size) (h8 : 8 < s.size) (hs : s.size < 4294967281) (hcs : chars.size < 4294967281) (hascii : ∀ (j : Nat) b, chars.data.toList[j]? = some b → b.toNat < 128) :
    Calls Tryz.prog 100 #[.string s, .string chars] w fun e w' => e = .returned (.int .i64 (Lib.indexAny s.data.toList chars.data.toList)) ∧ w' = ((w.alloc (.cells (Lib.setCells chars.data.toList) 120)).alloc (.cells (Lib.setCells chars.data.toList) 120)) := Any.strings_IndexAny_long Tryz.lays153 hv116 (by kernel_rfl) s chars w h2 h8 hs hcs hascii
end Go.Proofs
end

section
namespace Go.Proofs.YtnknjhdpjjddeaaGreatDoor.QB.D
open Go.Proofs.YtnknjhdpjjddeaaGreatDoor.Q
open Go.RowKit Go.Lib Go.Proofs.YtnknjhdpjjddeaaGreatDoorW.PrintWords Go.Proofs.YtnknjhdpjjddeaaGreatDoorW.PrintLast Go.Proofs.YtnknjhdpjjddeaaGreatDoorW.PrintMore Gw
set_option linter.unusedVariables false
set_option linter.unusedSimpArgs false
abbrev Tiny (s : ByteArray) : Prop := s.size < 4294967281
theorem Tiny.small {s : ByteArray} (h : Tiny s) : Small s := by unfold Tiny at h; unfold Small; omega
theorem parts_no {sep : Nat} : ∀ {l : List Nat}, (∀ c ∈ l, c ≠ sep) → parts sep l = [l]
  | [], _ => rfl
  | c :: r, h => by rw [parts_other (h c List.mem_cons_self) (parts_no fun x hx => h x (List.mem_cons_of_mem _ hx))]
theorem parts_split {sep : Nat} (r : List Nat) : ∀ {l : List Nat}, (∀ c ∈ l, c ≠ sep) → parts sep (l ++ sep :: r) = l :: parts sep r
  | [], _ => by simp [parts_sep]
  | c :: l, h => by
    rw [List.cons_append, parts_other (h c List.mem_cons_self) (parts_split r fun x hx => h x (List.mem_cons_of_mem _ hx))]
def one (c : UInt8) : ByteArray := ⟨#[c]⟩
theorem idx_miss {s : ByteArray} {c : UInt8} (h : indexB s (one c) = -1) : ∀ x ∈ bs s, x ≠ c.toNat := by
  intro x hx
  rw [indexB, show (one c).data.toList = [c] from rfl, index_one] at h
  obtain ⟨u, hu, rfl⟩ := List.mem_map.1 hx
  intro e
  obtain rfl : u = c := UInt8.toNat_inj.1 e
  obtain ⟨k, hk⟩ := List.mem_iff_getElem?.1 hu
  exact indexByte_none h k hk
theorem idx_hit {s : ByteArray} {c : UInt8} {i : Nat} (h : indexB s (one c) = i) : i < s.size ∧ bs s = (bs s).take i ++ c.toNat :: (bs s).drop (i + 1) ∧ ∀ x ∈ (bs s).take i, x ≠ c.toNat := by
  rw [indexB, show (one c).data.toList = [c] from rfl, index_one] at h
  obtain ⟨h1, h2⟩ := indexByte_some h
  have hi : i < s.size := by
    have := (List.getElem?_eq_some_iff.1 h1).1
    rwa [Array.length_toList] at this
  have hg : (bs s)[i]? = some c.toNat := by simp [bs, h1]
  have hlt : i < (bs s).length := by rw [bs_length]; exact hi
  have hge : (bs s)[i] = c.toNat := by rw [List.getElem?_eq_getElem hlt] at hg; exact Option.some.inj hg
  refine ⟨hi, ?_, ?_⟩
  · have := List.take_append_drop i (bs s)
    rw [List.drop_eq_getElem_cons hlt, hge] at this
    exact this.symm
  · intro x hx e
    obtain ⟨k, hk⟩ := List.mem_iff_getElem?.1 hx
    rw [List.getElem?_take] at hk
    by_cases hki : k < i
    · rw [if_pos hki] at hk
      simp only [bs, List.getElem?_map, Option.map_eq_some_iff] at hk
      obtain ⟨u, hu, rfl⟩ := hk
      obtain rfl : u = c := UInt8.toNat_inj.1 e
      exact h2 k hki hu
    · rw [if_neg hki] at hk; cases hk
theorem split_parts (c : UInt8) : ∀ (k : Nat) (s : ByteArray), countB s (one c) = k → splitB (one c) 0 k s = (parts c.toNat (bs s)).map ofB
  | 0, s, h => by
    have hm : indexB s (one c) = -1 := by
      rcases indexB_cases s (one c) with hm | ⟨i, hi, hr⟩
      · exact hm
      · rw [countB_hit s (one c) i (by show 1 ≤ 1; omega) hi] at h; omega
    rw [parts_no (idx_miss hm)]
    simp [splitB_zero, ofB_bs]
  | k + 1, s, h => by
    rcases indexB_cases s (one c) with hm | ⟨i, hi, hr⟩
    · rw [countB_miss s (one c) hm] at h; omega
    · rw [countB_hit s (one c) i (by show 1 ≤ 1; omega) hi] at h
      obtain ⟨h1, h2, h3⟩ := idx_hit hi
      rw [splitB_hit (one c) 0 k s i hi, split_parts c k _ (by omega), h2, parts_split _ h3, List.map_cons]
      congr 1
      · rw [ext_ofB]; rfl
      · rw [bs_extract, List.take_of_length_le (by rw [bs_length]; exact Nat.le_refl _)]; rfl
theorem string_row (w W : World) (l : List ByteArray) (t : TypeId) (n : Nat) (hn : n = l.length) (hl : l.length ≤ 4294967290) (hW : W = w.alloc (.cells (l.map Value.string).toArray t)) :
    Kd.R Kd.string t W w.heap.size (fun _ => True) (.slice (some ⟨w.heap.size, 0, none⟩) n n) l := by
  subst hn hW
  have hr : Reps (Kd.string.M (w.alloc (.cells (l.map Value.string).toArray t)) w.heap.size (fun _ => True)) 1 l (l.map Value.string) := by
    have := Kd.reps_scalar (enc := Value.string) l
    exact this
  refine ⟨fun k hk => trivial, l.map Value.string, ⟨by simp [Kd.string, Kd.scalar], .inr ⟨w.heap.size, l.length, (l.map Value.string).toArray, rfl, Nat.le_refl _, heap_alloc_last w _, Nat.le_refl _, by unfold maxLen; omega, by simp [Kd.string, Kd.scalar], by rw [show l.length * Kd.string.sz = l.length from by simp [Kd.string, Kd.scalar]]; exact List.take_of_length_le (by simp)⟩⟩, ?_⟩
  exact hr.imp_ fun x c hM => Kd.string.M_mono (fun k hk => hk) hM
theorem genSplit_one (c : UInt8) (s : ByteArray) (hs : Tiny s) (w : World) : Calls Tryz.prog 97 #[.string s, .string (one c), .int .i64 0, .int .i64 (-1)] w fun e w' => e = .returned (.slice (some ⟨w.heap.size, 0, none⟩) (((parts c.toNat (bs s)).map ofB).length) (((parts c.toNat (bs s)).map ofB).length)) ∧ w' = w.alloc (.cells ((((parts c.toNat (bs s)).map ofB).map Value.string).toArray) 9) := by
  have h1 : 1 ≤ (one c).size := by show 1 ≤ 1; omega
  have hle := countB_le (one c) h1 s.size s (Nat.le_refl _)
  have hlen := splitB_all (one c) h1 0 _ s rfl
  have hsp := split_parts c _ s rfl
  have hI : ∀ (x : ByteArray) (d : Array Value), x.size ≤ s.size → Calls Tryz.prog (Tryz.lays221_ren.f 143) #[.string x, .string (one c)] (w.alloc (.cells d (Tryz.lays221_ren.t 9))) fun e w' => e = .returned (.int .i64 (indexB x (one c))) ∧ w' = w.alloc (.cells d (Tryz.lays221_ren.t 9)) := fun x d _ => by
    refine (Tryz.strings_Index_one x c _).mono fun e w' ⟨h, h2⟩ => ⟨?_, h2⟩
    rw [h, indexB, show (one c).data.toList = [c] from rfl, index_one]
  have hC : Calls Tryz.prog (Tryz.lays221_ren.f 138) #[.string s, .string (one c)] w fun e w' => e = .returned (.int .i64 (countB s (one c))) ∧ w' = w := by
    refine (Tryz.strings_Count_one s c w).mono fun e w' ⟨h, h2⟩ => ⟨?_, h2⟩
    rw [h, countB, show (one c).data.toList = [c] from rfl, count_one]; rfl
  have hN : (((countB s (one c) + 1 : Nat)) : Int) = min (if (-1 : Int) < 0 then (countB s (one c) : Int) + 1 else -1) ((s.size : Int) + 1) := by
    rw [if_pos (by decide)]; omega
  refine (Any.strings_genSplit_core Tryz.lays221 (by kernel_rfl) s (one c) 0 (-1) (countB s (one c) + 1) w hs h1 (Nat.zero_le _) hI hC (by decide) (by decide) hN).mono fun e w' ⟨he, hw⟩ => ?_
  rw [Nat.add_sub_cancel] at he hw
  rw [hlen] at he
  rw [hsp] at hw hlen
  rw [hlen]
  refine ⟨he, ?_⟩
  rw [hw]
  have : cellsOf ((parts c.toNat (bs s)).map ofB) (countB s (one c) + 1) = (((parts c.toNat (bs s)).map ofB).map Value.string).toArray := by
    unfold cellsOf
    rw [hlen, Nat.sub_self]; simp
  rw [this]; rfl
def octet_Parts.f (a0 : ByteArray) (a1 : Int) : Option (List ByteArray) := if Tiny a0 ∧ 0 ≤ a1 ∧ a1 < 256 then some ((parts a1.toNat (bs a0)).map ofB) else none
theorem parts_len (s : ByteArray) (sep : Nat) : ((parts sep (bs s)).map ofB).length ≤ s.size + 1 := by
  have h := (parts_le (sep := sep) (bs s)).2
  rw [bs_length] at h; rw [List.length_map]; exact h
set_option maxHeartbeats 1000000 in
theorem Split_one (c : UInt8) (s : ByteArray) (hs : Tiny s) (w : World) : Calls Tryz.prog 89 #[.string s, .string (one c)] w fun e w' => ∃ v, e = .returned v ∧ Kd.R Kd.string 9 w' w.heap.size (fun _ => True) v ((parts c.toNat (bs s)).map ofB) ∧ Below w.heap.size w w' := by
  have hl := parts_len s c.toNat
  have hg := genSplit_one c s hs
  generalize (parts c.toNat (bs s)).map ofB = L at hl hg
  go_enter Tryz.func89, Tryz.ntmps89
  go_wp2_with (go_at_call 97; refine (hg _).mono ?_; rintro e w' ⟨rfl, rfl⟩)
  go_ret
  exact ⟨_, rfl, string_row _ _ _ _ _ rfl (by unfold Tiny at hs; omega) rfl, below_alloc (Below.refl _ _) _⟩
set_option maxHeartbeats 1000000 in
set_option maxRecDepth 100000 in
theorem octet_Parts.calls (a0 : ByteArray) (a1 : Int) (r : List ByteArray) (w : World) (h : octet_Parts.f a0 a1 = some r) : Calls Tryz.prog 72 #[.string a0, .int .u8 a1] w fun e w' => ∃ v, e = .returned v ∧ Kd.R Kd.string 9 w' w.heap.size (fun _ => True) v r ∧ Below w.heap.size w w' := by
  unfold octet_Parts.f at h
  by_cases ha : Tiny a0 ∧ 0 ≤ a1 ∧ a1 < 256
  case neg => rw [if_neg ha] at h; cases h
  rw [if_pos ha] at h
  obtain rfl := Option.some.inj h
  obtain ⟨hs, h0, h1⟩ := ha
  obtain ⟨n, rfl⟩ := Int.eq_ofNat_of_zero_le h0
  obtain ⟨c, hc⟩ : ∃ c : UInt8, c.toNat = n := ⟨UInt8.ofNat n, by simp; omega⟩
  subst hc
  clear h h0 h1
  have Hs := Aside0.mk hs
  clear hs
  have hst : strOfNums [(c.toNat : Int)] = one c := by simp [strOfNums, one]
  have hcv : (convert 104 9 (.slice (some ⟨w.heap.size, 0, none⟩) 1 1)).run Tryz.prog (w.alloc (.cells #[.int .u8 (c.toNat : Int)] 5)) = .ok (.string (one c)) (w.alloc (.cells #[.int .u8 (c.toNat : Int)] 5)) := by
    rw [← hst]
    refine string_of_reads (e := 5) (by kernel_rfl) (by kernel_rfl) (by kernel_rfl) ⟨rfl, by decide, fun _ => ⟨⟨w.heap.size, 0, none⟩, rfl, fun j hj => ?_⟩⟩
    obtain rfl : j = 0 := by omega
    rw [add_plain]
    exact blk_cell (heap_alloc_last w _) 0
  clear hst
  have Hcv := hcv
  go_enter Tryz.func72, Tryz.ntmps72
  go_wp2_with (go_at_call 89; refine (Split_one c a0 Hs.out _).mono ?_; rintro e w' ⟨v, rfl, hR, hb⟩)
  go_ret
  exact ⟨_, rfl, Kd.R_lower hR (by simp), (below_alloc (Below.refl _ _) _).trans (hb.mono (by simp))⟩
end Go.Proofs.YtnknjhdpjjddeaaGreatDoor.QB.D
end

section
namespace Go.Proofs.YtnknjhdpjjddeaaGreatDoor.QB.D
open Go.Proofs.YtnknjhdpjjddeaaGreatDoor.Q
open Go.RowKit Go.Lib Go.Proofs.YtnknjhdpjjddeaaGreatDoorW.PrintWords Go.Proofs.YtnknjhdpjjddeaaGreatDoorW.PrintLast Go.Proofs.YtnknjhdpjjddeaaGreatDoorW.PrintMore Gw
set_option linter.unusedVariables false
set_option linter.unusedSimpArgs false
/-- What is ahead of the first c, and what is behind it, if there is one. -/
def cutAt (c : Nat) : List Nat → List Nat × Option (List Nat)
  | [] => ([], none)
  | x :: r => if x = c then ([], some r) else ((x :: (cutAt c r).1), (cutAt c r).2)
theorem cutAt_dash : ∀ l, cutAt 45 l = cutDash l
  | [] => rfl
  | x :: r => by rw [cutAt, cutDash, cutAt_dash r]
theorem cutAt_no {c : Nat} : ∀ {l : List Nat}, (∀ x ∈ l, x ≠ c) → cutAt c l = (l, none)
  | [], _ => rfl
  | x :: r, h => by rw [cutAt, if_neg (h x List.mem_cons_self), cutAt_no fun y hy => h y (List.mem_cons_of_mem _ hy)]
theorem cutAt_hit {c : Nat} (r : List Nat) : ∀ {l : List Nat}, (∀ x ∈ l, x ≠ c) → cutAt c (l ++ c :: r) = (l, some r)
  | [], _ => by simp [cutAt]
  | x :: l, h => by rw [List.cons_append, cutAt, if_neg (h x List.mem_cons_self), cutAt_hit r fun y hy => h y (List.mem_cons_of_mem _ hy)]
def cutOut (p : List Nat × Option (List Nat)) : ByteArray × ByteArray × Bool := match p with
  | (a, some b) => (ofB a, ofB b, true)
  | (a, none) => (ofB a, ⟨#[]⟩, false)
set_option maxHeartbeats 1000000 in
theorem lite_Cut (c : UInt8) (s : ByteArray) (hs : Tiny s) (w : World) : Calls Tryz.prog 49 #[.string s, .string (one c)] w fun e w' => e = .returned (.tuple #[.string (cutOut (cutAt c.toNat (bs s))).1, .string (cutOut (cutAt c.toNat (bs s))).2.1, .bool (cutOut (cutAt c.toNat (bs s))).2.2]) ∧ ∃ n, w' = w.drewN n := by
  have hI : ∀ w, Calls Tryz.prog 70 #[.string s, .string (one c)] w fun e w' => e = .returned (.int .i64 (indexB s (one c))) ∧ w' = w := fun w => by
    refine (Tryz.stringslite_Index_one s c _).mono fun e w' ⟨h, h2⟩ => ⟨?_, h2⟩
    rw [h, indexB, show (one c).data.toList = [c] from rfl, index_one]
  rcases indexB_cases s (one c) with hm | ⟨i, hi, hr⟩
  · rw [cutAt_no (idx_miss hm)]
    rw [hm] at hI
    simp only [cutOut, ofB_bs]
    go_enter Tryz.func49, Tryz.ntmps49
    go_wp2_with (go_at_call 70; refine (hI _).mono ?_; rintro e w' ⟨rfl, rfl⟩)
    go_ret3
    exact ⟨rfl, 0, rfl⟩
  · obtain ⟨h1, h2, h3⟩ := idx_hit hi
    rw [hi] at hI
    have e1 : s.extract 0 i = ofB ((bs s).take i) := by rw [ext_ofB]; rfl
    have e2 : s.extract (i + 1) s.size = ofB ((bs s).drop (i + 1)) := by rw [ext_ofB, List.take_of_length_le (by rw [bs_length]; exact Nat.le_refl _)]
    have hcut : cutAt c.toNat (bs s) = ((bs s).take i, some ((bs s).drop (i + 1))) := by
      conv => lhs; rw [h2]
      exact cutAt_hit _ h3
    rw [hcut]
    simp only [cutOut]
    rw [← e1, ← e2]
    have hz : (one c).size = 1 := rfl
    have c1 : (0 : Int) ≤ ↑i := by omega
    have c2 : (↑i : Int) ≤ ↑s.size := by omega
    have c3 : (0 : Int) ≤ ↑i + ↑(one c).size := by omega
    have c4 : (↑i + ↑(one c).size : Int) ≤ ↑s.size := by omega
    have ez : (i + (one c).size) = i + 1 := by rw [hz]
    have mixed : Tryz.prog.follows Departure.mixedOrders = true := by kernel_rfl
    have hwr : IntKind.i64.wrap ((i : Int) + ((one c).size : Int)) = (i : Int) + ((one c).size : Int) := wrap_small _ (by omega) (by unfold Tiny at hs; omega)
    have Hs := Aside0.mk hs
    have Ez := Aside0.mk ez
    have b4 : (s.size : Int) < 4294967281 := by unfold Tiny at hs; omega
    clear h2 h3 hcut e1 e2 hi hs hr hz ez h1
    go_enter Tryz.func49, Tryz.ntmps49
    go_wp2_with (go_at_call 70; refine (hI _).mono ?_; rintro e w' ⟨rfl, rfl⟩)
    go_region_o
    go_wp2
    go_ret3
    exact ⟨rfl, 1, rfl⟩
set_option maxHeartbeats 1000000 in
theorem Cut_one (c : UInt8) (s : ByteArray) (hs : Tiny s) (w : World) : Calls Tryz.prog 35 #[.string s, .string (one c)] w fun e w' => e = .returned (.tuple #[.string (cutOut (cutAt c.toNat (bs s))).1, .string (cutOut (cutAt c.toNat (bs s))).2.1, .bool (cutOut (cutAt c.toNat (bs s))).2.2]) ∧ Drawn0 w w' := by
  have hg := lite_Cut c s hs
  generalize cutOut (cutAt c.toNat (bs s)) = r at hg
  obtain ⟨r1, r2, r3⟩ := r
  go_enter Tryz.func35, Tryz.ntmps35
  go_wp2_with (go_at_call 49; refine (hg _).mono ?_; rintro e w' ⟨rfl, n, rfl⟩)
  go_ret3
  exact ⟨rfl, ⟨_, rfl⟩⟩
def strings_Cut.f (a0 a1 : ByteArray) : Option (ByteArray × ByteArray × Bool) := if Tiny a0 ∧ a1.size = 1 then some (cutOut (cutAt ((bs a1).headD 0) (bs a0))) else none
theorem strings_Cut.calls (a0 a1 : ByteArray) (r1 r2 : ByteArray) (r3 : Bool) (w : World) (h : strings_Cut.f a0 a1 = some (r1, r2, r3)) : Calls Tryz.prog 35 #[.string a0, .string a1] w fun e w' => e = .returned (.tuple #[.string r1, .string r2, .bool r3]) ∧ Drawn0 w w' := by
  unfold strings_Cut.f at h
  by_cases ha : Tiny a0 ∧ a1.size = 1
  case neg => rw [if_neg ha] at h; cases h
  rw [if_pos ha] at h
  obtain ⟨c, rfl⟩ := Lib.one_byte a1 ha.2
  have hg := Cut_one c a0 ha.1 w
  rw [show (bs ⟨#[c]⟩).headD 0 = c.toNat from rfl] at h
  rw [Option.some.inj h] at hg
  exact hg
end Go.Proofs.YtnknjhdpjjddeaaGreatDoor.QB.D
end

section
namespace Go.Proofs.YtnknjhdpjjddeaaGreatDoor.QB.D
open Go.Proofs.YtnknjhdpjjddeaaGreatDoor.Q
open Go.RowKit Go.Lib Go.Proofs.YtnknjhdpjjddeaaGreatDoorW.PrintWords Go.Proofs.YtnknjhdpjjddeaaGreatDoorW.PrintLast Go.Proofs.YtnknjhdpjjddeaaGreatDoorW.PrintMore Gw
set_option linter.unusedVariables false
set_option linter.unusedSimpArgs false
abbrev dot3 : ByteArray := ⟨#[46, 95, 126]⟩
set_option maxHeartbeats 4000000 in
set_option maxRecDepth 1000000 in
theorem rune_bad (w : World) : Calls Tryz.prog 104 #[.string dot3, .int .i32 65533] w fun e w' => e = .returned (.int .i64 (-1)) ∧ Below w.heap.size w w' := by
  go_enter Tryz.func104, Tryz.ntmps104
  go_wp2
  go_loopw [5, 6] (fun _ _ wr => ∃ i : Nat, i ≤ 3 ∧ wr = w.iter dot3 i) (fun _ _ wr => 3 - wr.iterPos w.heap.size)
  case atStart => exact ⟨0, by omega, rfl⟩
  case round =>
    obtain ⟨i, hi, rfl⟩ := hrel
    by_cases h3 : i < 3
    · have hlt : i < dot3.size := h3
      have ha : ∀ j (h : j < dot3.size), (dot3[j]'h).toNat < 128 := by decide
      have hnx := fun ty => run_next_ascii (P := Tryz.prog) w dot3 i ty hlt (ha i hlt)
      have hne : (((dot3[i]'hlt).toNat : Int) == 65533) = false := beq_eq_false_iff_ne.2 (by have := ha i hlt; omega)
      generalize ((dot3[i]'hlt).toNat : Int) = x at hnx hne
      go_wp2
      go_round
      case rel => exact ⟨i + 1, by omega, rfl⟩
      case measure => simp; omega
    · obtain rfl : i = 3 := by omega
      have hnx := fun ty => run_next_end (P := Tryz.prog) w dot3 3 ty (by decide)
      go_wp2
      go_ret
      exact ⟨rfl, below_alloc (Below.refl _ _) _⟩
theorem dot3_no (c : UInt8) (hc : 128 ≤ c.toNat) (i : Nat) : Lib.indexByte ((dot3.extract i 3).data.toList) c = -1 := by
  have h : ∀ l : List UInt8, (∀ x ∈ l, x.toNat < 128) → Lib.indexByte l c = -1 := by
    intro l
    induction l with
    | nil => intro _; rfl
    | cons x r ih =>
      intro hx
      have hne : (x == c) = false := by
        rw [beq_eq_false_iff_ne]; intro e; subst e
        have := hx x List.mem_cons_self; omega
      unfold Lib.indexByte
      rw [hne, ih fun y hy => hx y (List.mem_cons_of_mem _ hy)]
      rfl
  refine h _ fun x hx => ?_
  rw [ByteArray.data_extract, Array.toList_extract] at hx
  have hm := List.mem_of_mem_drop (List.mem_of_mem_take hx)
  have h3 : ∀ y ∈ dot3.data.toList, y.toNat < 128 := by decide
  exact h3 x hm
set_option maxHeartbeats 4000000 in
set_option maxRecDepth 1000000 in
theorem rune_wild (r : Int) (h0 : 128 ≤ r) (h1 : (r == 65533) = false) (hv : Lib.validRune r = false) (w : World) : Calls Tryz.prog 104 #[.string dot3, .int .i32 r] w fun e w' => e = .returned (.int .i64 (-1)) ∧ Below w.heap.size w w' := by
  have c1 : decide (r < 128) = false := decide_eq_false (by omega)
  have c0 : decide (0 ≤ r) = true := decide_eq_true (by omega)
  go_enter Tryz.func104, Tryz.ntmps104
  go_wp2_with (go_at_call 112; refine (Tryz.utf8_ValidRune r _).mono ?_; rintro e w' ⟨rfl, rfl⟩; rw [hv])
  go_ret
  exact ⟨rfl, Below.refl _ _⟩
set_option maxHeartbeats 4000000 in
set_option maxRecDepth 1000000 in
theorem rune_high2 (r : Int) (h0 : 128 ≤ r) (h1 : (r == 65533) = false) (hv : Lib.validRune r = true) (E : ByteArray) (hE : E = Utf8.encode r) (hz : E.size = 2) (c : UInt8) (hc : ∀ h : 1 < E.size, E[1]'h = c) (hc1 : 128 ≤ c.toNat) (w : World) : Calls Tryz.prog 104 #[.string dot3, .int .i32 r] w fun e w' => e = .returned (.int .i64 (-1)) ∧ Below w.heap.size w w' := by
  have c1 : decide (r < 128) = false := decide_eq_false (by omega)
  have c0 : decide (0 ≤ r) = true := decide_eq_true (by omega)
  have hcv : ∀ w, (convert 21 9 (.int .i32 r)).run Tryz.prog w = .ok (.string E) w := fun w => by rw [hE]; exact run_convert_int_string w 21 9 .i32 r (by kernel_rfl) (by kernel_rfl)
  have hcc : ((c.toNat : Int)).toNat.toUInt8 = c := by simp
  have hds : dot3.size = 3 := rfl
  have hw2 : IntKind.i64.wrap 2 = 2 := rfl
  have hw3 : IntKind.i64.wrap 3 = 3 := rfl
  have hne : (((dot3[1]'(by decide)).toNat : Int) != (c.toNat : Int)) = true := by
    have : (dot3[1]'(by decide)).toNat < 128 := by decide
    rw [bne_iff_ne]; omega
  have hib : ∀ w, Calls Tryz.prog 111 #[.string (dot3.extract 2 3), .int .u8 (c.toNat : Int)] w fun e w' => e = .returned (.int .i64 (-1)) ∧ w' = w := fun w => by
    have h := Tryz.strings_IndexByte (dot3.extract 2 3) (c.toNat : Int) w
    rw [hcc, dot3_no c hc1 2] at h
    exact h
  have mixed : Tryz.prog.follows Departure.mixedOrders = true := by kernel_rfl
  clear hE
  go_enter Tryz.func104, Tryz.ntmps104
  go_wp2_with (go_at_call 112; refine (Tryz.utf8_ValidRune r _).mono ?_; rintro e w' ⟨rfl, hw⟩; rw [hw, hv])
  go_step3
  go_wp2
  go_loopw [9] (fun v9 wr => v9 = .int .i64 1 ∧ wr = w) (fun _ _ => 0)
  case atStart => exact ⟨rfl, rfl⟩
  case round =>
    obtain ⟨rfl, rfl⟩ := hrel
    go_wp2_with fail
    go_step3
    go_wp2_with fail
    go_region_o
    go_wp2_with fail
    go_quiet (first | (go_at_call 111; exact (hib _).mono fun e w'' h => ⟨h.1, _, h.2⟩))
    go_wp2
    rw [Exit.noGoto_ret]
    (try simp only [Exit.inBlock, Exit.then])
    refine (Exit.noGoto_ret (Q := _) ..).mpr ?_
    simp only [Exit.inBlock, Exit.then]
    rw [Exit.noGoto_ret]
    (try simp only [Exit.inBlock])
    go_ret
    exact ⟨rfl, by repeat (with_reducible first | exact Below.refl _ _ | refine pw_below_drewN ?_ _ | refine below_drew ?_)⟩
set_option maxHeartbeats 4000000 in
set_option maxRecDepth 1000000 in
theorem rune_high3 (r : Int) (h0 : 128 ≤ r) (h1 : (r == 65533) = false) (hv : Lib.validRune r = true) (E : ByteArray) (hE : E = Utf8.encode r) (hz : E.size = 3) (c : UInt8) (hc : ∀ h : 2 < E.size, E[2]'h = c) (hc1 : 128 ≤ c.toNat) (w : World) : Calls Tryz.prog 104 #[.string dot3, .int .i32 r] w fun e w' => e = .returned (.int .i64 (-1)) ∧ Below w.heap.size w w' := by
  have c1 : decide (r < 128) = false := decide_eq_false (by omega)
  have c0 : decide (0 ≤ r) = true := decide_eq_true (by omega)
  have hcv : ∀ w, (convert 21 9 (.int .i32 r)).run Tryz.prog w = .ok (.string E) w := fun w => by rw [hE]; exact run_convert_int_string w 21 9 .i32 r (by kernel_rfl) (by kernel_rfl)
  have hcc : ((c.toNat : Int)).toNat.toUInt8 = c := by simp
  have hds : dot3.size = 3 := rfl
  have hw2 : IntKind.i64.wrap 2 = 2 := rfl
  have hw3 : IntKind.i64.wrap 3 = 3 := rfl
  have hne : (((dot3[2]'(by decide)).toNat : Int) != (c.toNat : Int)) = true := by
    have : (dot3[2]'(by decide)).toNat < 128 := by decide
    rw [bne_iff_ne]; omega
  have hib : ∀ w, Calls Tryz.prog 111 #[.string (dot3.extract 3 3), .int .u8 (c.toNat : Int)] w fun e w' => e = .returned (.int .i64 (-1)) ∧ w' = w := fun w => by
    have h := Tryz.strings_IndexByte (dot3.extract 3 3) (c.toNat : Int) w
    rw [hcc, dot3_no c hc1 3] at h
    exact h
  have mixed : Tryz.prog.follows Departure.mixedOrders = true := by kernel_rfl
  clear hE
  go_enter Tryz.func104, Tryz.ntmps104
  go_wp2_with (go_at_call 112; refine (Tryz.utf8_ValidRune r _).mono ?_; rintro e w' ⟨rfl, hw⟩; rw [hw, hv])
  go_step3
  go_wp2
  go_loopw [9] (fun v9 wr => v9 = .int .i64 2 ∧ wr = w) (fun _ _ => 0)
  case atStart => exact ⟨rfl, rfl⟩
  case round =>
    obtain ⟨rfl, rfl⟩ := hrel
    go_wp2_with fail
    go_step3
    go_wp2_with fail
    go_region_o
    go_wp2_with fail
    go_quiet (first | (go_at_call 111; exact (hib _).mono fun e w'' h => ⟨h.1, _, h.2⟩))
    go_wp2
    rw [Exit.noGoto_ret]
    (try simp only [Exit.inBlock, Exit.then])
    refine (Exit.noGoto_ret (Q := _) ..).mpr ?_
    simp only [Exit.inBlock, Exit.then]
    rw [Exit.noGoto_ret]
    (try simp only [Exit.inBlock])
    go_ret
    exact ⟨rfl, by repeat (with_reducible first | exact Below.refl _ _ | refine pw_below_drewN ?_ _ | refine below_drew ?_)⟩
set_option maxHeartbeats 4000000 in
set_option maxRecDepth 1000000 in
theorem rune_high4 (r : Int) (h0 : 128 ≤ r) (h1 : (r == 65533) = false) (hv : Lib.validRune r = true) (E : ByteArray) (hE : E = Utf8.encode r) (hz : E.size = 4) (c : UInt8) (hc : ∀ h : 3 < E.size, E[3]'h = c) (hc1 : 128 ≤ c.toNat) (w : World) : Calls Tryz.prog 104 #[.string dot3, .int .i32 r] w fun e w' => e = .returned (.int .i64 (-1)) ∧ Below w.heap.size w w' := by
  have c1 : decide (r < 128) = false := decide_eq_false (by omega)
  have c0 : decide (0 ≤ r) = true := decide_eq_true (by omega)
  have hcv : ∀ w, (convert 21 9 (.int .i32 r)).run Tryz.prog w = .ok (.string E) w := fun w => by rw [hE]; exact run_convert_int_string w 21 9 .i32 r (by kernel_rfl) (by kernel_rfl)
  have hcc : ((c.toNat : Int)).toNat.toUInt8 = c := by simp
  have hds : dot3.size = 3 := rfl
  have hw2 : IntKind.i64.wrap 2 = 2 := rfl
  have hw3 : IntKind.i64.wrap 3 = 3 := rfl
  have mixed : Tryz.prog.follows Departure.mixedOrders = true := by kernel_rfl
  clear hE
  go_enter Tryz.func104, Tryz.ntmps104
  go_wp2_with (go_at_call 112; refine (Tryz.utf8_ValidRune r _).mono ?_; rintro e w' ⟨rfl, hw⟩; rw [hw, hv])
  go_step3
  go_wp2
  go_loopw [9] (fun v9 wr => v9 = .int .i64 3 ∧ wr = w) (fun _ _ => 0)
  case atStart => exact ⟨rfl, rfl⟩
  case round =>
    obtain ⟨rfl, rfl⟩ := hrel
    go_wp2_with fail
    rw [Exit.noGoto_ret]
    go_ret
    exact ⟨rfl, Below.refl _ _⟩
theorem rune_any (r : Int) (h0 : 128 ≤ r) (w : World) : Calls Tryz.prog 104 #[.string dot3, .int .i32 r] w fun e w' => e = .returned (.int .i64 (-1)) ∧ Below w.heap.size w w' := by
  by_cases hb : r = 65533
  · subst hb; exact rune_bad w
  have h1 : (r == 65533) = false := beq_eq_false_iff_ne.2 hb
  cases hv : Lib.validRune r
  · exact rune_wild r h0 h1 hv w
  · obtain ⟨f1, f2, f3⟩ := encode_facts r (by rw [validRune_eq]; exact hv) h0
    obtain ⟨E, hE⟩ : ∃ E, E = Utf8.encode r := ⟨_, rfl⟩
    rw [← hE] at f1 f2 f3
    have hlt : E.size - 1 < E.size := by omega
    have hc := f3 hlt
    rcases (by omega : E.size = 2 ∨ E.size = 3 ∨ E.size = 4) with hz | hz | hz
    · exact rune_high2 r h0 h1 hv E hE hz (E[E.size - 1]'hlt) (fun h => by congr 1; omega) hc w
    · exact rune_high3 r h0 h1 hv E hE hz (E[E.size - 1]'hlt) (fun h => by congr 1; omega) hc w
    · exact rune_high4 r h0 h1 hv E hE hz (E[E.size - 1]'hlt) (fun h => by congr 1; omega) hc w
end Go.Proofs.YtnknjhdpjjddeaaGreatDoor.QB.D
end

section
namespace Go.Proofs.YtnknjhdpjjddeaaGreatDoor.QB.D
open Go.Proofs.YtnknjhdpjjddeaaGreatDoor.Q
open Go.RowKit Go.Lib Go.Proofs.YtnknjhdpjjddeaaGreatDoorW.PrintWords Go.Proofs.YtnknjhdpjjddeaaGreatDoorW.PrintLast Go.Proofs.YtnknjhdpjjddeaaGreatDoorW.PrintMore Gw
set_option linter.unusedVariables false
set_option linter.unusedSimpArgs false
theorem rune_all (r : Int) (h0 : 0 ≤ r) (w : World) : Calls Tryz.prog 104 #[.string dot3, .int .i32 r] w fun e w' => ∃ n : Int, e = .returned (.int .i64 n) ∧ Below w.heap.size w w' := by
  by_cases h : r < 128
  · exact (Tryz.strings_IndexRune_ascii dot3 r w h0 h).mono fun e w' h => ⟨_, h.1, by rw [h.2]; exact Below.refl _ _⟩
  · exact (rune_any r (by omega) w).mono fun e w' h => ⟨_, h⟩
theorem decode_pos (s : ByteArray) (pos : Nat) (h : pos < s.size) : 1 ≤ (Utf8.decode s pos).2 := by
  by_cases ha : (s[pos]'h).toNat < 128
  · rw [decode_ascii s pos h ha]; exact Nat.le_refl _
  · exact (decode_high s pos h (by omega)).2
set_option maxHeartbeats 4000000 in
set_option maxRecDepth 1000000 in
theorem any_short (s : ByteArray) (h8 : s.size ≤ 8) (w : World) : Calls Tryz.prog 100 #[.string s, .string dot3] w fun e w' => ∃ n : Int, e = .returned (.int .i64 n) ∧ Below w.heap.size w w' := by
  have h8z : decide ((8 : Int) < (s.size : Int)) = false := decide_eq_false (by omega)
  go_enter Tryz.func100, Tryz.ntmps100
  go_wp2_with (go_at_call 105; refine (Tryz.strings_shouldUseASCIISet _ _).mono ?_; rintro e w' ⟨rfl, hw⟩; rw [hw, h8z])
  go_loopw [9, 10] (fun _ _ wr => ∃ i : Nat, wr.heap[w.heap.size]? = some (.stringIter s i) ∧ Aside0 (Below w.heap.size w wr)) (fun _ _ wr => s.size - wr.iterPos w.heap.size)
  case atStart => exact ⟨0, World.iter_heap _ _ _, ⟨below_alloc (Below.refl _ _) _⟩⟩
  case round =>
    obtain ⟨i, hit, HB⟩ := hrel
    by_cases hlt : i < s.size
    · have hnx := fun ty => run_next_any_at (P := Tryz.prog) wr w.heap.size s i ty hit hlt
      have hd0 : (0 : Int) ≤ ((Utf8.decode s i).1 : Int) := by omega
      have hd1 := decode_pos s i hlt
      generalize ((Utf8.decode s i).1 : Int) = x at hnx hd0
      generalize (Utf8.decode s i).2 = d at hnx hd1
      have hit2 := iterAt_heap wr w.heap.size s i (i + d) hit
      have hb2 := below_iterAt HB.out (Nat.le_refl _) s (i + d) (k := w.heap.size)
      generalize wr.iterAt w.heap.size s (i + d) = w2 at hnx hit2 hb2
      have hpos : wr.iterPos w.heap.size = i := by simp [World.iterPos, hit]
      have Hpos := Aside0.mk hpos
      have HB2 := Aside0.mk hb2
      have Hit2 := Aside0.mk hit2
      clear hit HB hb2 hit2 hpos
      have hsz : w.heap.size < w2.heap.size := (Array.getElem?_eq_some_iff.1 Hit2.out).1
      go_wp2_with (go_at_call 104; refine (rune_all x hd0 _).mono ?_; rintro e w3 ⟨n, rfl, hb3⟩; have HB3 : Aside0 (Below w.heap.size w w3) := ⟨HB2.out.trans (hb3.mono (by omega))⟩; have Hit3 : Aside0 (w3.heap[w.heap.size]? = some (.stringIter s (i + d))) := ⟨(hb3.block _ hsz).trans Hit2.out⟩; clear hb3)
      · go_ret
        exact ⟨_, rfl, HB3.out⟩
      · have hpos3 : w3.iterPos w.heap.size = i + d := by simp [World.iterPos, Hit3.out]
        go_roundw
        case rel => exact ⟨i + d, Hit3.out, HB3⟩
        case measure => rw [Hpos.out, hpos3]; omega
    · have hnx := fun ty => run_next_end_at (P := Tryz.prog) wr w.heap.size s i ty hit hlt
      go_wp2
      go_ret
      exact ⟨_, rfl, HB.out⟩
def isDot (c : Nat) : Bool := c == 46 || c == 95 || c == 126
theorem index_any : ∀ l : List UInt8, decide (0 ≤ Lib.indexAny l dot3.data.toList) = (l.map UInt8.toNat).any isDot
  | [] => rfl
  | b :: l => by
    have ih := index_any l
    have hg := Lib.indexAny_ge dot3.data.toList l
    have hb : dot3.data.toList.contains b = isDot b.toNat := by
      have h : ∀ n < 256, ([46, 95, 126] : List UInt8).contains (UInt8.ofNat n) = isDot n := by decide +kernel
      have := h b.toNat b.toNat_lt
      rwa [UInt8.ofNat_toNat] at this
    unfold Lib.indexAny
    rw [hb, List.map_cons, List.any_cons]
    cases isDot b.toNat
    · rw [Bool.false_or, ← ih]
      simp only [Bool.false_eq_true, if_false]
      by_cases h1 : Lib.indexAny l dot3.data.toList = -1
      · rw [h1]; rfl
      · rw [if_neg (by simpa using h1)]
        have : (0 ≤ Lib.indexAny l dot3.data.toList + 1) ↔ (0 ≤ Lib.indexAny l dot3.data.toList) := by omega
        exact decide_eq_decide.2 this
    · simp
theorem index_dots (s : ByteArray) (hs : Tiny s) (w : World) : Calls Tryz.prog 100 #[.string s, .string dot3] w fun e w' => ∃ n : Int, e = .returned (.int .i64 n) ∧ ((∀ c ∈ bs s, c < 128) → decide (0 ≤ n) = (bs s).any isDot) ∧ Below w.heap.size w w' := by
  have hac : ∀ (j : Nat) b, dot3.data.toList[j]? = some b → b.toNat < 128 := fun j b h => by
    have h3 : ∀ y ∈ dot3.data.toList, y.toNat < 128 := by decide
    exact h3 b (List.mem_of_getElem? h)
  by_cases h8 : s.size ≤ 8
  · by_cases ha : ∀ c ∈ bs s, c < 128
    · have ha' : ∀ (j : Nat) b, s.data.toList[j]? = some b → b.toNat < 128 := fun j b h => ha _ (List.mem_map.2 ⟨b, List.mem_of_getElem? h, rfl⟩)
      exact (Tryz.strings_IndexAny_short s dot3 w (by decide) h8 ha').mono fun e w' ⟨h1, p, h2⟩ => ⟨_, h1, fun _ => index_any _, by rw [h2]; exact below_alloc (Below.refl _ _) _⟩
    · exact (any_short s h8 w).mono fun e w' ⟨n, h1, h2⟩ => ⟨n, h1, fun h => absurd h ha, h2⟩
  · exact (Tryz.strings_IndexAny_long (zero_of_info (n := 256) (by kernel_rfl)).1 s dot3 w (by decide) (by omega) hs (by decide) hac).mono fun e w' ⟨h1, h2⟩ => ⟨_, h1, fun _ => index_any _, by rw [h2]; exact below_alloc (below_alloc (Below.refl _ _) _) _⟩
set_option maxHeartbeats 1000000 in
theorem contains_dots (s : ByteArray) (hs : Tiny s) (w : World) : Calls Tryz.prog 93 #[.string s, .string dot3] w fun e w' => ∃ b : Bool, e = .returned (.bool b) ∧ ((∀ c ∈ bs s, c < 128) → b = (bs s).any isDot) ∧ Below w.heap.size w w' := by
  have hi := index_dots s hs
  go_enter Tryz.func93, Tryz.ntmps93
  go_wp2_with (go_at_call 100; refine (hi _).mono ?_; rintro e w1 ⟨n, rfl, hn, hb⟩)
  go_ret
  exact ⟨_, rfl, hn, hb⟩
end Go.Proofs.YtnknjhdpjjddeaaGreatDoor.QB.D
end
