/- Part 6 of this claim: several texts one behind the other: EvFz, EvOpen, EvTy, PlainA, Base, Bel, DOct, DOct2, PlainV, PlainO, Ord, PlainN, Pz, Q0, Fgraftwoodlaw01Few, Fgraftwoodlaw05One. What each shows stands in its theorems; conditions: sizes of texts and lists, as the functions' definitions say. -/
import Derived.Test.YtodkjmbmlobihaaGreatDoorVWhyDepths
import Derived.Test.YtodkjmbmlobihaaGreatDoorMWhyDepths5
import Derived.Deep.Slices
import Derived.ChangeArms
import Derived.WideShapes
import Derived.Carry
import Derived.Test.YtodkjmbmlobihaaGreatDoorProg
import Derived.Sort.Grow
import Derived.Lib.OthersKept
import Derived.WalkKit
import Derived.ProofKit
import Derived.RegionTactic
import Derived.BigRegion
import Derived.ChangeAlike
import Derived.Shelf.SlicesQ.Load
import Derived.Laws.Cells
import Derived.Deep.WholeRow
import Derived.Laws.Rows
import Derived.Laws.Tables
import Derived.Below
import Derived.Deep.Draws
import Derived.Deep.AppendLies
import Derived.Maps.AppendAt
import Derived.OwnWalk
import Derived.Laws.BytesArg
import Derived.Laws.MakeOwn
import Derived.Laws.OwnMore
import Derived.Deep.OwnRows
import Derived.Tactics
import Derived.Lib.ConvBytes
import Derived.Laws.Slices
import Derived.KernelRfl
import Derived.RowKit3
import Derived.Deep.LoopGhost
import Derived.Deep.QuietTactic
import Derived.BigQuiet
import Derived.WideLaws
import Derived.Deep.DeepCutAuto
import Derived.Deep.CutBlock
import Derived.Deep.RegionHeld3
import Derived.Lib.AppendStr
import Derived.ArgAppend
import Derived.Laws.IdiomCopy
import Derived.OrdersHeld
import Derived.Laws.BitsLemmas
import Derived.RowKit
section
namespace Go.Ev
open Go Go.RowKit Go.ChangeShapes Go.WideShapes
set_option linter.unusedVariables false
abbrev FT : Nat → Nat → Prop := fun _ _ => True
def CellsR (w : World) (ps : List PV) (cs : List Value) : Prop := ps.length = cs.length ∧ ∀ (j : Nat) (p : PV) (v : Value), ps[j]? = some p → cs[j]? = some v → RepC FT w p v ∧ v.oneCell' = true
theorem cellsR1 {w : World} {p : PV} {v : Value} (h : RepC FT w p v) (h1 : v.oneCell' = true) : CellsR w [p] [v] :=
 ⟨rfl, fun j q u hq hu => by
  match j, hq, hu with
  | 0, hq, hu => cases hq; cases hu; exact ⟨h, h1⟩⟩
theorem CellsR.append {w : World} {ps qs : List PV} {cs ds : List Value} (h : CellsR w ps cs) (g : CellsR w qs ds) : CellsR w (ps ++ qs) (cs ++ ds) := by
 refine ⟨by rw [List.length_append, List.length_append, h.1, g.1], fun j p v hp hv => ?_⟩
 by_cases hj : j < ps.length
 ·rw [List.getElem?_append_left hj] at hp
  rw [List.getElem?_append_left (h.1 ▸ hj)] at hv
  exact h.2 j p v hp hv
 ·rw [List.getElem?_append_right (by omega)] at hp
  rw [List.getElem?_append_right (by rw [← h.1]; omega), ← h.1] at hv
  exact g.2 _ p v hp hv
theorem cell_spot {w : World} {a : Addr} {u : Value} (h : w.cell? (a.add 0) = some u) : a.spot = none := by
 have h : w.cell? a = some u := h
 unfold World.cell? at h
 split at h
 ·split at h
  ·cases h
  ·rename_i hn; simpa using hn
 ·cases h
structure OpE {α : Type} (P : Program) (t : TypeId) (ev : α → PV) (good : α → Prop) : Prop where
 o : ∀ {H : Type} {enc : TypeId × Value → H} {w : World} {base fuel : Nat} {held : Bool} {cs : List Value} {x : DataW H × List MemPlace},
  DataW.trod enc P w base (fun _ => true) held fuel t cs = some x → ∃ y, CellsR w (ev y).cells cs ∧ good y
theorem opE_string {P : Program} {t : TypeId} (h : P.underlying t = some .string) : OpE P t (fun s => .s (.string s)) (fun s => s.size ≤ maxLen) := by
 refine ⟨fun {H enc w base fuel held cs x} hx => ?_⟩
 obtain ⟨s, rfl, _, hs⟩ := DataW.trod_string h hx
 exact ⟨s, cellsR1 (.s _) rfl, hs⟩
def goodE {α : Type} (good : α → Prop) (l : List α) : Prop := l.length ≤ maxLen ∧ ∀ x ∈ l, good x
theorem opE_slice {α : Type} [Inhabited α] {P : Program} {t e : TypeId} {ev : α → PV} {good : α → Prop} (z : Nat) (hz0 : 0 < z) (h : P.underlying t = some (.slice e)) (hc : P.cellsOf e = z) (hz : ∀ y, (ev y).cells.length = z) (hd : OpE P e ev good) :
 OpE P t (fun l => .sl 0 z (l.map ev)) (goodE good) := by
 refine ⟨fun {H enc w base fuel held cs x} hx => ?_⟩
 rcases Go.Deep.open_slice h hx with ⟨rfl, _⟩ | ⟨a, len, cap, m, n, D, Pl, rfl, hb, hl, hm, hmm, rfl, hall⟩
 ·exact ⟨[], cellsR1 (.nil _ _) rfl, by simp [goodE]⟩
 have each : ∀ i, i < m → ∃ y : α, (∃ c, CellsR w (ev y).cells c ∧ c.length = z ∧ ∀ (j : Nat) u, c[j]? = some u → w.cell? (a.add (i * z + j)) = some u) ∧ good y := by
  intro i hi
  obtain ⟨cs', h1, h2⟩ := hall i hi
  obtain ⟨y, hy, hg⟩ := hd.o h2
  obtain ⟨_, hlen, hcell⟩ := World.cells?_some h1
  refine ⟨y, ⟨cs', hy, by rw [hlen, hc], fun j u hu => ?_⟩, hg⟩
  have hj : j < P.cellsOf e := by
   rw [← hlen]
   exact (List.getElem?_eq_some_iff.1 hu).1
  have e1 := hcell j hj
  rw [Go.Deep.add_add, hu, hc] at e1
  exact e1
 obtain ⟨f, hf⟩ := Go.Deep.choose_lt each
 have hlm : len ≤ m := by simp at hmm; omega
 refine ⟨(List.range len).map f, ?_, by simp; omega, ?_⟩
 ·refine cellsR1 ?_ rfl
  by_cases h0 : len = 0
  ·subst h0; exact .emp _ _ _ _ (fun e => by cases e)
  have hel : ∀ i, i < len → ∃ c : List Value, CellsR w (ev (f i)).cells c ∧ c.length = z ∧ ∀ (j : Nat) u, c[j]? = some u → w.cell? (a.add (i * z + j)) = some u := fun i hi => (hf i (by omega)).1
  obtain ⟨g, hg⟩ := Go.Deep.choose_lt hel
  have hs : a.spot = none := by
   obtain ⟨c1, c2, c3⟩ := hg 0 (by omega)
   have hjc : 0 < (g 0).length := by omega
   have := c3 0 _ (List.getElem?_eq_getElem hjc)
   rw [Nat.zero_mul] at this
   exact cell_spot this
  have hadd : ∀ i j, a.add (i * z + j) = ⟨a.block, a.off + i * z + j, none⟩ := fun i j => by
   obtain ⟨b, o, s⟩ := a
   simp only at hs
   subst hs
   rw [Addr.add_lit, Nat.add_assoc]
  have hlen : ((List.range len).map f |>.map ev).length = len := by simp
  have hget : ∀ i (x : PV), ((List.range len).map f |>.map ev)[i]? = some x → i < len ∧ x = ev (f i) := fun i x hx => by
   simp only [List.map_map, List.getElem?_map] at hx
   obtain ⟨k, hk, rfl⟩ := Option.map_eq_some_iff.1 hx
   obtain ⟨hi, rfl⟩ := List.getElem?_eq_some_iff.1 hk
   simp at hi
   simp [hi]
  have hcellg : ∀ i j, i < len → j < z → w.cell? ⟨a.block, a.off + i * z + j, none⟩ = some ((g i).getD j undef) ∧ FT a.block (a.off + i * z + j) ∧ ((g i).getD j undef).oneCell' = true := fun i j hi hj => by
   obtain ⟨c1, c2, c3⟩ := hg i hi
   have hjc : j < (g i).length := by omega
   have e1 := c3 j _ (List.getElem?_eq_getElem hjc)
   rw [hadd i j] at e1
   have hjp : j < (ev (f i)).cells.length := by rw [hz]; exact hj
   have := c1.2 j _ _ (List.getElem?_eq_getElem hjp) (List.getElem?_eq_getElem hjc)
   rw [List.getD_eq_getElem?_getD, List.getElem?_eq_getElem hjc]
   exact ⟨e1, trivial, this.2⟩
  have hrep : ∀ (i : Nat) (x : PV) (j : Nat) (p : PV), ((List.range len).map f |>.map ev)[i]? = some x → x.cells[j]? = some p → RepC FT w p ((g i).getD j undef) := fun i x j p hx hp => by
   obtain ⟨hi, rfl⟩ := hget i x hx
   obtain ⟨c1, c2, c3⟩ := hg i hi
   have hjp : j < (ev (f i)).cells.length := (List.getElem?_eq_some_iff.1 hp).1
   have hjc : j < (g i).length := by rw [hz] at hjp; omega
   rw [List.getD_eq_getElem?_getD, List.getElem?_eq_getElem hjc]
   exact (c1.2 j p _ hp (List.getElem?_eq_getElem hjc)).1
  obtain ⟨b, o, s⟩ := a
  simp only at hs
  subst hs
  have := RepC.sl (F := FT) (w := w) 0 z ((List.range len).map f |>.map ev) b o cap (fun i j => (g i).getD j undef) (fun e => by cases e) (by rw [hlen]; exact hl) (fun x hx => by
   obtain ⟨i, hi⟩ := List.getElem?_of_mem hx
   rw [(hget i x hi).2]; exact hz _) (fun i j hi hj => hcellg i j (by rwa [hlen] at hi) hj) hrep
  rwa [hlen] at this
 ·intro x hx
  obtain ⟨i, hi, rfl⟩ := List.mem_map.1 hx
  exact (hf i (by have := List.mem_range.1 hi; omega)).2
structure OpEF {α : Type} (P : Program) (fs : List Field) (off sz : Nat) (ec : α → List PV) (good : α → Prop) : Prop where
 o : ∀ {H : Type} {enc : TypeId × Value → H} {w : World} {base fuel : Nat} {held : Bool} {cs : List Value}, cs.length = sz →
  (∀ f ∈ fs, ∃ z, DataW.trod enc P w base (fun _ => true) held fuel f.type ((cs.drop (f.offset - off)).take (P.cellsOf f.type)) = some z) → (∀ f ∈ fs, off ≤ f.offset) → ∃ y, CellsR w (ec y) cs ∧ good y
theorem opEF_one {α : Type} {P : Program} {f : Field} {off sz : Nat} {ev : α → PV} {good : α → Prop} (ho : f.offset = off) (hc : P.cellsOf f.type = sz) (h : OpE P f.type ev good) : OpEF P [f] off sz (fun y => (ev y).cells) good := by
 refine ⟨fun {H enc w base fuel held cs} hl hf _ => ?_⟩
 obtain ⟨z, hz⟩ := hf f (by simp)
 rw [ho, Nat.sub_self, List.drop_zero, hc, ← hl, List.take_length] at hz
 exact h.o hz
theorem opEF_cons {α β : Type} {P : Program} {f : Field} {fs : List Field} {off sz sz' : Nat} {ev : α → PV} {ec : β → List PV} {good : α → Prop} {good' : β → Prop} (ho : f.offset = off) (hc : P.cellsOf f.type = sz) (h : OpE P f.type ev good)
 (hr : OpEF P fs (off + sz) sz' ec good') (hfs : ∀ g ∈ fs, off + sz ≤ g.offset) : OpEF P (f :: fs) off (sz + sz') (fun x : α × β => (ev x.1).cells ++ ec x.2) (fun x => good x.1 ∧ good' x.2) := by
 refine ⟨fun {H enc w base fuel held cs} hl hf _ => ?_⟩
 obtain ⟨z, hz⟩ := hf f (by simp)
 rw [ho, Nat.sub_self, List.drop_zero, hc] at hz
 obtain ⟨y, hy, g1⟩ := h.o hz
 obtain ⟨y', hy', g2⟩ := hr.o (cs := cs.drop sz) (by rw [List.length_drop]; omega) (fun g hg => by
  obtain ⟨z, hz⟩ := hf g (List.mem_cons_of_mem _ hg)
  have := hfs g hg
  rw [List.drop_drop]
  have e : sz + (g.offset - (off + sz)) = g.offset - off := by omega
  rw [e]
  exact ⟨z, hz⟩) hfs
 refine ⟨(y, y'), ?_, g1, g2⟩
 have := hy.append hy'
 rwa [List.take_append_drop] at this
theorem opE_struct {α β : Type} {P : Program} {t : TypeId} {fs : Array Field} {ec : α → List PV} {good : α → Prop} (n : Nat) (f : β → α) (g : α → β) (hfg : ∀ x, f (g x) = x) (h : P.underlying t = some (.struct fs)) (hn : P.cellsOf t = n)
 (hF : OpEF P fs.toList 0 n ec good) : OpE P t (fun x => .ag (ec (f x))) (fun x => good (f x)) := by
 refine ⟨fun {H enc w base fuel held cs x} hx => ?_⟩
 obtain ⟨xs, n, rfl, rfl, hl, hxl, hall⟩ := DataW.trod_struct h hx
 obtain ⟨y, hy, hg⟩ := hF.o (cs := cs) (by rw [hl, hn]) (fun q hq => by
  obtain ⟨i, hi, rfl⟩ := List.mem_iff_getElem.1 hq
  have e := hall i fs[i] (by simp)
  have hi' : i < xs.length := by rw [hxl]; simpa using hi
  rw [List.getElem?_eq_getElem hi'] at e
  exact ⟨_, by simp only [Nat.sub_zero]; exact e⟩) (fun _ _ => Nat.zero_le _)
 refine ⟨g y, ?_, ?_⟩
 ·show CellsR w (ec (f (g y))) cs
  rw [hfg]; exact hy
 ·show good (f (g y))
  rw [hfg]; exact hg
theorem par_one {α : Type} {P : Program} {t : TypeId} {ev : α → PV} {good : α → Prop} (hc : ∀ {w r b0 v}, Value.okWide P w r b0 t v → v.cells = #[v]) (he : ∀ y, (ev y).cells = [ev y]) (hO : OpE P t ev good) {H : Type} {enc : TypeId × Value → H} {w : World} {base b0 : Nat} {r : Reach} {held : Bool} {v : Value} {dt : DataW H} {ps : List MemPlace}
 (hv : Value.okWide P w r b0 t v) (h : DataW.Trod enc P w base (fun _ => true) held t v dt ps) : ∃ y, RepC FT w (ev y) v ∧ good y := by
 obtain ⟨fuel, hf⟩ := h
 obtain ⟨y, hy, hg⟩ := hO.o hf
 rw [he, hc hv] at hy
 exact ⟨y, (hy.2 0 _ _ rfl rfl).1, hg⟩
theorem one_slice {P : Program} {t e : TypeId} (ht : P.underlying t = some (.slice e)) {w r b0 v} (hv : Value.okWide P w r b0 t v) : v.cells = #[v] := by
 obtain ⟨_, _, _, rfl⟩ := okWide_slice ht hv; rfl
theorem pc_calls {P : Program} {f : FuncId} {args : List PV} {b : Bool} (h : PCs P f args (.s (.bool b))) (hx : noXo args) {w : World} {vs : List Value} (hv : RepA FT w args vs) : Calls P f vs.toArray w fun e w' => e = .returned (.bool b) ∧ Below w.heap.size w w' :=
 (pc_use h hx hv).mono fun e w' ⟨v, he, hb, hr⟩ => by
  obtain ⟨_, _, _, hr⟩ := hr
  rw [RepC.s_eq hr.1] at he
  exact ⟨he, hb⟩
end Go.Ev
end
section
namespace Go.Proofs.YtodkjmbmlobihaaGreatDoor.Q
open Go Go.Ev
def TT : Tab := ⟨[(2, ⟨(.it .i64), 1, 8, [(.int .i64 0)]⟩),
 (3, ⟨(.it .i64), 1, 8, [(.int .i64 0)]⟩),
 (4, ⟨.bo, 1, 1, [(.bool false)]⟩),
 (5, ⟨(.it .u8), 1, 1, [(.int .u8 0)]⟩),
 (9, ⟨.str, 1, 16, [(.string ⟨#[]⟩)]⟩),
 (21, ⟨(.it .i32), 1, 4, [(.int .i32 0)]⟩),
 (22, ⟨(.sl 49), 1, 24, [(.slice none 0 0)]⟩),
 (24, ⟨(.st [(0, false, 1), (1, false, 1)]), 2, 32, [(.string ⟨#[]⟩), (.string ⟨#[]⟩)]⟩),
 (27, ⟨(.sl 46), 1, 24, [(.slice none 0 0)]⟩),
 (28, ⟨(.it .i64), 1, 8, [(.int .i64 0)]⟩),
 (31, ⟨(.sl 24), 1, 24, [(.slice none 0 0)]⟩),
 (39, ⟨(.sl 31), 1, 24, [(.slice none 0 0)]⟩),
 (46, ⟨(.st [(0, true, 2), (2, false, 1)]), 3, 40, [(.string ⟨#[]⟩), (.string ⟨#[]⟩), (.int .i64 0)]⟩),
 (49, ⟨(.st [(0, true, 2), (2, true, 2)]), 4, 64, [(.string ⟨#[]⟩), (.string ⟨#[]⟩), (.string ⟨#[]⟩), (.string ⟨#[]⟩)]⟩),
 (69, ⟨(.it .u64), 1, 8, [(.int .u64 0)]⟩),
 (72, ⟨(.sl 9), 1, 24, [(.slice none 0 0)]⟩),
 (75, ⟨(.st [(0, false, 1), (1, false, 1), (2, false, 1), (3, false, 1)]), 4, 72, [(.string ⟨#[]⟩), (.string ⟨#[]⟩), (.string ⟨#[]⟩), (.slice none 0 0)]⟩),
 (88, ⟨(.it .u32), 1, 4, [(.int .u32 0)]⟩),
 (90, ⟨(.it .u64), 1, 8, [(.int .u64 0)]⟩),
 (111, ⟨(.ar 3 9), 3, 48, [(.string ⟨#[]⟩), (.string ⟨#[]⟩), (.string ⟨#[]⟩)]⟩),
 (113, ⟨(.sl 3), 1, 24, [(.slice none 0 0)]⟩),
 (115, ⟨(.sl 5), 1, 24, [(.slice none 0 0)]⟩)], [], [], [], false, []⟩
theorem tt_ok : TabOk Tryz.prog TT := tab_ok (by kernel_rfl)
theorem tt_follows : Tryz.prog.follows .mixedOrders = true := by kernel_rfl
end Go.Proofs.YtodkjmbmlobihaaGreatDoor.Q
end
section
set_option linter.unusedVariables false
namespace Gw
abbrev B := List Nat
def dig (c : Nat) : Bool := 48 ≤ c && c ≤ 57
def let_ (c : Nat) : Bool := (65 ≤ c && c ≤ 90) || (97 ≤ c && c ≤ 122)
def inner (c : Nat) : Bool := dig c || let_ c || c == 45 || c == 95 || c == 126
def wch (c : Nat) : Bool := dig c || let_ c || c == 45
def parts (sep : Nat) : B → List B
 | [] => [[]]
 | c :: r => if c = sep then [] :: parts sep r else match parts sep r with
  | p :: ps => (c :: p) :: ps
  | [] => [[c]]
theorem parts_ne (sep : Nat) : ∀ s, parts sep s ≠ []
 | [] => by simp [parts]
 | c :: r => by
  unfold parts
  split
  ·simp
  ·split <;> simp
theorem parts_cons (sep : Nat) (s : B) : ∃ p ps, parts sep s = p :: ps := by
 cases h : parts sep s with
 | nil => exact absurd h (parts_ne sep s)
 | cons p ps => exact ⟨p, ps, rfl⟩
theorem parts_sep (sep : Nat) (r : B) : parts sep (sep :: r) = [] :: parts sep r := by simp [parts]
theorem parts_other {sep c : Nat} (h : c ≠ sep) {r p : B} {ps : List B} (hr : parts sep r = p :: ps) : parts sep (c :: r) = (c :: p) :: ps := by simp [parts, h, hr]
def isNum (s : B) : Bool := s.all dig && match s with | [] => false | c :: r => r.isEmpty || c != 48
def isElem (s : B) : Bool := match s with | [] => false | c :: r => c != 46 && (c :: r).getLast? != some 46 && (c :: r).all (fun c => inner c || c == 46)
def isPath (s : B) : Bool := (parts 47 s).all isElem
def isWord (s : B) : Bool := !s.isEmpty && s.all wch && (!s.all dig || isNum s)
def cutDash : B → B × Option B
 | [] => ([], none)
 | c :: r => if c = 45 then ([], some r) else ((c :: (cutDash r).1), (cutDash r).2)
def preOk : Option B → Bool
 | none => true
 | some r => (parts 46 r).all isWord
def coreOk (n : Nat) (core : B) : Bool := (parts 46 core).length == n && (parts 46 core).all isNum
def isVersion : B → Bool
 | 118 :: r => coreOk 3 (cutDash r).1 && preOk (cutDash r).2
 | _ => false
structure St where
 moves : List (B × Nat)
 ends : Bool
 rest : B
def z : St := ⟨[], false, []⟩
def Bsome : B := [49, 50, 51, 52, 53, 54, 55, 56, 57]
def Bdigits : B := 48 :: Bsome
def Bletters : B := [97, 98, 99, 100, 101, 102, 103, 104, 105, 106, 107, 108, 109, 110, 111, 112, 113, 114, 115, 116, 117, 118, 119, 120, 121, 122, 65, 66, 67, 68, 69, 70, 71, 72, 73, 74, 75, 76, 77, 78, 79, 80, 81, 82, 83, 84, 85, 86, 87, 88, 89, 90]
def Binner : B := Bdigits ++ Bletters ++ [45, 95, 126]
def Btail : B := Bletters ++ [45]
def pathT : List St := [⟨[(Binner, 1)], false, [97]⟩, ⟨[(Binner, 1), ([46], 2), ([47], 0)], true, []⟩, ⟨[(Binner, 1), ([46], 2)], false, [97]⟩]
def versionT : List St := [
 ⟨[([118], 1)], false, [118, 48, 46, 48, 46, 48]⟩,
 ⟨[([48], 2), (Bsome, 3)], false, [48, 46, 48, 46, 48]⟩,
 ⟨[([46], 4)], false, [46, 48, 46, 48]⟩,
 ⟨[(Bdigits, 3), ([46], 4)], false, [46, 48, 46, 48]⟩,
 ⟨[([48], 5), (Bsome, 6)], false, [48, 46, 48]⟩,
 ⟨[([46], 7)], false, [46, 48]⟩,
 ⟨[(Bdigits, 6), ([46], 7)], false, [46, 48]⟩,
 ⟨[([48], 8), (Bsome, 9)], false, [48]⟩,
 ⟨[([45], 10)], true, []⟩,
 ⟨[(Bdigits, 9), ([45], 10)], true, []⟩,
 ⟨[([48], 11), (Bsome, 12), (Btail, 13)], false, [48]⟩,
 ⟨[(Bdigits, 14), (Btail, 13), ([46], 10)], true, []⟩,
 ⟨[(Bdigits, 12), (Btail, 13), ([46], 10)], true, []⟩,
 ⟨[(Bdigits ++ Btail, 13), ([46], 10)], true, []⟩,
 ⟨[(Bdigits, 14), (Btail, 13)], false, [97]⟩]
def goT : List St := [
 ⟨[([48], 1), (Bsome, 2)], false, [48, 46, 48]⟩,
 ⟨[([46], 3)], false, [46, 48]⟩,
 ⟨[(Bdigits, 2), ([46], 3)], false, [46, 48]⟩,
 ⟨[([48], 4), (Bsome, 5)], false, [48]⟩,
 ⟨[([46], 6)], true, []⟩,
 ⟨[(Bdigits, 5), ([46], 6)], true, []⟩,
 ⟨[([48], 7), (Bsome, 8)], false, [48]⟩,
 ⟨[], true, []⟩,
 ⟨[(Bdigits, 8)], true, []⟩]
def tab (k : Nat) : List St := if k = 0 then pathT else if k = 1 then versionT else if k = 2 then goT else []
def stepM (l : List (B × Nat)) (c : Nat) : Option Nat := match l with
 | [] => none
 | m :: r => if m.1.contains c then some m.2 else stepM r c
def at_ (k q : Nat) : St := (tab k).getD q z
def next (k q c : Nat) : Option Nat := stepM (at_ k q).moves c
def run (k q : Nat) : B → Nat × Nat
 | [] => (0, q)
 | c :: r => match next k q c with
  | none => (0, q)
  | some q' => ((run k q' r).1 + 1, (run k q' r).2)
def goes (k q : Nat) : B → Option Nat
 | [] => some q
 | c :: r => match next k q c with
  | none => none
  | some q' => goes k q' r
def acc (k q : Nat) (s : B) : Bool := match goes k q s with | none => false | some q' => (at_ k q').ends
end Gw
end
section
namespace Go.Proofs.YtodkjmbmlobihaaGreatDoor.Q
open Go.RowKit Go.Proofs.YtodkjmbmlobihaaGreatDoorW.PrintWords Go.Proofs.YtodkjmbmlobihaaGreatDoorW.PrintLast Go.Proofs.YtodkjmbmlobihaaGreatDoorW.PrintMore Gw
set_option linter.unusedVariables false
set_option linter.unusedSimpArgs false
def bs (s : ByteArray) : List Nat := s.data.toList.map UInt8.toNat
def ofB (l : List Nat) : ByteArray := ⟨(l.map UInt8.ofNat).toArray⟩
theorem bs_length (s : ByteArray) : (bs s).length = s.size := by simp [bs]
theorem bs_oct (s : ByteArray) : ∀ c ∈ bs s, c < 256 := by
 intro c hc
 simp only [bs, List.mem_map] at hc
 obtain ⟨x, _, rfl⟩ := hc
 exact x.toNat_lt
theorem bs_inj {s t : ByteArray} (h : bs s = bs t) : s = t := by
 have h2 : s.data.toList = t.data.toList := by
  refine List.map_inj_right (f := UInt8.toNat) ?_ |>.1 h
  intro a b hab
  exact UInt8.toNat_inj.1 hab
 cases s; cases t; simp only [ByteArray.mk.injEq]; exact Array.toList_inj.1 h2
theorem bs_ofB {l : List Nat} (h : ∀ c ∈ l, c < 256) : bs (ofB l) = l := by
 simp only [bs, ofB, List.map_map]
 refine (List.map_congr_left fun c hc => ?_).trans (List.map_id _)
 simp [UInt8.toNat_ofNat, Nat.mod_eq_of_lt (h c hc)]
theorem ofB_bs (s : ByteArray) : ofB (bs s) = s := bs_inj (bs_ofB (bs_oct s))
theorem bs_extract (s : ByteArray) (i j : Nat) : bs (s.extract i j) = ((bs s).take j).drop i := by
 simp only [bs, ByteArray.data_extract, Array.toList_extract, List.extract_eq_take_drop, List.map_take, List.map_drop]
 rw [List.drop_take]
theorem bt_drop {s : ByteArray} {i c : Nat} {r : List Nat} (h : (bs s).drop i = c :: r) : i < s.size ∧ bt s (i : Int) = (c : Int) ∧ (bs s).drop (i + 1) = r ∧ c < 256 := by
 have hl : i < (bs s).length := by
  rcases Nat.lt_or_ge i (bs s).length with h1 | h1
  ·exact h1
  ·rw [List.drop_eq_nil_of_le h1] at h; cases h
 rw [List.drop_eq_getElem_cons hl] at h
 injection h with h1 h2
 rw [bs_length] at hl
 refine ⟨hl, ?_, h2, ?_⟩
 ·unfold bt
  simp only [Int.toNat_natCast, dif_pos hl]
  rw [← h1]
  simp [bs]
  rfl
 ·rw [← h1]; exact bs_oct s _ (List.getElem_mem _)
theorem drop_nil {s : ByteArray} {i : Nat} (h : (bs s).drop i = []) (hi : i ≤ s.size) : i = s.size := by
 have := List.drop_eq_nil_iff.1 h
 rw [bs_length] at this
 omega
theorem w1 {i n : Nat} (h : i < n) (hn : n ≤ 4398046511104) : wrap64 ((i : Int) + 1) = ((i + 1 : Nat) : Int) := by
 unfold wrap64; omega
abbrev Small (s : ByteArray) : Prop := s.size ≤ 4398046511104
def cls (c : Nat) : Nat := if dig c then 1 else if let_ c then 2 else if c = 45 ∨ c = 46 ∨ c = 95 ∨ c = 126 then 3 else if c = 47 then 4 else if c = 32 ∨ c = 9 then 5 else if c = 10 then 6 else if c = 34 then 7 else if c = 40 then 8 else if c = 41 then 9 else 0
theorem cls_dig : ∀ c < 256, (cls c = 1 ↔ dig c = true) := by decide +kernel
theorem cls_let : ∀ c < 256, (cls c = 2 ↔ let_ c = true) := by decide +kernel
def glue (cur : List Nat) : List (List Nat) → List (List Nat)
 | [] => [cur]
 | p :: ps => (cur ++ p) :: ps
theorem cur_snoc {l : List Nat} {f i c : Nat} {r : List Nat} (h : l.drop i = c :: r) (hf : f ≤ i) : (l.take (i + 1)).drop f = (l.take i).drop f ++ [c] := by
 have hl : i < l.length := by
  rcases Nat.lt_or_ge i l.length with h1 | h1
  ·exact h1
  ·rw [List.drop_eq_nil_of_le h1] at h; cases h
 rw [List.drop_eq_getElem_cons hl] at h
 injection h with h1 h2
 rw [List.take_succ_eq_append_getElem hl, List.drop_append_of_le_length (by rw [List.length_take]; omega), h1]
theorem ext_ofB (s : ByteArray) (f i : Nat) : s.extract f i = ofB (((bs s).take i).drop f) := by rw [← bs_extract, ofB_bs]
theorem parts_oct {sep : Nat} : ∀ {s : List Nat}, (∀ c ∈ s, c < 256) → ∀ p ∈ parts sep s, ∀ c ∈ p, c < 256
 | [], _, p, hp, c, hc => by simp [parts] at hp; subst hp; cases hc
 | x :: r, h, p, hp, c, hc => by
  obtain ⟨q, qs, hq⟩ := parts_cons sep r
  have ih := parts_oct (sep := sep) (s := r) (fun c hc => h c (List.mem_cons_of_mem _ hc))
  by_cases hx : x = sep
  ·subst hx
   rw [parts_sep, List.mem_cons] at hp
   rcases hp with rfl | hp
   ·cases hc
   ·exact ih p hp c hc
  ·rw [parts_other hx hq, List.mem_cons] at hp
   rw [hq] at ih
   rcases hp with rfl | hp
   ·rcases List.mem_cons.1 hc with rfl | hc
    ·exact h _ List.mem_cons_self
    ·exact ih q List.mem_cons_self c hc
   ·exact ih p (List.mem_cons_of_mem _ hp) c hc
theorem parts_le {sep : Nat} : ∀ (s : List Nat), (∀ p ∈ parts sep s, p.length ≤ s.length) ∧ (parts sep s).length ≤ s.length + 1
 | [] => by simp [parts]
 | x :: r => by
  obtain ⟨q, qs, hq⟩ := parts_cons sep r
  obtain ⟨ih, il⟩ := parts_le (sep := sep) r
  by_cases hx : x = sep
  ·subst hx
   rw [parts_sep]
   refine ⟨fun p hp => ?_, by simp; omega⟩
   rcases List.mem_cons.1 hp with rfl | hp
   ·simp
   ·have := ih p hp; simp; omega
  ·rw [parts_other hx hq]
   rw [hq] at ih il
   refine ⟨fun p hp => ?_, by simp at il ⊢; omega⟩
   rcases List.mem_cons.1 hp with rfl | hp
   ·have := ih q List.mem_cons_self; simp; omega
   ·have := ih p (List.mem_cons_of_mem _ hp); simp; omega
theorem bt_at_get (s : ByteArray) (i : Nat) (h : i < s.size) : bt s (i : Int) = (((bs s)[i]'(by rw [bs_length]; exact h) : Nat) : Int) := by
 have hd : (bs s).drop i = (bs s)[i]'(by rw [bs_length]; exact h) :: (bs s).drop (i + 1) := List.drop_eq_getElem_cons _
 exact (bt_drop hd).2.1
theorem parts_small {s : ByteArray} (hs : Small s) (sep : Nat) : ((parts sep (bs s)).map ofB).length ≤ s.size + 1 ∧ ∀ x ∈ (parts sep (bs s)).map ofB, Small x ∧ x.size ≤ s.size := by
 have h := parts_le (sep := sep) (bs s)
 rw [bs_length] at h
 refine ⟨by rw [List.length_map]; exact h.2, fun x hx => ?_⟩
 obtain ⟨p, hp, rfl⟩ := List.mem_map.1 hx
 have h2 := h.1 p hp
 have h3 : (ofB p).size = p.length := by rw [← bs_length, bs_ofB (parts_oct (bs_oct s) p hp)]
 unfold Small at *
 omega
theorem parts_all (s : ByteArray) (sep : Nat) (q : List Nat → Bool) : ((parts sep (bs s)).map ofB).all (fun x => q (bs x)) = (parts sep (bs s)).all q := by
 rw [List.all_map]
 have : ∀ p ∈ parts sep (bs s), q (bs (ofB p)) = q p := fun p hp => by rw [bs_ofB (parts_oct (bs_oct s) p hp)]
 rw [Bool.eq_iff_iff]
 simp only [List.all_eq_true, Function.comp]
 exact ⟨fun h p hp => by rw [← this p hp]; exact h p hp, fun h p hp => by rw [this p hp]; exact h p hp⟩
theorem less_irrefl : ∀ l : List UInt8, Op.bytesLess l l = false
 | [] => rfl
 | a :: r => by simp [Op.bytesLess, less_irrefl r]
theorem less_tri : ∀ x y : List UInt8, Op.bytesLess x y = false → Op.bytesLess y x = false → x = y
 | [], [], _, _ => rfl
 | [], b :: y, h, _ => by simp [Op.bytesLess] at h
 | a :: x, [], _, h => by simp [Op.bytesLess] at h
 | a :: x, b :: y, h, h2 => by
  simp only [Op.bytesLess, Bool.or_eq_false_iff, decide_eq_false_iff_not, Bool.and_eq_false_iff, beq_eq_false_iff_ne] at h h2
  have hab : a = b := UInt8.le_antisymm (UInt8.not_lt.1 h2.1) (UInt8.not_lt.1 h.1)
  subst hab
  rw [less_tri x y (h.2.resolve_left (fun e => e rfl)) (h2.2.resolve_left (fun e => e rfl))]
theorem bytes_ne {x y : List UInt8} (h : Op.bytesLess y x = true) : (x == y) = false := by
 rw [beq_eq_false_iff_ne]; intro e; subst e; rw [less_irrefl] at h; cases h
theorem bytes_eq {x y : List UInt8} (h : Op.bytesLess x y = false) (h2 : Op.bytesLess y x = false) : (x == y) = true := by
 rw [beq_iff_eq]; exact less_tri x y h h2
end Go.Proofs.YtodkjmbmlobihaaGreatDoor.Q
end
section
namespace Go.Proofs.YtodkjmbmlobihaaGreatDoor.QB
open Go Go.RowKit Go.Sort Go.Proofs.YtodkjmbmlobihaaGreatDoorW.PrintWords Go.Proofs.YtodkjmbmlobihaaGreatDoorW.PrintLast Go.Proofs.YtodkjmbmlobihaaGreatDoorW.PrintMore
set_option linter.unusedVariables false
structure Below (B : Nat) (w w' : World) : Prop extends Go.RowKit.Below B w w' where
 drawn : w.drawn ≤ w'.drawn
theorem Below.refl (B : Nat) (w : World) : Below B w w := ⟨Go.RowKit.Below.refl B w, Nat.le_refl _⟩
theorem Below.trans {B : Nat} {a b c : World} (h : Below B a b) (k : Below B b c) : Below B a c := ⟨h.toBelow.trans k.toBelow, Nat.le_trans h.drawn k.drawn⟩
theorem Below.mono {B B' : Nat} {w w' : World} (h : Below B w w') (hB : B' ≤ B) : Below B' w w' := ⟨h.toBelow.mono hB, h.drawn⟩
theorem Below.alloc {B : Nat} {w w' : World} (h : Below B w w') (hB : B ≤ w'.heap.size) (o : Obj) : Below B w (w'.alloc o) := ⟨h.toBelow.alloc hB o, h.drawn⟩
theorem Below.drew {B : Nat} {w w' : World} (h : Below B w w') : Below B w w'.drew := ⟨h.toBelow.drew, Nat.le_trans h.drawn (Nat.le_succ _)⟩
theorem Below.drewN {B : Nat} {w w' : World} (h : Below B w w') (n : Nat) : Below B w (w'.drewN n) := ⟨Go.Proofs.YtodkjmbmlobihaaGreatDoorW.PrintWords.pw_below_drewN h.toBelow n, Nat.le_trans h.drawn (Nat.le_add_right _ n)⟩
theorem below_alloc {w W : World} (h : Below w.heap.size w W) (o : Obj) : Below w.heap.size w (W.alloc o) := h.alloc h.size o
theorem below_drew {B : Nat} {w W : World} (h : Below B w W) : Below B w W.drew := h.drew
theorem below_drew1 {B : Nat} {w W : World} (h : Below B w W) : Below B w W.drew := h.drew
theorem pw_below_drewN {B : Nat} {w W : World} (h : Below B w W) (n : Nat) : Below B w (W.drewN n) := h.drewN n
theorem below_set {w W : World} {g j : Nat} {v : Value} (h : Below w.heap.size w W) (hg : w.heap.size ≤ g) : Below w.heap.size w (W.setCell ⟨g, j, none⟩ v) := ⟨Go.Proofs.YtodkjmbmlobihaaGreatDoorW.PrintWords.below_set h.toBelow hg, h.drawn⟩
theorem below_size {w W : World} (h : Below w.heap.size w W) : w.heap.size ≤ W.heap.size := h.size
theorem below_step {w W w2 : World} (h : Below w.heap.size w W) (k : Below W.heap.size W w2) : Below w.heap.size w w2 := h.trans (k.mono h.size)
theorem blk_below {w w1 : World} {g : Nat} {o : Obj} (h : w.heap[g]? = some o) (hb : Below w.heap.size w w1) : w1.heap[g]? = some o := Go.Proofs.YtodkjmbmlobihaaGreatDoorW.PrintWords.blk_below h hb.toBelow
theorem drawn_below {w w' : World} (h : Drawn0 w w') : Below w.heap.size w w' := by
 obtain ⟨n, rfl⟩ := h
 exact (Below.refl _ _).drewN n
theorem Kd.R_below {α : Type} {d : Kd α} {e : Nat} {w w1 : World} {base : Nat} {ok : Nat → Prop} {v : Value} {xs : List α} (h : d.R e w base ok v xs) (hb : Below w.heap.size w w1) : d.R e w1 base ok v xs := Go.Proofs.YtodkjmbmlobihaaGreatDoorW.PrintWords.Kd.R_below h hb.toBelow
theorem Kd.C_below {α : Type} {d : Kd α} {w w1 : World} {xs : List α} {A : Option Addr} {n : Nat} (h : d.C w A n xs) (hb : Below w.heap.size w w1) : d.C w1 A n xs := Go.Proofs.YtodkjmbmlobihaaGreatDoorW.PrintWords.Kd.C_below h hb.toBelow
theorem below_iterAt {B : Nat} {w W : World} (h : Below B w W) {k : Nat} (hk : B ≤ k) (s : ByteArray) (i : Nat) : Below B w (W.iterAt k s i) := ⟨Go.Lib.below_iterAt h.toBelow hk s i, h.drawn⟩
section
variable {α : Type} {P : Program} {ops : Array Oper} {rest : List Oper} {o : Oper} {a : Act} {Q : Exit → Act → World → Prop} {Kc : Act → World → Prop}
theorem Kd.lit_new (d : Kd α) {W : World} (base e : Nat) {xs : List α} {inner : List Value} {ok okp : Nat → Prop} (hrep : Reps (d.M W base okp) d.sz xs inner) (hok : ∀ k, okp k → ok k) (hfresh : ok W.heap.size) (hbase : base ≤ W.heap.size) (hm : xs.length ≤ 9223372036854775807) :
 d.R e (W.alloc (.cells inner.toArray e)) base ok (.slice (some ⟨W.heap.size, 0, none⟩) xs.length xs.length) xs := by
 refine ⟨fun k hk => ?_, inner, ?_, ?_⟩
 ·have : W.heap.size = k := by simpa [Value.ownBlock] using hk
  subst this
  exact hfresh
 ·have h2 := World.ownsRow_lit (base := base) (e := e) (size := d.sz) W inner.toArray xs.length hbase (by simpa [maxLen] using hm) (by simpa using hrep.1)
  simpa using h2
 ·refine hrep.imp_ (fun p c hp => d.M_mono (fun k hk => ⟨hok k hk.1, fun he => ?_⟩) (Go.Proofs.YtodkjmbmlobihaaGreatDoorW.PrintWords.Kd.M_below (d.M_bound hp) (Go.Proofs.YtodkjmbmlobihaaGreatDoorW.PrintWords.below_alloc (Go.RowKit.Below.refl _ _) _)))
  have h3 : k = W.heap.size := by simpa [Value.ownBlock] using he
  have := hk.2.2.1
  omega
theorem Kd.R_lit (d : Kd α) {w0 W : World} (base e : Nat) (hgd : o.guard = none) {N : Tmp} (_hd : o.dst = some N) {xs : List α} {inner : List Value} {ok okp : Nat → Prop}
 (hrun : (execOp a.eval o).run P W = .ok (.value (.slice (some ⟨W.heap.size, 0, none⟩) xs.length xs.length)) (W.alloc (.cells inner.toArray e)))
 (hrep : Reps (d.M W base okp) d.sz xs inner) (hok : ∀ k, okp k → ok k) (hfresh : ok W.heap.size) (HB : Below base w0 W) (hbase : base ≤ W.heap.size) (hm : xs.length ≤ 9223372036854775807)
 (h : ∀ v1 w1, d.R e w1 base ok v1 xs → Below base w0 w1 → W.grownBy w1 none → (∃ b, v1.ownBlock = some b ∧ W.heap.size ≤ b) → wpList P ops Q rest (a.put o.dst v1) w1) : wpList P ops Q (o :: rest) a W :=
 Go.Proofs.YtodkjmbmlobihaaGreatDoorW.PrintWords.Kd.event_run hgd hrun (h _ _ (Kd.lit_new d base e hrep hok hfresh hbase hm) (HB.alloc hbase _) (World.grownBy_alloc W _ none) ⟨W.heap.size, by simp [Value.ownBlock], Nat.le_refl _⟩)
theorem box_event {W : World} (hgd : o.guard = none) {N : Tmp} (_hd : o.dst = some N) {cs : Array Value} {t : TypeId}
 (hrun : (execOp a.eval o).run P W = .ok (.value (.pointer (some ⟨W.heap.size, 0, none⟩))) (W.alloc (.cells cs t (0, 0))))
 (h : ∀ g, g = W.heap.size → ∀ w1, w1.heap[g]? = some (.cells cs t (0, 0)) → Below W.heap.size W w1 → wpList P ops Q rest (a.put o.dst (.pointer (some ⟨g, 0, none⟩))) w1) : wpList P ops Q (o :: rest) a W :=
 Go.Proofs.YtodkjmbmlobihaaGreatDoorW.PrintWords.Kd.event_run hgd hrun (h _ rfl _ (blk_new W _) (below_alloc (Below.refl _ _) _))
end
theorem Below.grows {w w' : World} (h : Below w.heap.size w w') : ∃ q os, w' = grow (w.drewN q) os := by
 refine ⟨w'.drawn - w.drawn, w'.heap.extract w.heap.size w'.heap.size, ?_⟩
 have hd := h.drawn
 have hh : w'.heap = w.heap ++ w'.heap.extract w.heap.size w'.heap.size := by
  apply Array.ext_getElem?
  intro i
  rw [Array.getElem?_append]
  split
  ·exact h.block i (by assumption)
  ·have := h.size
   by_cases hi : i < w'.heap.size
   ·rw [Array.getElem?_extract]
    simp; rw [if_pos (by omega)]; congr 1; omega
   ·rw [Array.getElem?_extract]
    simp; rw [if_neg (by omega), Array.getElem?_eq_none (by omega)]
 have h1 := h.os
 have h2 := h.tape
 have h3 := h.output
 cases w' with
 | mk heap tape drawn os output =>
  cases w with
  | mk heap0 tape0 drawn0 os0 output0 =>
   simp only at hh h1 h2 h3 hd
   simp only [grow, World.drewN, World.mk.injEq]
   subst h1 h2 h3
   exact ⟨hh, rfl, by omega, rfl, rfl⟩
end Go.Proofs.YtodkjmbmlobihaaGreatDoor.QB
end
section
namespace Go.Proofs.YtodkjmbmlobihaaGreatDoor.QB.D
open Go.Proofs.YtodkjmbmlobihaaGreatDoor.Q
open Go.RowKit Go.Lib Go.Proofs.YtodkjmbmlobihaaGreatDoorW.PrintWords Go.Proofs.YtodkjmbmlobihaaGreatDoorW.PrintLast Go.Proofs.YtodkjmbmlobihaaGreatDoorW.PrintMore
set_option linter.unusedVariables false
set_option linter.unusedSimpArgs false
abbrev Cat1 : ByteArray := ⟨#[48, 49, 50, 51, 52, 53, 54, 55, 56, 57]⟩
abbrev Cat2 : ByteArray := ⟨#[97, 98, 99, 100, 101, 102, 103, 104, 105, 106, 107, 108, 109, 110, 111, 112, 113, 114, 115, 116, 117, 118, 119, 120, 121, 122, 65, 66, 67, 68, 69, 70, 71, 72, 73, 74, 75, 76, 77, 78, 79, 80, 81, 82, 83, 84, 85, 86, 87, 88, 89, 90]⟩
abbrev Cat3 : ByteArray := ⟨#[45, 46, 95, 126]⟩
abbrev Cat4 : ByteArray := ⟨#[47]⟩
abbrev Cat5 : ByteArray := ⟨#[32, 9]⟩
abbrev Cat6 : ByteArray := ⟨#[10]⟩
abbrev Cat7 : ByteArray := ⟨#[34]⟩
abbrev Cat8 : ByteArray := ⟨#[40]⟩
abbrev Cat9 : ByteArray := ⟨#[41]⟩
def catS : Nat → ByteArray
 | 1 => Cat1
 | 2 => Cat2
 | 3 => Cat3
 | 4 => Cat4
 | 5 => Cat5
 | 6 => Cat6
 | 7 => Cat7
 | 8 => Cat8
 | 9 => Cat9
 | _ => ⟨#[]⟩
def putAll (c : Nat) (a : Array Value) (l : List UInt8) : Array Value := l.foldl (fun a x => a.setIfInBounds x.toNat (.int .i64 (c : Int))) a
def tabA : Nat → Array Value
 | 0 => Array.replicate 256 (.int .i64 0)
 | i + 1 => putAll i (tabA i) (catS i).data.toList
theorem putAll_snoc (c : Nat) (a : Array Value) (l : List UInt8) (x : UInt8) : putAll c a (l ++ [x]) = (putAll c a l).setIfInBounds x.toNat (.int .i64 (c : Int)) := by simp [putAll]
theorem putAll_size (c : Nat) (l : List UInt8) : ∀ a : Array Value, (putAll c a l).size = a.size := by
 induction l with
 | nil => intro a; rfl
 | cons x r ih => intro a; show (putAll c (a.setIfInBounds x.toNat _) r).size = _; rw [ih]; simp
theorem tabA_size : ∀ i, (tabA i).size = 256
 | 0 => by simp [tabA]
 | i + 1 => by rw [tabA, putAll_size]; exact tabA_size i
def clsV : Array Value := tabA 10
theorem cat_idx (i : Nat) (hi : i < 10) (w : World) : (Instr.index 126 (.agg #[.string ⟨#[]⟩, .string Cat1, .string Cat2, .string Cat3, .string Cat4, .string Cat5, .string Cat6, .string Cat7, .string Cat8, .string Cat9]) (.int .i64 (i : Int))).run Tryz.prog w = .ok (.string (catS i)) w := by
 have h0 : ∀ w, (Instr.index 126 (.agg #[.string ⟨#[]⟩, .string Cat1, .string Cat2, .string Cat3, .string Cat4, .string Cat5, .string Cat6, .string Cat7, .string Cat8, .string Cat9]) (.int .i64 0)).run Tryz.prog w = .ok (.string (catS 0)) w := fun _ => by kernel_rfl
 have h1 : ∀ w, (Instr.index 126 (.agg #[.string ⟨#[]⟩, .string Cat1, .string Cat2, .string Cat3, .string Cat4, .string Cat5, .string Cat6, .string Cat7, .string Cat8, .string Cat9]) (.int .i64 1)).run Tryz.prog w = .ok (.string (catS 1)) w := fun _ => by kernel_rfl
 have h2 : ∀ w, (Instr.index 126 (.agg #[.string ⟨#[]⟩, .string Cat1, .string Cat2, .string Cat3, .string Cat4, .string Cat5, .string Cat6, .string Cat7, .string Cat8, .string Cat9]) (.int .i64 2)).run Tryz.prog w = .ok (.string (catS 2)) w := fun _ => by kernel_rfl
 have h3 : ∀ w, (Instr.index 126 (.agg #[.string ⟨#[]⟩, .string Cat1, .string Cat2, .string Cat3, .string Cat4, .string Cat5, .string Cat6, .string Cat7, .string Cat8, .string Cat9]) (.int .i64 3)).run Tryz.prog w = .ok (.string (catS 3)) w := fun _ => by kernel_rfl
 have h4 : ∀ w, (Instr.index 126 (.agg #[.string ⟨#[]⟩, .string Cat1, .string Cat2, .string Cat3, .string Cat4, .string Cat5, .string Cat6, .string Cat7, .string Cat8, .string Cat9]) (.int .i64 4)).run Tryz.prog w = .ok (.string (catS 4)) w := fun _ => by kernel_rfl
 have h5 : ∀ w, (Instr.index 126 (.agg #[.string ⟨#[]⟩, .string Cat1, .string Cat2, .string Cat3, .string Cat4, .string Cat5, .string Cat6, .string Cat7, .string Cat8, .string Cat9]) (.int .i64 5)).run Tryz.prog w = .ok (.string (catS 5)) w := fun _ => by kernel_rfl
 have h6 : ∀ w, (Instr.index 126 (.agg #[.string ⟨#[]⟩, .string Cat1, .string Cat2, .string Cat3, .string Cat4, .string Cat5, .string Cat6, .string Cat7, .string Cat8, .string Cat9]) (.int .i64 6)).run Tryz.prog w = .ok (.string (catS 6)) w := fun _ => by kernel_rfl
 have h7 : ∀ w, (Instr.index 126 (.agg #[.string ⟨#[]⟩, .string Cat1, .string Cat2, .string Cat3, .string Cat4, .string Cat5, .string Cat6, .string Cat7, .string Cat8, .string Cat9]) (.int .i64 7)).run Tryz.prog w = .ok (.string (catS 7)) w := fun _ => by kernel_rfl
 have h8 : ∀ w, (Instr.index 126 (.agg #[.string ⟨#[]⟩, .string Cat1, .string Cat2, .string Cat3, .string Cat4, .string Cat5, .string Cat6, .string Cat7, .string Cat8, .string Cat9]) (.int .i64 8)).run Tryz.prog w = .ok (.string (catS 8)) w := fun _ => by kernel_rfl
 have h9 : ∀ w, (Instr.index 126 (.agg #[.string ⟨#[]⟩, .string Cat1, .string Cat2, .string Cat3, .string Cat4, .string Cat5, .string Cat6, .string Cat7, .string Cat8, .string Cat9]) (.int .i64 9)).run Tryz.prog w = .ok (.string (catS 9)) w := fun _ => by kernel_rfl
 match i, hi with
 | 0, _ => exact h0 w
 | 1, _ => exact h1 w
 | 2, _ => exact h2 w
 | 3, _ => exact h3 w
 | 4, _ => exact h4 w
 | 5, _ => exact h5 w
 | 6, _ => exact h6 w
 | 7, _ => exact h7 w
 | 8, _ => exact h8 w
 | 9, _ => exact h9 w
theorem cat_size (i : Nat) : (catS i).size ≤ 52 := by
 unfold catS
 split <;> decide
theorem put_take (i k : Nat) (h : k < (catS i).size) (hi : i < 10) : putAll i (tabA i) ((catS i).data.toList.take (k + 1)) = (putAll i (tabA i) ((catS i).data.toList.take k)).setIfInBounds ((catS i)[k]).toNat (.int .i64 (i : Int)) := by
 rw [List.take_succ_eq_append_getElem (by simpa using h), putAll_snoc]
 rfl
set_option maxHeartbeats 2000000 in
set_option maxRecDepth 100000 in
theorem classes_calls (w : World) : Calls Tryz.prog 99 #[] w fun e w' => e = .returned (.agg clsV) ∧ w' = w.alloc (.cells clsV 120) := by
 go_enter Tryz.func99, Tryz.ntmps99
 go_wp2
 go_loopw [5] (fun v5 wr => ∃ i : Nat, i ≤ 10 ∧ v5 = .int .i64 (i : Int) ∧ wr = w.alloc (.cells (tabA i) 120)) (fun v5 _ => 10 - (RowKit.intOf v5).toNat)
 case atStart => exact ⟨0, by omega, rfl, rfl⟩
 case round =>
  obtain ⟨i, hi, rfl, rfl⟩ := hrel
  by_cases hil : i < 10
  ·have hi1 : decide ((i : Int) < 10) = true := decide_eq_true (by omega)
   have hx := cat_idx i hil
   have hsz := cat_size i
   go_wp2
   go_loopw [11] (fun v11 wr => ∃ k : Nat, k ≤ (catS i).size ∧ v11 = .int .i64 (k : Int) ∧ wr = w.alloc (.cells (putAll i (tabA i) ((catS i).data.toList.take k)) 120)) (fun v11 _ => (catS i).size - (RowKit.intOf v11).toNat)
   case atStart => exact ⟨0, Nat.zero_le _, rfl, rfl⟩
   case round =>
    obtain ⟨k, hk, rfl, rfl⟩ := hrel
    by_cases hkl : k < (catS i).size
    ·have hk1 : decide ((k : Int) < ((catS i).size : Int)) = true := decide_eq_true (by omega)
     have hk2 : decide (k < (catS i).size) = true := decide_eq_true hkl
     have hpt := put_take i k hkl hil
     have hps : (putAll i (tabA i) ((catS i).data.toList.take k)).size = 256 := by rw [putAll_size, tabA_size]
     have hb : ((catS i)[k].toNat : Int) < 256 := by have := (catS i)[k].toNat_lt; omega
     generalize hput : putAll i (tabA i) ((catS i).data.toList.take k) = P at hpt hps
     have hpc : P[(catS i)[k].toNat]? = some (P[(catS i)[k].toNat]'(by omega)) := Array.getElem?_eq_getElem _
     have Hpt := Aside0.mk hpt
     clear hpt hput
     go_wp2
     go_round
     case rel => exact ⟨k + 1, by omega, by go_num, by rw [Hpt.out]⟩
     case measure => simp [RowKit.intOf]; omega
    ·obtain rfl : k = (catS i).size := by omega
     have hk1 : decide (((catS i).size : Int) < ((catS i).size : Int)) = false := decide_eq_false (by omega)
     rw [List.take_of_length_le (by simp)]
     go_wp2
     go_round
     case rel => exact ⟨i + 1, by omega, by go_num, rfl⟩
     case measure => simp [RowKit.intOf]; omega
  ·obtain rfl : i = 10 := by omega
   have hpc : ∀ j (hj : j < 256), (tabA 10)[j]? = some ((tabA 10)[j]'(by rw [tabA_size]; exact hj)) := fun j hj => Array.getElem?_eq_getElem _
   clear hi hil
   show Code.wp _ _ _ _ (w.alloc (.cells clsV 120))
   clear hpc
   have hz : clsV.size = 256 := tabA_size 10
   have hs := run_storeCells_new (P := Tryz.prog) w 120 clsV clsV (by kernel_rfl) rfl (by kernel_rfl)
   obtain ⟨V, hV⟩ : ∃ V, V = clsV := ⟨_, rfl⟩
   rw [← hV] at hz hs ⊢
   have HV := Aside0.mk hV
   clear hV
   go_wp2
   refine wp_load_row 120 (.tmp 0) rfl w.heap.size rfl 120 V (0, 0) (.array 256 3) (heap_alloc_last w _) (by kernel_rfl) rfl (by rw [hz]; kernel_rfl) ?_
   go_wp2
   refine bodyPost_ret (v := .agg V) ?_ rfl ⟨by rw [HV.out], by rw [HV.out]⟩
   exact results_cell_row rfl _ _ w.heap.size 120 V (0, 0) (.array 256 3) rfl (heap_alloc_last w _) (by kernel_rfl) rfl (by rw [hz]; kernel_rfl)
end Go.Proofs.YtodkjmbmlobihaaGreatDoor.QB.D
end
section
namespace Go.Proofs.YtodkjmbmlobihaaGreatDoor.QB.D
open Go.Proofs.YtodkjmbmlobihaaGreatDoor.Q
open Go.RowKit Go.Lib Go.Proofs.YtodkjmbmlobihaaGreatDoorW.PrintWords Go.Proofs.YtodkjmbmlobihaaGreatDoorW.PrintLast Go.Proofs.YtodkjmbmlobihaaGreatDoorW.PrintMore Gw
set_option linter.unusedVariables false
set_option linter.unusedSimpArgs false
theorem clsV_eq : clsV = ((List.range 256).map fun c => Value.int .i64 (cls c : Nat)).toArray := by kernel_rfl
theorem clsV_at {c : Nat} (h : c < 256) : clsV[c]? = some (.int .i64 (cls c : Nat)) := by
 rw [clsV_eq]; simp [h]
theorem cls_lt : ∀ c < 256, cls c < 10 := by decide +kernel
theorem cls_idx {c : Nat} (h : c < 256) (w : World) : (Instr.index 120 (.agg clsV) (.int .u8 (c : Int))).run Tryz.prog w = .ok (.int .i64 (cls c : Nat)) w := by
 have hu : Tryz.prog.underlying 120 = some (.array 256 3) := by kernel_rfl
 have h1 : (c : Int) < 256 := by omega
 simp [Instr.index, run_underlying hu, asIntOf, h1, h, clsV_at h, Sem.run_bind, go_sem]
set_option maxHeartbeats 1000000 in
theorem Class_calls (c : Nat) (h : c < 256) (w : World) : Calls Tryz.prog 97 #[.int .u8 (c : Int)] w fun e w' => e = .returned (.int .i64 (cls c : Nat)) ∧ Below w.heap.size w w' := by
 have hi := cls_idx h
 go_enter Tryz.func97, Tryz.ntmps97
 go_wp2_with (go_at_call 99; refine (classes_calls _).mono ?_; rintro e w' ⟨rfl, rfl⟩)
 go_ret
 exact ⟨rfl, below_alloc (Below.refl _ _) _⟩
set_option maxHeartbeats 1000000 in
theorem In_calls (c : Nat) (h : c < 256) (A0 : Option Addr) (c0 : Nat) (l0 : List Int) (w : World) (hr0 : Kd.C (Kd.int .i64) w A0 l0.length l0) : Calls Tryz.prog 88 #[.int .u8 (c : Int), .slice A0 l0.length c0] w fun e w' => e = .returned (.bool (decide ((cls c : Int) ∈ l0))) ∧ Below w.heap.size w w' := by
 have HR := Aside0.mk hr0
 clear hr0
 go_enter Tryz.func88, Tryz.ntmps88
 go_wp2_with (go_at_call 97; refine (Class_calls c h _).mono ?_; rintro e w1 ⟨rfl, hb⟩)
 have HB := Aside0.mk hb
 clear hb
 go_loopw [12] (fun v12 wr => ∃ k : Nat, k ≤ l0.length ∧ v12 = .int .i64 (k : Int) ∧ wr = w1 ∧ Aside0 (∀ x ∈ l0.take k, x ≠ (cls c : Int))) (fun v12 _ => l0.length - (RowKit.intOf v12).toNat)
 case atStart => exact ⟨0, Nat.zero_le _, rfl, rfl, ⟨fun x hx => by cases hx⟩⟩
 case round =>
  obtain ⟨k, hk, rfl, rfl, hA⟩ := hrel
  by_cases hkl : k < l0.length
  ·have hk1 : decide ((k : Int) < (l0.length : Int)) = true := decide_eq_true (by omega)
   have hC := Kd.C_below HR.out HB.out
   have hmax := Kd.C_max hC
   have hw1 : wrap64 ((k : Int) + 1) = ((k + 1 : Nat) : Int) := by unfold wrap64; omega
   obtain ⟨ad, rfl, hx⟩ := Kd.at_int hC (k : Int) (by omega) (by omega)
   have hxk : rd l0 (k : Int) = l0[k] := by simp [rd, List.getD_eq_getElem?_getD, List.getElem?_eq_getElem hkl]
   rw [hxk, Int.toNat_natCast] at hx
   have htk : l0.take (k + 1) = l0.take k ++ [l0[k]] := List.take_succ_eq_append_getElem hkl
   have hmem : l0[k] ∈ l0 := List.getElem_mem hkl
   have Hmem := Aside0.mk hmem
   have Htk := Aside0.mk htk
   obtain ⟨x, hy⟩ : ∃ x, x = l0[k] := ⟨_, rfl⟩
   rw [← hy] at hx Htk Hmem
   clear hmem htk hy hC hxk
   by_cases he : x = (cls c : Int)
   ·have e1 : (x == (cls c : Int)) = true := beq_iff_eq.2 he
    have hd : decide ((cls c : Int) ∈ l0) = true := decide_eq_true (he ▸ Hmem.out)
    have Hd := Aside0.mk hd
    clear he hd
    go_wp2
    go_ret
    exact ⟨by rw [Hd.out]; rfl, HB.out⟩
   ·have e1 : (x == (cls c : Int)) = false := beq_eq_false_iff_ne.2 he
    have He := Aside0.mk he
    clear he
    go_wp2
    go_roundw
    case rel => exact ⟨k + 1, by omega, by first | rfl | go_num, by first | trivial | rfl, ⟨fun y hy => by
     rw [Htk.out, List.mem_append] at hy
     rcases hy with hy | hy
     ·exact hA.out y hy
     ·rw [List.mem_singleton.1 hy]; exact He.out⟩⟩
    case measure => simp [RowKit.intOf]; omega
  ·obtain rfl : k = l0.length := by omega
   have hk1 : decide ((l0.length : Int) < (l0.length : Int)) = false := decide_eq_false (by omega)
   have hd : decide ((cls c : Int) ∈ l0) = false := decide_eq_false (fun hm => by
    have := hA.out _ (by rw [List.take_length]; exact hm)
    exact this rfl)
   have Hd := Aside0.mk hd
   clear hd
   go_wp2
   go_ret
   exact ⟨by rw [Hd.out]; rfl, HB.out⟩
def mayA (l : List Int) : Array Value := ((List.range 10).map fun (j : Nat) => Value.bool (decide ((j : Int) ∈ l))).toArray
theorem mayA_nil : mayA [] = Array.replicate 10 (.bool false) := by kernel_rfl
theorem mayA_size (l : List Int) : (mayA l).size = 10 := by simp [mayA]
theorem mayA_at (l : List Int) {j : Nat} (h : j < 10) : (mayA l)[j]? = some (.bool (decide ((j : Int) ∈ l))) := by simp [mayA, h]
theorem mayA_snoc (l : List Int) {x : Nat} (h : x < 10) : (mayA l).setIfInBounds x (.bool true) = mayA (l ++ [(x : Int)]) := by
 apply Array.ext_getElem?
 intro j
 rw [Array.getElem?_setIfInBounds, mayA_size]
 by_cases hj : j < 10
 ·rw [mayA_at _ hj, mayA_at _ hj]
  by_cases e : x = j
  ·subst e; simp [h]
  ·rw [if_neg e]
   have : ¬ (j : Int) = (x : Int) := by omega
   simp [this]
 ·have h1 : (mayA l)[j]? = none := Array.getElem?_eq_none (by rw [mayA_size]; omega)
  have h2 : (mayA (l ++ [(x : Int)]))[j]? = none := Array.getElem?_eq_none (by rw [mayA_size]; omega)
  rw [h1, h2, if_neg (by omega)]
theorem mayA_skip (l : List Int) {x : Int} (h : x < 0 ∨ 10 ≤ x) : mayA (l ++ [x]) = mayA l := by
 apply Array.ext_getElem?
 intro j
 by_cases hj : j < 10
 ·rw [mayA_at _ hj, mayA_at _ hj]
  have : ¬ (j : Int) = x := by omega
  simp [this]
 ·rw [Array.getElem?_eq_none (by rw [mayA_size]; omega), Array.getElem?_eq_none (by rw [mayA_size]; omega)]
def octet_All.f (a0 : ByteArray) (l0 : List Int) : Option Bool := if Small a0 then some ((bs a0).all fun c => decide ((cls c : Int) ∈ l0)) else none
set_option maxHeartbeats 2000000 in
set_option maxRecDepth 100000 in
theorem octet_All.calls (a0 : ByteArray) (A0 : Option Addr) (c0 : Nat) (l0 : List Int) (r : Bool) (w : World) (hr0 : Kd.C (Kd.int .i64) w A0 l0.length l0) (hc0 : l0.length ≤ c0) (h : octet_All.f a0 l0 = some r) :
 Calls Tryz.prog 91 #[.string a0, .slice A0 l0.length c0] w fun e w' => e = .returned (.bool r) ∧ Below w.heap.size w w' := by
 unfold octet_All.f at h
 by_cases hs : Small a0
 case neg => rw [if_neg hs] at h; cases h
 rw [if_pos hs] at h
 have Hr := Aside0.mk (Option.some.inj h)
 have HS := Aside0.mk hs
 clear hs
 have HR := Aside0.mk hr0
 clear hr0 h hc0
 have hs : Sem.run Tryz.prog (storeCells ⟨w.heap.size + 1, 0, none⟩ clsV.toList) ((w.alloc (.cells clsV 120)).alloc (.cells Tryz.zeroCells120 120)) = .ok () ((w.alloc (.cells clsV 120)).alloc (.cells clsV 120)) := by
  have h := run_storeCells_new (P := Tryz.prog) (w.alloc (.cells clsV 120)) 120 Tryz.zeroCells120 clsV (by kernel_rfl) (by kernel_rfl) (by kernel_rfl)
  have e : (w.alloc (.cells clsV 120)).heap.size = w.heap.size + 1 := by simp
  rw [e] at h
  exact h
 go_enter Tryz.func91, Tryz.ntmps91
 go_wp2_with (go_at_call 99; refine (classes_calls _).mono ?_; rintro e w' ⟨rfl, rfl⟩)
 obtain ⟨W2, hW2⟩ : ∃ W2, W2 = (w.alloc (.cells clsV 120)).alloc (.cells clsV 120) := ⟨_, rfl⟩
 have e2 : w.heap.size + 1 + 1 = W2.heap.size := by rw [hW2]; simp
 have hB2 : Below w.heap.size w W2 := by rw [hW2]; exact below_alloc (below_alloc (Below.refl _ _) _) _
 have hc5 : ∀ c, c < 256 → W2.cell? ⟨w.heap.size + 1, c, none⟩ = some (.int .i64 (cls c : Nat)) := fun c hc => by
  have h := blk_cell (w := W2) (g := w.heap.size + 1) (t := 120) (cs := clsV) (by rw [hW2]; exact heap_alloc2_new w _ _) c
  rw [h, clsV_at hc]
 rw [← hW2, e2]
 have HB2 := Aside0.mk hB2
 have Hc5 := Aside0.mk hc5
 have He2 := Aside0.mk e2
 clear hB2 hc5 hW2 hs
 go_loopw [13] (fun v13 wr => ∃ k : Nat, k ≤ l0.length ∧ v13 = .int .i64 (k : Int) ∧ wr = W2.alloc (.cells (mayA (l0.take k)) 122)) (fun v13 _ => l0.length - (RowKit.intOf v13).toNat)
 case atStart => exact ⟨0, Nat.zero_le _, rfl, by rw [List.take_zero, mayA_nil]; first | rfl | (congr 2; kernel_rfl)⟩
 case round =>
  obtain ⟨k, hk, rfl, rfl⟩ := hrel
  by_cases hkl : k < l0.length
  ·have hk1 : decide ((k : Int) < (l0.length : Int)) = true := decide_eq_true (by omega)
   have hC := Kd.C_below (HR.out) (below_alloc HB2.out (.cells (mayA (l0.take k)) 122))
   have hmax := Kd.C_max hC
   have hw1 : wrap64 ((k : Int) + 1) = ((k + 1 : Nat) : Int) := by unfold wrap64; omega
   obtain ⟨ad, rfl, hx⟩ := Kd.at_int hC (k : Int) (by omega) (by omega)
   have hxk : rd l0 (k : Int) = l0[k] := by simp [rd, List.getD_eq_getElem?_getD, List.getElem?_eq_getElem hkl]
   rw [hxk, Int.toNat_natCast] at hx
   have htk : l0.take (k + 1) = l0.take k ++ [l0[k]] := List.take_succ_eq_append_getElem hkl
   have Htk := Aside0.mk htk
   obtain ⟨x, hy⟩ : ∃ x, x = l0[k] := ⟨_, rfl⟩
   rw [← hy] at hx Htk
   clear htk hy hC hxk
   have hsz := mayA_size (l0.take k)
   by_cases h0 : 0 ≤ x
   ·have d0 : decide (0 ≤ x) = true := decide_eq_true h0
    by_cases h10 : x < 10
    ·have d10 : decide (x < 10) = true := decide_eq_true h10
     obtain ⟨n, rfl⟩ := Int.eq_ofNat_of_zero_le h0
     have hn : n < 10 := by omega
     have hsn := mayA_snoc (l0.take k) hn
     have hat := mayA_at (l0.take k) hn
     have Hsn := Aside0.mk hsn
     clear hsn
     go_wp2
     go_roundw
     case rel => exact ⟨k + 1, by omega, by first | rfl | go_num, by rw [Htk.out, ← Hsn.out]⟩
     case measure => simp [RowKit.intOf]; omega
    ·have d10 : decide (x < 10) = false := decide_eq_false h10
     have hsk := Aside0.mk (mayA_skip (l0.take k) (x := x) (Or.inr (by omega)))
     go_wp2
     go_roundw
     case rel => exact ⟨k + 1, by omega, by first | rfl | go_num, by rw [Htk.out, hsk.out]⟩
     case measure => simp [RowKit.intOf]; omega
   ·have d0 : decide (0 ≤ x) = false := decide_eq_false h0
    have hsk := Aside0.mk (mayA_skip (l0.take k) (x := x) (Or.inl (by omega)))
    go_wp2
    go_roundw
    case rel => exact ⟨k + 1, by omega, by first | rfl | go_num, by rw [Htk.out, hsk.out]⟩
    case measure => simp [RowKit.intOf]; omega
  ·obtain rfl : k = l0.length := by omega
   have hk1 : decide ((l0.length : Int) < (l0.length : Int)) = false := decide_eq_false (by omega)
   rw [List.take_length]
   go_wp2
   obtain ⟨W3, hW3⟩ : ∃ W3, W3 = W2.alloc (.cells (mayA l0) 122) := ⟨_, rfl⟩
   rw [← hW3]
   have hB3 : Below w.heap.size w W3 := by rw [hW3]; exact below_alloc HB2.out _
   have hc6 : ∀ c, c < 10 → W3.cell? ⟨W2.heap.size, c, none⟩ = some (.bool (decide ((c : Int) ∈ l0))) := fun c hc => by
    have h := blk_cell (w := W3) (g := W2.heap.size) (t := 122) (cs := mayA l0) (by rw [hW3]; exact heap_alloc_last W2 _) c
    rw [h, mayA_at _ hc]
   have hc5 : ∀ c, c < 256 → W3.cell? ⟨w.heap.size + 1, c, none⟩ = some (.int .i64 (cls c : Nat)) := fun c hc => by
    rw [hW3]; exact Lib.cell?_alloc_some _ (Hc5.out c hc)
   have HB3 := Aside0.mk hB3
   have Hc6 := Aside0.mk hc6
   have Hd5 := Aside0.mk hc5
   clear hB3 hc6 hc5 hW3 hk1 hk hkl
   go_loopw [28] (fun v28 wr => ∃ k : Nat, k ≤ a0.size ∧ v28 = .int .i64 (k : Int) ∧ wr = W3 ∧ Aside0 (((bs a0).take k).all (fun c => decide ((cls c : Int) ∈ l0)) = true)) (fun v28 _ => a0.size - (RowKit.intOf v28).toNat)
   case atStart => exact ⟨0, Nat.zero_le _, rfl, rfl, ⟨rfl⟩⟩
   case round =>
    obtain ⟨k, hk, rfl, rfl, hA⟩ := hrel
    by_cases hkl : k < a0.size
    ·have hk1 : decide ((k : Int) < (a0.size : Int)) = true := decide_eq_true (by omega)
     have hq : decide (k < a0.size) = true := decide_eq_true hkl
     have hdr : (bs a0).drop k = (bs a0)[k]'(by rw [bs_length]; exact hkl) :: (bs a0).drop (k + 1) := List.drop_eq_getElem_cons _
     have hbt := (bt_drop hdr).2.1
     have hc := (bt_drop hdr).2.2.2
     have htk : (bs a0).take (k + 1) = (bs a0).take k ++ [(bs a0)[k]'(by rw [bs_length]; exact hkl)] := List.take_succ_eq_append_getElem _
     have hmem : (bs a0)[k]'(by rw [bs_length]; exact hkl) ∈ bs a0 := List.getElem_mem _
     have hS : (a0.size : Int) ≤ 4398046511104 := by have := HS.out; omega
     obtain ⟨c, hcc⟩ : ∃ c, c = (bs a0)[k]'(by rw [bs_length]; exact hkl) := ⟨_, rfl⟩
     rw [← hcc] at hbt hc htk hmem
     have hx9 : ∀ h : k < a0.size, ((a0[k]'h).toNat : Int) = (c : Int) := fun h => by rw [← hbt]; exact bt_at a0 k h
     have hx8 : ∀ h : k < a0.size, (a0[k]'h).toNat = c := fun h => by have := hx9 h; omega
     have h5 := Hd5.out c hc
     have h6 := Hc6.out (cls c) (cls_lt c hc)
     have hc1 : (c : Int) < 256 := by omega
     have hc2 : (cls c : Int) < 10 := by have := cls_lt c hc; omega
     have Htk := Aside0.mk htk
     have Hmem := Aside0.mk hmem
     clear htk hmem hcc hbt hdr
     generalize hdm : decide ((cls c : Int) ∈ l0) = d at h6
     have Hdm := Aside0.mk hdm
     clear hdm
     cases d
     ·have hrf : r = false := by
       rw [← Hr.out, List.all_eq_false]
       exact ⟨c, Hmem.out, by rw [Hdm.out]; decide⟩
      have Hrf := Aside0.mk hrf
      clear hrf
      go_wp2
      go_ret
      exact ⟨by rw [Hrf.out]; rfl, HB3.out⟩
     ·go_wp2
      go_roundw
      case rel => exact ⟨k + 1, hkl, by go_num, by first | trivial | rfl, ⟨by rw [Htk.out, List.all_append, hA.out]; simp [Hdm.out]⟩⟩
      case measure => simp [RowKit.intOf]; omega
    ·obtain rfl : k = a0.size := by omega
     have hk1 : decide ((a0.size : Int) < (a0.size : Int)) = false := decide_eq_false (by omega)
     have hrt : r = true := by
      have h := hA.out
      rw [List.take_of_length_le (by rw [bs_length]; exact Nat.le_refl _)] at h
      rw [← Hr.out, h]
     have Hrt := Aside0.mk hrt
     clear hrt
     go_wp2
     go_ret
     exact ⟨by rw [Hrt.out]; rfl, HB3.out⟩
end Go.Proofs.YtodkjmbmlobihaaGreatDoor.QB.D
end
section
set_option linter.unusedVariables false
namespace Gw
abbrev VP := B × B × B × List B
def vpre (a b c : B) (pre : Option B) : Option VP := match pre with
 | none => some (a, b, c, [])
 | some p => if (parts 46 p).all isWord then some (a, b, c, parts 46 p) else none
def vcore (core : B) (pre : Option B) : Option VP := match parts 46 core with
 | [a, b, c] => if isNum a && isNum b && isNum c then vpre a b c pre else none
 | _ => none
def vparts : B → Option VP
 | 118 :: r => vcore (cutDash r).1 (cutDash r).2
 | _ => none
theorem vcore_some (core : B) (pre : Option B) : (vcore core pre).isSome = (coreOk 3 core && preOk pre) := by
 unfold vcore coreOk vpre
 rcases hp : parts 46 core with _ | ⟨a, _ | ⟨b, _ | ⟨c, _ | ⟨d, l⟩⟩⟩⟩
 ·rfl
 ·rfl
 ·rfl
 ·simp only [List.length_cons, List.length_nil, List.all_cons, List.all_nil, Bool.and_true]
  cases isNum a <;> cases isNum b <;> cases isNum c <;> try rfl
  cases pre with
  | none => rfl
  | some p =>
   simp only [preOk]
   cases (parts 46 p).all isWord <;> rfl
 ·simp
theorem vparts_some (s : B) : (vparts s).isSome = isVersion s := by
 unfold vparts isVersion
 split
 ·exact vcore_some _ _
 ·rename_i h
  first
   | rfl
   | (split
      ·exact absurd rfl (h _)
      ·rfl)
end Gw
end
section
set_option linter.unusedVariables false
namespace Gw
def orI (x y : Int) : Int := if x = 0 then y else x
structure TO {α : Type} (P : α → Prop) (c : α → α → Int) : Prop where
 tri : ∀ a b, c a b = -1 ∨ c a b = 0 ∨ c a b = 1
 sym : ∀ a b, P a → P b → c b a = - c a b
 eq : ∀ a b, P a → P b → (c a b = 0 ↔ a = b)
 tr : ∀ a b d, P a → P b → P d → c a b < 0 → c b d < 0 → c a d < 0
def cmpN (n m : Nat) : Int := if n < m then -1 else if m < n then 1 else 0
def lexC : List Nat → List Nat → Int
 | [], [] => 0
 | [], _ :: _ => -1
 | _ :: _, [] => 1
 | a :: x, b :: y => if a < b then -1 else if b < a then 1 else lexC x y
def numC (a b : B) : Int := orI (cmpN a.length b.length) (lexC a b)
def wordC (a b : B) : Int := if isNum a then (if isNum b then numC a b else -1) else if isNum b then 1 else lexC a b
def wordsC : List B → List B → Int
 | [], [] => 0
 | [], _ :: _ => -1
 | _ :: _, [] => 1
 | a :: x, b :: y => orI (wordC a b) (wordsC x y)
def preC (x y : List B) : Int := if x = [] ∨ y = [] then cmpN y.length x.length else wordsC x y
def flagC (x y : List B) : Int := if x = [] then (if y = [] then 0 else 1) else if y = [] then -1 else 0
def verC (x y : VP) : Int := orI (numC x.1 y.1) (orI (numC x.2.1 y.2.1) (orI (numC x.2.2.1 y.2.2.1) (orI (flagC x.2.2.2 y.2.2.2) (wordsC x.2.2.2 y.2.2.2))))
theorem orI_tri {x y : Int} (hx : x = -1 ∨ x = 0 ∨ x = 1) (hy : y = -1 ∨ y = 0 ∨ y = 1) : orI x y = -1 ∨ orI x y = 0 ∨ orI x y = 1 := by
 unfold orI; split <;> assumption
theorem cmpN_to : TO (fun _ : Nat => True) cmpN := by
 refine ⟨fun a b => ?_, fun a b _ _ => ?_, fun a b _ _ => ?_, fun a b d _ _ _ => ?_⟩ <;> unfold cmpN <;> (repeat' split) <;> omega
theorem lexC_tri : ∀ a b, lexC a b = -1 ∨ lexC a b = 0 ∨ lexC a b = 1
 | [], [] => by simp [lexC]
 | [], _ :: _ => by simp [lexC]
 | _ :: _, [] => by simp [lexC]
 | a :: x, b :: y => by
  have := lexC_tri x y
  unfold lexC
  repeat' split
  all_goals first | omega | exact this
theorem lexC_sym : ∀ a b, lexC b a = - lexC a b
 | [], [] => by simp [lexC]
 | [], _ :: _ => by simp [lexC]
 | _ :: _, [] => by simp [lexC]
 | a :: x, b :: y => by
  have := lexC_sym x y
  unfold lexC
  repeat' split
  all_goals first | omega | exact this
theorem lexC_eq : ∀ a b, lexC a b = 0 ↔ a = b
 | [], [] => by simp [lexC]
 | [], _ :: _ => by simp [lexC]
 | _ :: _, [] => by simp [lexC]
 | a :: x, b :: y => by
  have := lexC_eq x y
  unfold lexC
  rw [List.cons.injEq]
  repeat' split
  all_goals first | (simp; omega) | (rw [this]; constructor <;> intro h <;> first | exact h.2 | exact ⟨by omega, h⟩)
theorem lexC_tr : ∀ a b d, lexC a b < 0 → lexC b d < 0 → lexC a d < 0
 | [], [], _, h, _ => by simp [lexC] at h
 | [], _ :: _, [], _, h => by simp [lexC] at h
 | [], _ :: _, _ :: _, _, _ => by simp [lexC]
 | _ :: _, [], _, h, _ => by simp [lexC] at h
 | _ :: _, _ :: _, [], _, h => by simp [lexC] at h
 | a :: x, b :: y, d :: z, h1, h2 => by
  unfold lexC at *
  repeat' split
  all_goals (try omega)
  have hab : ¬ a < b := fun h => by
   rw [if_pos h] at h1
   split at h2
   ·omega
   ·split at h2 <;> omega
  have hba : ¬ b < a := fun h => by rw [if_neg hab, if_pos h] at h1; omega
  rw [if_neg hab, if_neg hba] at h1
  have hbd : ¬ b < d := by omega
  have hdb : ¬ d < b := by omega
  rw [if_neg hbd, if_neg hdb] at h2
  exact lexC_tr x y z h1 h2
theorem lexC_to : TO (fun _ : B => True) lexC := ⟨lexC_tri, fun a b _ _ => lexC_sym a b, fun a b _ _ => lexC_eq a b, fun a b d _ _ _ => lexC_tr a b d⟩
theorem TO.or {α : Type} {P : α → Prop} {c1 c2 : α → α → Int} (t1 : ∀ a b, c1 a b = -1 ∨ c1 a b = 0 ∨ c1 a b = 1) (s1 : ∀ a b, P a → P b → c1 b a = - c1 a b)
 (z1 : ∀ a b d, P a → P b → P d → c1 a b ≤ 0 → c1 b d ≤ 0 → c1 a d ≤ 0 ∧ (c1 a d = 0 → c1 a b = 0 ∧ c1 b d = 0))
 (t2 : ∀ a b, c2 a b = -1 ∨ c2 a b = 0 ∨ c2 a b = 1) (s2 : ∀ a b, P a → P b → c1 a b = 0 → c2 b a = - c2 a b)
 (e : ∀ a b, P a → P b → (c1 a b = 0 ∧ c2 a b = 0 ↔ a = b))
 (r2 : ∀ a b d, P a → P b → P d → c1 a b = 0 → c1 b d = 0 → c2 a b < 0 → c2 b d < 0 → c2 a d < 0) : TO P (fun a b => orI (c1 a b) (c2 a b)) := by
 refine ⟨fun a b => orI_tri (t1 a b) (t2 a b), fun a b ha hb => ?_, fun a b ha hb => ?_, fun a b d ha hb hd h1 h2 => ?_⟩
 ·have := s1 a b ha hb
  have h2 := s2 a b ha hb
  show orI (c1 b a) (c2 b a) = - orI (c1 a b) (c2 a b)
  unfold orI
  split <;> split <;> first | omega | (rename_i h; exact h2 (by omega))
 ·rw [← e a b ha hb]
  show orI (c1 a b) (c2 a b) = 0 ↔ _
  unfold orI
  split <;> rename_i h
  ·exact ⟨fun h2 => ⟨h, h2⟩, fun h2 => h2.2⟩
  ·exact ⟨fun h2 => absurd h2 h, fun h2 => absurd h2.1 h⟩
 ·have h1' : orI (c1 a b) (c2 a b) < 0 := h1
  have h2' : orI (c1 b d) (c2 b d) < 0 := h2
  show orI (c1 a d) (c2 a d) < 0
  have k1 : c1 a b ≤ 0 := by unfold orI at h1'; split at h1' <;> omega
  have k2 : c1 b d ≤ 0 := by unfold orI at h2'; split at h2' <;> omega
  have z := z1 a b d ha hb hd k1 k2
  unfold orI
  split <;> rename_i h
  ·have zz := z.2 h
   unfold orI at h1' h2'
   rw [if_pos zz.1] at h1'
   rw [if_pos zz.2] at h2'
   exact r2 a b d ha hb hd zz.1 zz.2 h1' h2'
  ·omega
theorem TO.le {α : Type} {P : α → Prop} {c : α → α → Int} (h : TO P c) : ∀ a b d, P a → P b → P d → c a b ≤ 0 → c b d ≤ 0 → c a d ≤ 0 ∧ (c a d = 0 → c a b = 0 ∧ c b d = 0) := by
 intro a b d ha hb hd h1 h2
 by_cases e1 : c a b = 0
 ·have := (h.eq a b ha hb).1 e1
  subst this
  exact ⟨h2, fun h3 => ⟨e1, h3⟩⟩
 ·by_cases e2 : c b d = 0
  ·have := (h.eq b d hb hd).1 e2
   subst this
   exact ⟨h1, fun h3 => ⟨h3, e2⟩⟩
  ·have := h.tr a b d ha hb hd (by omega) (by omega)
   exact ⟨by omega, fun h3 => by omega⟩
theorem TO.keys {α β γ : Type} {P : α → Prop} {Q : β → Prop} {R : γ → Prop} {c : β → β → Int} {d : γ → γ → Int} (f : α → β) (g : α → γ) (hc : TO Q c) (hd : TO R d) (hf : ∀ a, P a → Q (f a)) (hg : ∀ a, P a → R (g a)) (inj : ∀ a b, f a = f b → g a = g b → a = b) : TO P (fun a b => orI (c (f a) (f b)) (d (g a) (g b))) := by
 refine TO.or (fun a b => hc.tri _ _) (fun a b ha hb => hc.sym _ _ (hf a ha) (hf b hb)) (fun a b d ha hb hd => hc.le _ _ _ (hf a ha) (hf b hb) (hf d hd)) (fun a b => hd.tri _ _) (fun a b ha hb _ => hd.sym _ _ (hg a ha) (hg b hb)) (fun a b ha hb => ?_) (fun a b d' ha hb hd' _ _ => hd.tr _ _ _ (hg a ha) (hg b hb) (hg d' hd'))
 rw [hc.eq _ _ (hf a ha) (hf b hb), hd.eq _ _ (hg a ha) (hg b hb)]
 exact ⟨fun h => inj a b h.1 h.2, fun h => by subst h; exact ⟨rfl, rfl⟩⟩
theorem numC_to : TO (fun _ : B => True) numC := by
 refine TO.or (c1 := fun a b : B => cmpN a.length b.length) (fun a b => cmpN_to.tri _ _) (fun a b _ _ => cmpN_to.sym _ _ trivial trivial) (fun a b d _ _ _ => cmpN_to.le _ _ _ trivial trivial trivial) lexC_tri (fun a b _ _ _ => lexC_sym a b) (fun a b _ _ => ?_) (fun a b d _ _ _ _ _ => lexC_tr a b d)
 rw [lexC_eq]
 exact ⟨fun h => h.2, fun h => by subst h; exact ⟨(cmpN_to.eq _ _ trivial trivial).2 rfl, rfl⟩⟩
theorem wordC_to : TO (fun _ : B => True) wordC := by
 refine ⟨fun a b => ?_, fun a b _ _ => ?_, fun a b _ _ => ?_, fun a b d _ _ _ => ?_⟩
 ·have h1 := numC_to.tri a b
  have h2 := lexC_tri a b
  unfold wordC
  repeat' split
  all_goals first | assumption | omega
 ·have h1 := numC_to.sym a b trivial trivial
  have h2 := lexC_sym a b
  unfold wordC
  cases isNum a <;> cases isNum b <;> simp_all
 ·have h1 := numC_to.eq a b trivial trivial
  have h2 := lexC_eq a b
  unfold wordC
  by_cases ha : isNum a = true <;> by_cases hb : isNum b = true <;> simp only [ha, hb, if_true, if_false, Bool.false_eq_true] <;> first | exact h1 | exact h2 | skip
  ·exact ⟨fun h => absurd h (by decide), fun h => by subst h; exact absurd ha hb⟩
  ·exact ⟨fun h => absurd h (by decide), fun h => by subst h; exact absurd hb ha⟩
 ·have h1 := numC_to.tr a b d trivial trivial trivial
  have h2 := lexC_tr a b d
  unfold wordC
  cases isNum a <;> cases isNum b <;> cases isNum d <;> simp <;> assumption
theorem wordsC_to : TO (fun _ : List B => True) wordsC := by
 have tri : ∀ a b, wordsC a b = -1 ∨ wordsC a b = 0 ∨ wordsC a b = 1 := by
  intro a
  induction a with
  | nil => intro b; cases b <;> simp [wordsC]
  | cons x a ih => intro b; cases b with
   | nil => simp [wordsC]
   | cons y b => exact orI_tri (wordC_to.tri _ _) (ih b)
 refine ⟨tri, fun a => ?_, fun a => ?_, fun a => ?_⟩
 ·induction a with
  | nil => intro b _ _; cases b <;> simp [wordsC]
  | cons x a ih =>
   intro b _ _
   cases b with
   | nil => simp [wordsC]
   | cons y b =>
    have h1 := wordC_to.sym x y trivial trivial
    have h2 := ih b trivial trivial
    simp only [wordsC]
    unfold orI
    split <;> split <;> omega
 ·induction a with
  | nil => intro b _ _; cases b <;> simp [wordsC]
  | cons x a ih =>
   intro b _ _
   cases b with
   | nil => simp [wordsC]
   | cons y b =>
    have h1 := wordC_to.eq x y trivial trivial
    have h2 := ih b trivial trivial
    simp only [wordsC, List.cons.injEq]
    unfold orI
    split <;> rename_i h
    ·rw [h2]; exact ⟨fun h3 => ⟨h1.1 h, h3⟩, fun h3 => h3.2⟩
    ·exact ⟨fun h3 => absurd h3 h, fun h3 => absurd (h1.2 h3.1) h⟩
 ·induction a with
  | nil =>
   intro b d _ _ _ h1 h2
   cases b with
   | nil => simp [wordsC] at h1
   | cons y b => cases d with
    | nil => simp [wordsC] at h2
    | cons => simp [wordsC]
  | cons x a ih =>
   intro b d _ _ _ h1 h2
   cases b with
   | nil => simp [wordsC] at h1
   | cons y b => cases d with
    | nil => simp [wordsC] at h2
    | cons z d =>
     have h3 := ih b d trivial trivial trivial
     simp only [wordsC] at h1 h2 ⊢
     have k1 : wordC x y ≤ 0 := by unfold orI at h1; split at h1 <;> omega
     have k2 : wordC y z ≤ 0 := by unfold orI at h2; split at h2 <;> omega
     have z := wordC_to.le x y z trivial trivial trivial k1 k2
     unfold orI at *
     split
     ·rename_i h
      rw [if_pos (z.2 h).1] at h1
      rw [if_pos (z.2 h).2] at h2
      exact h3 h1 h2
     ·omega
theorem pre_to : TO (fun _ : List B => True) (fun x y => orI (flagC x y) (wordsC x y)) := by
 refine TO.or (fun a b => ?_) (fun a b _ _ => ?_) (fun a b d _ _ _ => ?_) wordsC_to.tri (fun a b _ _ _ => wordsC_to.sym a b trivial trivial) (fun a b _ _ => ?_) (fun a b d _ _ _ _ _ => wordsC_to.tr a b d trivial trivial trivial)
 ·unfold flagC; repeat' split
  all_goals omega
 ·unfold flagC; repeat' split
  all_goals omega
 ·unfold flagC; repeat' split
  all_goals omega
 ·rw [wordsC_to.eq _ _ trivial trivial]
  exact ⟨fun h => h.2, fun h => by subst h; refine ⟨?_, rfl⟩; unfold flagC; split <;> rfl⟩
theorem verC_to : TO (fun _ : VP => True) verC :=
 TO.keys (fun x : VP => x.1) (fun x : VP => x.2) numC_to
  (TO.keys (P := fun _ => True) (fun x : B × B × List B => x.1) (fun x => x.2) numC_to
   (TO.keys (P := fun _ => True) (fun x : B × List B => x.1) (fun x => x.2) numC_to pre_to (fun _ _ => trivial) (fun _ _ => trivial) (fun a b h1 h2 => Prod.ext h1 h2))
   (fun _ _ => trivial) (fun _ _ => trivial) (fun a b h1 h2 => Prod.ext h1 h2))
  (fun _ _ => trivial) (fun _ _ => trivial) (fun a b h1 h2 => Prod.ext h1 h2)
theorem preC_eq (x y : List B) : preC x y = orI (flagC x y) (wordsC x y) := by
 unfold preC flagC orI
 cases x <;> cases y <;> simp [wordsC, cmpN]
end Gw
end
section
namespace Go.Proofs.YtodkjmbmlobihaaGreatDoor.Q
open Go Go.RowKit Go.Proofs.YtodkjmbmlobihaaGreatDoorW.PrintWords Go.Proofs.YtodkjmbmlobihaaGreatDoorW.PrintLast Go.Proofs.YtodkjmbmlobihaaGreatDoorW.PrintMore Gw
set_option linter.unusedVariables false
set_option linter.unusedSimpArgs false
theorem less_lex : ∀ x y : List UInt8, Op.bytesLess x y = decide (lexC (x.map UInt8.toNat) (y.map UInt8.toNat) = -1)
 | [], [] => rfl
 | [], _ :: _ => rfl
 | _ :: _, [] => by simp [Op.bytesLess, lexC]
 | a :: x, b :: y => by
  have ih := less_lex x y
  simp only [Op.bytesLess, List.map_cons, lexC, ih]
  by_cases h1 : a.toNat < b.toNat
  ·have : a < b := h1
   simp [h1, this]
  ·have h1' : ¬ a < b := h1
   by_cases h2 : b.toNat < a.toNat
   ·have h3 : a ≠ b := fun e => by subst e; omega
    simp [h1, h1', h2, h3]
   ·have h3 : a = b := UInt8.toNat_inj.1 (by omega)
    subst h3
    simp
theorem str_less (a b : ByteArray) : Op.bytesLess a.toList b.toList = decide (lexC (bs a) (bs b) = -1) := by
 rw [less_lex, ByteArray.toList_eq, ByteArray.toList_eq]; rfl
theorem str_eq (a b : ByteArray) : (a.toList == b.toList) = decide (a = b) := by
 rw [ByteArray.toList_eq, ByteArray.toList_eq]
 by_cases h : a = b
 ·subst h; simp
 ·rw [decide_eq_false h, beq_eq_false_iff_ne]
  intro e
  apply h
  cases a; cases b; simp only [ByteArray.mk.injEq]; exact Array.toList_inj.1 e
theorem less_asymm {x y : List UInt8} (h : Op.bytesLess x y = true) : Op.bytesLess y x = false := by
 rw [less_lex] at h ⊢
 have := of_decide_eq_true h
 rw [lexC_sym, this]
 rfl
theorem run_gtr_str (P : Program) (w : World) (t : TypeId) (a b : ByteArray) : Sem.run P (binOp .gtr t (.string a) (.string b)) w = .ok (.bool (Op.bytesLess b.toList a.toList)) w := by
 have e : (!(Op.bytesLess a.toList b.toList || a.toList == b.toList)) = Op.bytesLess b.toList a.toList := by
  cases h1 : Op.bytesLess a.toList b.toList
  ·cases h2 : Op.bytesLess b.toList a.toList
   ·rw [bytes_eq h1 h2]; rfl
   ·rw [bytes_ne h2]; rfl
  ·rw [less_asymm h1]; rfl
 rw [← e]
 rfl
end Go.Proofs.YtodkjmbmlobihaaGreatDoor.Q
end
section
set_option linter.unusedVariables false
namespace Gw
def glueS (sep : Nat) : List B → B
 | [] => []
 | [p] => p
 | p :: q :: r => p ++ sep :: glueS sep (q :: r)
theorem glue_parts (sep : Nat) : ∀ s, glueS sep (parts sep s) = s
 | [] => rfl
 | c :: r => by
  have ih := glue_parts sep r
  obtain ⟨p, ps, hp⟩ := parts_cons sep r
  by_cases h : c = sep
  ·subst h
   rw [parts_sep, hp]
   rw [hp] at ih
   simp [glueS, ih]
  ·rw [parts_other h hp]
   rw [hp] at ih
   cases ps with
   | nil => simp [glueS] at ih ⊢; exact ih
   | cons q qs => simp [glueS] at ih ⊢; exact ih
theorem parts_inj {sep : Nat} {s t : B} (h : parts sep s = parts sep t) : s = t := by rw [← glue_parts sep s, h, glue_parts]
theorem cut_back : ∀ s, s = (cutDash s).1 ++ (match (cutDash s).2 with | none => [] | some r => 45 :: r)
 | [] => rfl
 | c :: r => by
  have ih := cut_back r
  unfold cutDash
  split
  ·rename_i h; subst h; simp
  ·show c :: r = (c :: (cutDash r).1) ++ _
   rw [List.cons_append]
   exact congrArg (List.cons c) ih
theorem vcore_inj {c c' : B} {p p' : Option B} {v : VP} (h : vcore c p = some v) (h' : vcore c' p' = some v) : c = c' ∧ p = p' := by
 have key : ∀ {c : B} {p : Option B}, vcore c p = some v → parts 46 c = [v.1, v.2.1, v.2.2.1] ∧ (match p with | none => v.2.2.2 = [] | some r => v.2.2.2 = parts 46 r) := by
  intro c p h
  unfold vcore at h
  split at h
  ·rename_i a b d hp
   split at h
   ·unfold vpre at h
    split at h
    ·injection h with h
     subst h
     exact ⟨hp, rfl⟩
    ·split at h
     ·injection h with h
      subst h
      exact ⟨hp, rfl⟩
     ·cases h
   ·cases h
  ·cases h
 obtain ⟨h1, h2⟩ := key h
 obtain ⟨h3, h4⟩ := key h'
 refine ⟨parts_inj (h1.trans h3.symm), ?_⟩
 cases p with
 | none =>
  cases p' with
  | none => rfl
  | some r => exact absurd (h4.symm.trans h2) (parts_ne _ _)
 | some r =>
  cases p' with
  | none => exact absurd (h2.symm.trans h4) (parts_ne _ _)
  | some r' => rw [parts_inj (h2.symm.trans h4)]
theorem vparts_inj {s t : B} {v : VP} (h : vparts s = some v) (h' : vparts t = some v) : s = t := by
 unfold vparts at h h'
 split at h
 ·split at h'
  ·rename_i r _ r'
   obtain ⟨h1, h2⟩ := vcore_inj h h'
   have e1 := cut_back r
   have e2 := cut_back r'
   rw [h1, h2] at e1
   rw [e1.trans e2.symm]
  ·cases h'
 ·cases h
def vOf (s : B) : VP := (vparts s).getD ([], [], [], [])
abbrev NP := B × B
def isNode (n : NP) : Bool := isPath n.1 && isVersion n.2
def nodC (a b : NP) : Int := orI (lexC a.1 b.1) (verC (vOf a.2) (vOf b.2))
theorem vOf_inj {s t : B} (hs : isVersion s = true) (ht : isVersion t = true) (h : vOf s = vOf t) : s = t := by
 rw [← vparts_some] at hs ht
 obtain ⟨v, hv⟩ := Option.isSome_iff_exists.1 hs
 obtain ⟨u, hu⟩ := Option.isSome_iff_exists.1 ht
 unfold vOf at h
 rw [hv, hu] at h
 simp only [Option.getD_some] at h
 subst h
 exact vparts_inj hv hu
theorem nodC_to : TO (fun n : NP => isVersion n.2 = true) nodC := by
 refine TO.or (fun a b => lexC_tri _ _) (fun a b _ _ => lexC_sym _ _) (fun a b d _ _ _ => lexC_to.le _ _ _ trivial trivial trivial) (fun a b => verC_to.tri _ _) (fun a b _ _ _ => verC_to.sym _ _ trivial trivial) (fun a b ha hb => ?_) (fun a b d _ _ _ _ _ => verC_to.tr _ _ _ trivial trivial trivial)
 rw [lexC_eq, verC_to.eq _ _ trivial trivial]
 exact ⟨fun h => Prod.ext h.1 (vOf_inj ha hb h.2), fun h => by subst h; exact ⟨rfl, rfl⟩⟩
end Gw
end
section
namespace Go.Proofs.YtodkjmbmlobihaaGreatDoor.Q
open Go.RowKit Go.Proofs.YtodkjmbmlobihaaGreatDoorW.PrintWords Go.Proofs.YtodkjmbmlobihaaGreatDoorW.PrintLast Go.Proofs.YtodkjmbmlobihaaGreatDoorW.PrintMore
attribute [local go_sem] max2_int min2_int max_two min_two max_three min_three max_four min_four   -- for this text's walks alone
set_option linter.unusedVariables false
set_option linter.unusedSimpArgs false
def errW : Option Int → Value
 | none => .nilIface
 | some c => .iface 0 (.int .i64 c)
theorem errW_none : errW none = .nilIface := rfl
theorem errW_some (c : Int) : errW (some c) = .iface 0 (.int .i64 c) := rfl
theorem info9 : (Tryz.prog.info? 9).map (fun i => (i.zero, i.size, i.bytes)) = some (some (.string ⟨#[]⟩), 1, 16) := by kernel_rfl
theorem info24 : (Tryz.prog.info? 24).map (fun i => (i.zero, i.size, i.bytes)) = some (some (.agg #[(.string ⟨#[]⟩), (.string ⟨#[]⟩)]), 2, 32) := by kernel_rfl
structure S24 where
 f0 : ByteArray
 f1 : ByteArray
def z24 : S24 := ⟨(⟨#[]⟩ : ByteArray), (⟨#[]⟩ : ByteArray)⟩
def k24 : Kd S24 := Kd.iso (Kd.pair Kd.string Kd.string) (fun x : S24 => (x.f0, x.f1))
theorem k24_open {w : World} {x : S24} {cs : List Value} (h : k24.K w x cs) : cs = [.string x.f0, .string x.f1] := by
 obtain ⟨_, _, rfl, rfl, rfl⟩ := h
 exact rfl
theorem k24_openM {w : World} {base : Nat} {ok : Nat → Prop} {x : S24} {cs : List Value} (h : k24.M w base ok x cs) : cs = [.string x.f0, .string x.f1] := by
 obtain ⟨_, _, rfl, rfl, rfl⟩ := h
 exact rfl
theorem k24_mk (w : World) (x : S24)  : k24.K w x [.string x.f0, .string x.f1] := ⟨[.string x.f0], [.string x.f1], rfl, rfl, rfl⟩
theorem k24_mkM (w : World) (base : Nat) (ok : Nat → Prop) (x : S24)  : k24.M w base ok x [.string x.f0, .string x.f1] := ⟨[.string x.f0], [.string x.f1], rfl, rfl, rfl⟩
def rd_T24 (xs : List S24) (i : Int) : S24 := xs.getD i.toNat z24
theorem at_T24 {w : World} {A : Option Addr} {n : Nat} {xs : List S24} (h : Kd.C k24 w A n xs) (i : Int) (h0 : 0 ≤ i) (h1 : i < n) : ∃ ad , A = some ad ∧ w.cell? (ad.add (i.toNat * 2)) = some (.string (rd_T24 xs i).f0) ∧ w.cell? ⟨(ad.add (i.toNat * 2)).block, (ad.add (i.toNat * 2)).off + 1, none⟩ = some (.string (rd_T24 xs i).f1) := by
 obtain ⟨ad, c, e, _, hK, hc0⟩ := Kd.C_get h z24 i h0 h1
 have hc : ∀ j u, c[j]? = some u → w.cell? (ad.add (i.toNat * 2 + j)) = some u := hc0
 obtain rfl := k24_open hK
 exact ⟨ad, e, hc 0 _ rfl, by rw [← add_field _ _ 1 (by omega)]; exact hc 1 _ rfl⟩
structure S49 where
 f0 : S24
 f1 : S24
def z49 : S49 := ⟨z24, z24⟩
def k49 : Kd S49 := Kd.iso (Kd.pair k24 k24) (fun x : S49 => (x.f0, x.f1))
theorem k49_open {w : World} {x : S49} {cs : List Value} (h : k49.K w x cs) : cs = [.string x.f0.f0, .string x.f0.f1, .string x.f1.f0, .string x.f1.f1] := by
 obtain ⟨_, _, rfl, s0, s2⟩ := h
 obtain rfl := k24_open s0
 obtain rfl := k24_open s2
 exact rfl
theorem k49_mk (w : World) (x : S49)  : k49.K w x [.string x.f0.f0, .string x.f0.f1, .string x.f1.f0, .string x.f1.f1] := ⟨[.string x.f0.f0, .string x.f0.f1], [.string x.f1.f0, .string x.f1.f1], rfl, (k24_mk w x.f0 ), (k24_mk w x.f1 )⟩
def rd_T49 (xs : List S49) (i : Int) : S49 := xs.getD i.toNat z49
theorem at_T49 {w : World} {A : Option Addr} {n : Nat} {xs : List S49} (h : Kd.C k49 w A n xs) (i : Int) (h0 : 0 ≤ i) (h1 : i < n) : ∃ ad , A = some ad ∧ w.cell? (ad.add (i.toNat * 4)) = some (.string (rd_T49 xs i).f0.f0) ∧ w.cell? ⟨(ad.add (i.toNat * 4)).block, (ad.add (i.toNat * 4)).off + 1, none⟩ = some (.string (rd_T49 xs i).f0.f1) ∧ w.cell? ⟨(ad.add (i.toNat * 4)).block, (ad.add (i.toNat * 4)).off + 2, none⟩ = some (.string (rd_T49 xs i).f1.f0) ∧ w.cell? ⟨(ad.add (i.toNat * 4)).block, (ad.add (i.toNat * 4)).off + 3, none⟩ = some (.string (rd_T49 xs i).f1.f1) := by
 obtain ⟨ad, c, e, _, hK, hc0⟩ := Kd.C_get h z49 i h0 h1
 have hc : ∀ j u, c[j]? = some u → w.cell? (ad.add (i.toNat * 4 + j)) = some u := hc0
 obtain rfl := k49_open hK
 exact ⟨ad, e, hc 0 _ rfl, by rw [← add_field _ _ 1 (by omega)]; exact hc 1 _ rfl, by rw [← add_field _ _ 2 (by omega)]; exact hc 2 _ rfl, by rw [← add_field _ _ 3 (by omega)]; exact hc 3 _ rfl⟩
structure S46 where
 f0 : S24
 f1 : Int
def z46 : S46 := ⟨z24, (0 : Int)⟩
def k46 : Kd S46 := Kd.iso (Kd.pair k24 (Kd.int .i64)) (fun x : S46 => (x.f0, x.f1))
theorem k46_open {w : World} {x : S46} {cs : List Value} (h : k46.K w x cs) : cs = [.string x.f0.f0, .string x.f0.f1, .int .i64 x.f1] := by
 obtain ⟨_, _, rfl, s0, rfl⟩ := h
 obtain rfl := k24_open s0
 exact rfl
theorem k46_openM {w : World} {base : Nat} {ok : Nat → Prop} {x : S46} {cs : List Value} (h : k46.M w base ok x cs) : cs = [.string x.f0.f0, .string x.f0.f1, .int .i64 x.f1] := by
 obtain ⟨_, _, rfl, s0, rfl⟩ := h
 obtain rfl := k24_openM s0
 exact rfl
theorem k46_mk (w : World) (x : S46)  : k46.K w x [.string x.f0.f0, .string x.f0.f1, .int .i64 x.f1] := ⟨[.string x.f0.f0, .string x.f0.f1], [.int .i64 x.f1], rfl, (k24_mk w x.f0 ), rfl⟩
theorem k46_mkM (w : World) (base : Nat) (ok : Nat → Prop) (x : S46)  : k46.M w base ok x [.string x.f0.f0, .string x.f0.f1, .int .i64 x.f1] := ⟨[.string x.f0.f0, .string x.f0.f1], [.int .i64 x.f1], rfl, (k24_mkM w base ok x.f0 ), rfl⟩
def graftwoodlaw01_Few.f (a0 : ByteArray) : Option (ByteArray) := if (a0.size : Int) > 400 then (if 0 ≤ 400 then (if 400 ≤ (a0.size : Int) then (some (a0.extract 0 400)) else (none)) else (none)) else (some a0)
def graftwoodlaw05_One.f (a0_0 : ByteArray) (a0_1 : ByteArray) : Option (ByteArray × ByteArray) := (graftwoodlaw01_Few.f a0_0).bind fun t103 => ((graftwoodlaw01_Few.f a0_1).bind fun t104 => (some (t103, t104)))
end Go.Proofs.YtodkjmbmlobihaaGreatDoor.Q
end
