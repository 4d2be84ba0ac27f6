/- Part 6 of this claim: several texts one behind the other: EvN, EvSame, NPut, RefB, Shelf, DParts, DCut, DRune, DAny, DElem, DVers. What each shows stands in its theorems; conditions: sizes of texts and lists, as the functions' definitions say. -/
import Derived.Test.YtohdmmafjpjmfaaGreatDoorMRoomBack2
import Derived.Test.YtohdmmafjpjmfaaGreatDoorMRoomBack3
import Derived.Test.YtohdmmafjpjmfaaGreatDoorMRoomBack4
import Derived.Shelf.Small.Utf8
import Derived.Shelf.Small.Bits
import Derived.Shelf.Small.Strs
import Derived.Shelf.Small.Wraps
import Derived.Shelf.Utf8.RuneCount
import Derived.Shelf.Strconv.Itoa0
import Derived.Shelf.Strings.Search1
import Derived.Shelf.Strings.Search2
import Derived.Shelf.Strings.Search3
import Derived.Shelf.Strings.Cut
import Derived.Shelf.Strings.Count
import Derived.Shelf.LaysM
import Derived.Shelf.Strings.Shaped
import Derived.Shelf.Strings.Prefix
import Derived.Shelf.Strings.Split
import Derived.Shelf.Strings.SplitShaped
import Derived.Shelf.Unicode.Decode
import Derived.Shelf.Strings.Runes
import Derived.Shelf.Strings.RuneCount
import Derived.Shelf.Strings.IndexAny
import Derived.Shelf.Strings.AsciiSet
import Derived.Shelf.Strings.IndexAnyAll
import Derived.Shelf.Strings.Explode
import Derived.Shelf.Unicode.DecodeSlow
import Derived.Shelf.Unicode.DecodeAny
import Derived.Test.YtohdmmafjpjmfaaGreatDoorProg
import Derived.Shelf.Strings.SplitCore
import Derived.Lib.SplitLaws
import Derived.Lib.CutLaws
import Derived.RegionTactic
import Derived.BigRegion
import Derived.ChangeAlike
import Derived.Laws.Runes
import Derived.Laws.RangeAny
import Derived.WalkMore
import Derived.Deep.QuietTactic
import Derived.BigQuiet
import Derived.ScopeJumps
import Derived.Lib.OthersKept
section
namespace Go.Proofs.YtohdmmafjpjmfaaGreatDoor.Q
open Go Go.RowKit Go.Proofs.YtohdmmafjpjmfaaGreatDoorW.PrintWords Go.Ev
set_option linter.unusedVariables false
abbrev PC : Orc := PCs Tryz.prog
theorem idx_map {α : Type} (enc : α → PV) (l : List α) (i : Nat) (h : i < l.length) : idx (l.map enc) (i : Int) = some (enc l[i]) := by
  unfold idx
  rw [if_pos (by omega), Int.toNat_natCast, List.getElem?_map, List.getElem?_eq_getElem h]; rfl
theorem idx_mapI {α : Type} (enc : α → PV) (l : List α) {i : Int} (j : Nat) (hi : i = j) (h : j < l.length) : idx (l.map enc) i = some (enc l[j]) := by subst hi; exact idx_map enc l j h
def evN (n : S34) : PV := .ag [.s (.string n.f0), .s (.string n.f1)]
def evE (e : S48) : PV := .ag [.s (.string e.f0.f0), .s (.string e.f0.f1), .s (.int .i64 e.f1)]
theorem flatN : Flat k34 (fun x => [.string x.f0, .string x.f1]) evN := ⟨fun w x => k34_mk w x, fun h => k34_open h, fun _ => rfl⟩
theorem flatE : Flat k48 (fun x => [.string x.f0.f0, .string x.f0.f1, .int .i64 x.f1]) evE := ⟨fun w x => k48_mk w x, fun h => k48_open h, fun _ => rfl⟩
theorem evN_eq {F : Nat → Nat → Prop} {w : World} {x : S34} {v : Value} (h : RepC F w (evN x) v) : v = .agg #[.string x.f0, .string x.f1] := ag_eq (l := [.string x.f0, .string x.f1]) h
theorem ltm {α : Type} {enc : α → PV} {l : List α} {i : Nat} (h : decide ((i : Int) < ((l.map enc).length : Int)) = true) : i < l.length := by simpa using h
theorem gem {α : Type} {enc : α → PV} {l : List α} {i : Nat} (h : decide ((i : Int) < ((l.map enc).length : Int)) = false) (hi : i ≤ l.length) : i = l.length := by
  have : ¬ (i : Int) < ((l.map enc).length : Int) := of_decide_eq_false h
  rw [List.length_map] at this; omega
theorem wrapI {i : Int} (h : -9223372036854775808 ≤ i ∧ i ≤ 9223372036854775807) : IntKind.wrap .i64 i = i := by rw [IntKind.wrap_i64]; omega
theorem incI {i n : Nat} (h : i < n) (hn : n ≤ 4294967296) : PV.s (.int .i64 (IntKind.wrap .i64 ((i : Int) + 1))) = .s (.int .i64 ((i + 1 : Nat) : Int)) := by
  rw [wrapI (by omega)]; rfl
theorem less1 {i n : Nat} (h : i < n) : n - (i + 1) < n - i := by omega
theorem take_succ_map {α β : Type} (f : α → β) (l : List α) (i : Nat) (h : i < l.length) : (l.take (i + 1)).map f = (l.take i).map f ++ [f l[i]] := by
  rw [List.take_succ_eq_append_getElem h, List.map_append] <;> rfl
def eqE (x y : S48) : Bool := x.f0.f0.toList == y.f0.f0.toList && (x.f0.f1.toList == y.f0.f1.toList && (x.f1 == y.f1 && true))
theorem bytesEv_eq {a b : ByteArray} (h : a.toList = b.toList) : a = b := by
  have h2 : a.data.toList = b.data.toList := by simpa [ByteArray.toList_eq] using h
  cases a; cases b
  simp only [ByteArray.mk.injEq]
  exact Array.toList_inj.1 h2
theorem eqE_iff {x y : S48} : eqE x y = true ↔ x = y := by
  unfold eqE
  simp only [Bool.and_true, Bool.and_eq_true, beq_iff_eq]
  constructor
  · rintro ⟨h1, h2, h3⟩
    obtain ⟨⟨a, b⟩, c⟩ := x
    obtain ⟨⟨a', b'⟩, c'⟩ := y
    simp only at h1 h2 h3
    rw [bytesEv_eq h1, bytesEv_eq h2, h3]
  · rintro rfl; exact ⟨rfl, rfl, rfl⟩
theorem kinds_str {s : ByteArray} {r xs : List Value} (h : kindsP (.string s :: r) (xs.map PV.s) = true) : ∃ a q, xs = .string a :: q ∧ kindsP r (q.map PV.s) = true := by
  match xs with
  | [] => simp [kindsP] at h
  | x :: q => cases x <;> first | (simp [kindsP] at h; done) | exact ⟨_, q, rfl, by simpa [kindsP] using h⟩
theorem kinds_int {k : IntKind} {n : Int} {r xs : List Value} (h : kindsP (.int k n :: r) (xs.map PV.s) = true) : ∃ a q, xs = .int k a :: q ∧ kindsP r (q.map PV.s) = true := by
  match xs with
  | [] => simp [kindsP] at h
  | x :: q =>
    cases x <;> first
      | (simp [kindsP] at h; done)
      | (rename_i k' m
         simp only [List.map_cons, kindsP, Bool.and_eq_true] at h
         obtain ⟨h1, h2⟩ := h
         split at h1
         · rename_i e _; subst e; exact ⟨_, q, rfl, h2⟩
         · cases h1)
theorem kinds_nil {xs : List Value} (h : kindsP [] (xs.map PV.s) = true) : xs = [] := by
  match xs with
  | [] => rfl
  | x :: q => simp [kindsP] at h
theorem guard_off {P : Program} {t : TypeId} (h : P.eqGuardType P.depth t = false) (x y : Operand) (xs ys : Array Value) (w : World) : (eqGuard .eql t x y (.agg xs) (.agg ys)).run P w = .ok () w ∧ (eqGuard .neq t x y (.agg xs) (.agg ys)).run P w = .ok () w := by
  constructor <;> simp [eqGuard, program, Sem.run, h]
theorem eqAE (d : Nat) (w : World) (x0 y0 x1 y1 : ByteArray) (n m : Int) :
    (Op.equalIn (d + 3) 48 (.agg #[.string x0, .string x1, .int .i64 n]) (.agg #[.string y0, .string y1, .int .i64 m])).run Tryz.prog w = .ok ((x0.toList == y0.toList && (x1.toList == y1.toList)) && (n == m)) w := by
  refine eqA_of Tryz.underlying48 (by kernel_rfl) ?_
  refine eqf_cons (by rfl) (by go_simp) (by go_simp) (eqA34 d w x0 y0 x1 y1) ?_
  exact eqf_last (by rfl) (by go_simp; rfl) (by go_simp; rfl) (by go_simp)
theorem eqtE : EqT Tryz.prog [.string ⟨#[]⟩, .string ⟨#[]⟩, .int .i64 0] 48 := by
  intro w xs ys b h1 h2 h3
  obtain ⟨a0, q, e, h1⟩ := kinds_str h1
  obtain ⟨a1, q', rfl, h1⟩ := kinds_str h1
  obtain ⟨a2, q'', rfl, h1⟩ := kinds_int h1
  obtain rfl := kinds_nil h1
  obtain ⟨c0, q, e', h2⟩ := kinds_str h2
  obtain ⟨c1, q', rfl, h2⟩ := kinds_str h2
  obtain ⟨c2, q'', rfl, h2⟩ := kinds_int h2
  obtain rfl := kinds_nil h2
  obtain rfl : xs = #[.string a0, .string a1, .int .i64 a2] := Array.toList_inj.1 e
  obtain rfl : ys = #[.string c0, .string c1, .int .i64 c2] := Array.toList_inj.1 e'
  refine ⟨?_, fun x y => guard_off (by kernel_rfl) x y _ _ w⟩
  have := eqAE 9997 w a0 c0 a1 c1 a2 c2
  simp only [cellsEq, List.map_cons, List.map_nil, Option.map_some, Option.some.injEq, Bool.and_true] at h3
  rw [← h3, ← Bool.and_assoc]
  exact this
end Go.Proofs.YtohdmmafjpjmfaaGreatDoor.Q
end
section
namespace Go.Proofs.YtohdmmafjpjmfaaGreatDoor.Q
open Go Go.RowKit Go.Proofs.YtohdmmafjpjmfaaGreatDoorW.PrintWords Go.Ev
set_option linter.unusedVariables false
set_option maxRecDepth 100000
def eqL : List S48 → List S48 → Bool
  | [], [] => true
  | x :: r, y :: q => eqE x y && eqL r q
  | _, _ => false
theorem eqL_iff : ∀ {l m : List S48}, eqL l m = true ↔ l = m
  | [], [] => by simp [eqL]
  | x :: r, y :: q => by
    simp only [eqL, Bool.and_eq_true, List.cons.injEq]
    rw [eqE_iff, eqL_iff]
  | [], _ :: _ => by simp [eqL]
  | _ :: _, [] => by simp [eqL]
theorem eqL_false {l m : List S48} (i : Nat) (hl : i < l.length) (hm : i < m.length) (h : eqE l[i] m[i] = false) : eqL l m = false := by
  rw [Bool.eq_false_iff]
  intro e
  obtain rfl := eqL_iff.1 e
  have := eqE_iff (x := l[i]).2 rfl
  rw [h] at this; cases this
theorem eqL_len {l m : List S48} (h : l.length ≠ m.length) : eqL l m = false := by
  rw [Bool.eq_false_iff]
  intro e
  exact h (by rw [eqL_iff.1 e])
theorem eqL_all {l m : List S48} (hlm : l.length = m.length) (h : ∀ i (h1 : i < l.length) (h2 : i < m.length), eqE l[i] m[i] = true) : eqL l m = true :=
  eqL_iff.2 (List.ext_getElem hlm (fun i h1 h2 => eqE_iff.1 (h i h1 h2)))
theorem equalE_pc (l m : List S48) (hl : l.length ≤ 4294967296) : PC 48 [.sl 0 3 (l.map evE), .sl 0 3 (m.map evE)] (.s (.bool (eqL l m))) := by
  refine pc_of tt_ok tt_follows Tryz.func48 rfl (by kernel_rfl) (by kernel_rfl) (Nat.le_of_ble_eq_true rfl) rfl ?_
  conv => whnf
  constructor
  · intro h
    have hne : l.length ≠ m.length := by have : ¬ (l.length : Int) = m.length := by simpa using h
                                         omega
    conv => whnf
    rw [eqL_len hne]; rfl
  · intro h
    have hlm : l.length = m.length := by have : (l.length : Int) = m.length := by simpa using h
                                         omega
    conv => whnf
    refine ⟨Nat, fun i => i ≤ l.length ∧ ∀ j (h1 : j < l.length) (h2 : j < m.length), j < i → eqE l[j] m[j] = true, fun i => [(39, .s (.int .i64 i))], [0, 3, 36], fun i => l.length - i, 0, ⟨Nat.zero_le _, fun j _ _ h => absurd h (Nat.not_lt_zero _)⟩, ?_, fun i hi => ?_⟩
    · exact ⟨⟨rfl, trivial, trivial⟩, ⟨rfl, trivial, rfl, trivial, rfl, trivial, trivial⟩⟩
    · obtain ⟨h1, h2⟩ := hi
      conv => whnf
      constructor
      · intro h
        have hil := ltm h
        have him : i < m.length := by omega
        conv => whnf
        refine ⟨_, idx_map evE l i hil, ?_⟩
        conv => whnf
        refine ⟨_, idx_map evE m i him, ?_⟩
        conv => whnf
        refine ⟨eqtE, ?_⟩
        conv => whnf
        refine ⟨by kernel_rfl, ?_⟩
        conv => whnf
        constructor
        · intro hq
          have hq' : eqE l[i] m[i] = false := by have : (!eqE l[i] m[i]) = true := hq; simpa using this
          conv => whnf
          rw [eqL_false i hil him hq']; rfl
        · intro hq
          have hq' : eqE l[i] m[i] = true := by have : (!eqE l[i] m[i]) = false := hq; simpa using this
          conv => whnf
          refine ⟨i + 1, ⟨by omega, fun j g1 g2 g3 => ?_⟩, less1 hil, ⟨⟨?_, trivial, trivial⟩, ⟨rfl, trivial, rfl, trivial, rfl, trivial, trivial⟩⟩⟩
          · by_cases hji : j < i
            · exact h2 j g1 g2 hji
            · obtain rfl : j = i := by omega
              exact hq'
          · exact incI hil hl
      · intro h
        have hil := gem h h1
        conv => whnf
        rw [eqL_all hlm (fun j g1 g2 => h2 j g1 g2 (by omega))]; rfl
end Go.Proofs.YtohdmmafjpjmfaaGreatDoor.Q
end
section
namespace Go.Proofs.YtohdmmafjpjmfaaGreatDoor.Q
open Go Go.RowKit Go.Lib Go.Proofs.YtohdmmafjpjmfaaGreatDoorW.PrintWords Go.Proofs.YtohdmmafjpjmfaaGreatDoorW.PrintLast Go.Proofs.YtohdmmafjpjmfaaGreatDoorW.PrintMore Gw
set_option linter.unusedVariables false
set_option linter.unusedSimpArgs false
theorem rowcells {W : World} {base g n cap : Nat} {ok : Nat → Prop} {xs : List S34} (h : Kd.R k34 34 W base ok (.slice (some ⟨g, 0, none⟩) n cap) xs) (i : Nat) (hi : i < xs.length) :
    W.cell? ⟨g, i * 2, none⟩ = some (.string xs[i].f0) ∧ W.cell? ⟨g, i * 2 + 1, none⟩ = some (.string xs[i].f1) := by
  obtain ⟨hn, hnc, hC⟩ := Kd.R_reads' h
  obtain ⟨ad, e, hx0, hx1⟩ := at_T34 hC (i : Int) (by omega) (by omega)
  have hrd : rd_T34 xs (i : Int) = xs[i] := by simp [rd_T34, List.getD_eq_getElem?_getD, List.getElem?_eq_getElem hi]
  injection e with e
  subst e
  have ea : (⟨g, 0, none⟩ : Addr).add (i * 2) = ⟨g, i * 2, none⟩ := by unfold Addr.add; split <;> simp_all
  rw [hrd, Int.toNat_natCast, ea] at hx0 hx1
  exact ⟨hx0, hx1⟩
end Go.Proofs.YtohdmmafjpjmfaaGreatDoor.Q
end
section
namespace Go.Proofs
open Go.Shelf
set_option maxRecDepth 100000
def Tryz.lays119_ren : Go.Shelf.Ren := ⟨fun | 119 => 151 | n => n, fun | 21 => 21 | 4 => 4 | n => n, fun | n => n⟩
theorem Tryz.lays119 : Go.Proofs.Lays.n119 Tryz.prog Tryz.lays119_ren := {
  mixed := by kernel_rfl
  f119 := Tryz.func151.trans (congrArg some (by kernel_rfl))
  t4 := Tryz.underlying4
  a4 := Tryz.isAgg4
  z4 := Tryz.sizeOf4
  v4 := Tryz.zeroValue4
  t21 := Tryz.underlying21
  a21 := Tryz.isAgg21
  z21 := Tryz.sizeOf21
  v21 := Tryz.zeroValue21 }
theorem Tryz.utf8_ValidRune (r : Int) (w : World) :
    Calls Tryz.prog 151 #[.int .i32 r] w fun e w' => e = .returned (.bool (Lib.validRune r)) ∧ w' = w := Any.utf8_ValidRune Tryz.lays119 r w
def Tryz.lays137_ren : Go.Shelf.Ren := ⟨fun | 137 => 150 | 217 => 132 | 266 => 148 | n => n, fun | 9 => 9 | 5 => 5 | 3 => 3 | n => n, fun | n => n⟩
theorem Tryz.lays137 : Go.Proofs.Lays.n137 Tryz.prog Tryz.lays137_ren := {
  mixed := by kernel_rfl
  f137 := Tryz.func150.trans (congrArg some (by kernel_rfl))
  f217 := Tryz.func132.trans (congrArg some (by kernel_rfl))
  f266 := Tryz.func148.trans (congrArg some (by kernel_rfl))
  t3 := Tryz.underlying3
  a3 := Tryz.isAgg3
  z3 := Tryz.sizeOf3
  v3 := Tryz.zeroValue3
  t5 := Tryz.underlying5
  a5 := Tryz.isAgg5
  z5 := Tryz.sizeOf5
  v5 := Tryz.zeroValue5
  t9 := Tryz.underlying9
  a9 := Tryz.isAgg9
  z9 := Tryz.sizeOf9
  v9 := Tryz.zeroValue9 }
open Go.RowKit in
theorem Tryz.strings_IndexByte (s : ByteArray) (c : Int) (w : World) :
    Calls Tryz.prog 150 #[.string s, .int .u8 c] w fun e w' => e = .returned (.int .i64 (Lib.indexByte s.data.toList c.toNat.toUInt8)) ∧ w' = w := Any.strings_IndexByte Tryz.lays137 s c w
def Tryz.lays219_ren : Go.Shelf.Ren := ⟨fun | 219 => 113 | 217 => 132 | 225 => 133 | 224 => 134 | 267 => 135 | 266 => 148 | 314 => 149 | n => n, fun | 9 => 9 | 3 => 3 | 4 => 4 | 5 => 5 | 46 => 127 | 146 => 163 | 51 => 141 | n => n, fun | 1 => 0 | n => n⟩
theorem Tryz.lays219 : Go.Proofs.Lays.n219 Tryz.prog Tryz.lays219_ren := {
  mixed := by kernel_rfl
  f217 := Tryz.func132.trans (congrArg some (by kernel_rfl))
  f219 := Tryz.func113.trans (congrArg some (by kernel_rfl))
  f224 := Tryz.func134.trans (congrArg some (by kernel_rfl))
  f225 := Tryz.func133.trans (congrArg some (by kernel_rfl))
  f266 := Tryz.func148.trans (congrArg some (by kernel_rfl))
  f267 := Tryz.func135.trans (congrArg some (by kernel_rfl))
  f314 := Tryz.func149.trans (congrArg some (by kernel_rfl))
  t3 := Tryz.underlying3
  a3 := Tryz.isAgg3
  z3 := Tryz.sizeOf3
  v3 := Tryz.zeroValue3
  t4 := Tryz.underlying4
  a4 := Tryz.isAgg4
  z4 := Tryz.sizeOf4
  v4 := Tryz.zeroValue4
  t5 := Tryz.underlying5
  a5 := Tryz.isAgg5
  z5 := Tryz.sizeOf5
  v5 := Tryz.zeroValue5
  t9 := Tryz.underlying9
  a9 := Tryz.isAgg9
  z9 := Tryz.sizeOf9
  v9 := Tryz.zeroValue9
  t46 := Tryz.underlying127
  a46 := Tryz.isAgg127
  z46 := Tryz.sizeOf127
  v46 := Tryz.zeroValue127
  t51 := Tryz.underlying141
  a51 := Tryz.isAgg141
  z51 := Tryz.sizeOf141
  v51 := Tryz.zeroValue141
  t146 := Tryz.underlying163
  a146 := Tryz.isAgg163
  z146 := Tryz.sizeOf163
  v146 := Tryz.zeroValue163
  g1 := by kernel_rfl }
open Go.RowKit Go.Lib in
theorem Tryz.stringslite_Index_one (s : ByteArray) (c : UInt8) (w : World) :
    Calls Tryz.prog 113 #[.string s, .string ⟨#[c]⟩] w fun e w' => e = .returned (.int .i64 (Lib.indexByte s.data.toList c)) ∧ w' = w := Any.stringslite_Index_one Tryz.lays219 s c w
def Tryz.lays143_ren : Go.Shelf.Ren := ⟨fun | 143 => 131 | 219 => 113 | 217 => 132 | 225 => 133 | 224 => 134 | 267 => 135 | 266 => 148 | 314 => 149 | n => n, fun | 9 => 9 | 3 => 3 | 4 => 4 | 5 => 5 | 46 => 127 | 146 => 163 | 51 => 141 | n => n, fun | 1 => 0 | n => n⟩
theorem Tryz.lays143 : Go.Proofs.Lays.n143 Tryz.prog Tryz.lays143_ren := {
  mixed := by kernel_rfl
  f143 := Tryz.func131.trans (congrArg some (by kernel_rfl))
  f217 := Tryz.func132.trans (congrArg some (by kernel_rfl))
  f219 := Tryz.func113.trans (congrArg some (by kernel_rfl))
  f224 := Tryz.func134.trans (congrArg some (by kernel_rfl))
  f225 := Tryz.func133.trans (congrArg some (by kernel_rfl))
  f266 := Tryz.func148.trans (congrArg some (by kernel_rfl))
  f267 := Tryz.func135.trans (congrArg some (by kernel_rfl))
  f314 := Tryz.func149.trans (congrArg some (by kernel_rfl))
  t3 := Tryz.underlying3
  a3 := Tryz.isAgg3
  z3 := Tryz.sizeOf3
  v3 := Tryz.zeroValue3
  t4 := Tryz.underlying4
  a4 := Tryz.isAgg4
  z4 := Tryz.sizeOf4
  v4 := Tryz.zeroValue4
  t5 := Tryz.underlying5
  a5 := Tryz.isAgg5
  z5 := Tryz.sizeOf5
  v5 := Tryz.zeroValue5
  t9 := Tryz.underlying9
  a9 := Tryz.isAgg9
  z9 := Tryz.sizeOf9
  v9 := Tryz.zeroValue9
  t46 := Tryz.underlying127
  a46 := Tryz.isAgg127
  z46 := Tryz.sizeOf127
  v46 := Tryz.zeroValue127
  t51 := Tryz.underlying141
  a51 := Tryz.isAgg141
  z51 := Tryz.sizeOf141
  v51 := Tryz.zeroValue141
  t146 := Tryz.underlying163
  a146 := Tryz.isAgg163
  z146 := Tryz.sizeOf163
  v146 := Tryz.zeroValue163
  g1 := by kernel_rfl }
open Go.RowKit Go.Lib in
theorem Tryz.strings_Index_one (s : ByteArray) (c : UInt8) (w : World) :
    Calls Tryz.prog 131 #[.string s, .string ⟨#[c]⟩] w fun e w' => e = .returned (.int .i64 (Lib.indexByte s.data.toList c)) ∧ w' = w := Any.strings_Index_one Tryz.lays143 s c w
def Tryz.lays138_ren : Go.Shelf.Ren := ⟨fun | 138 => 130 | 195 => 145 | 218 => 147 | 143 => 131 | 219 => 113 | 217 => 132 | 225 => 133 | 224 => 134 | 267 => 135 | 266 => 148 | 314 => 149 | n => n, fun | 9 => 9 | 3 => 3 | 4 => 4 | 5 => 5 | 0 => 0 | 46 => 127 | 146 => 163 | 51 => 141 | n => n, fun | 1 => 0 | n => n⟩
theorem Tryz.lays138 : Go.Proofs.Lays.n138 Tryz.prog Tryz.lays138_ren := {
  mixed := by kernel_rfl
  f138 := Tryz.func130.trans (congrArg some (by kernel_rfl))
  f143 := Tryz.func131.trans (congrArg some (by kernel_rfl))
  f195 := Tryz.func145.trans (congrArg some (by kernel_rfl))
  f217 := Tryz.func132.trans (congrArg some (by kernel_rfl))
  f218 := Tryz.func147.trans (congrArg some (by kernel_rfl))
  f219 := Tryz.func113.trans (congrArg some (by kernel_rfl))
  f224 := Tryz.func134.trans (congrArg some (by kernel_rfl))
  f225 := Tryz.func133.trans (congrArg some (by kernel_rfl))
  f266 := Tryz.func148.trans (congrArg some (by kernel_rfl))
  f267 := Tryz.func135.trans (congrArg some (by kernel_rfl))
  f314 := Tryz.func149.trans (congrArg some (by kernel_rfl))
  t0 := Tryz.underlying0
  a0 := Tryz.isAgg0
  z0 := Tryz.sizeOf0
  v0 := Tryz.zeroValue0
  t3 := Tryz.underlying3
  a3 := Tryz.isAgg3
  z3 := Tryz.sizeOf3
  v3 := Tryz.zeroValue3
  t4 := Tryz.underlying4
  a4 := Tryz.isAgg4
  z4 := Tryz.sizeOf4
  v4 := Tryz.zeroValue4
  t5 := Tryz.underlying5
  a5 := Tryz.isAgg5
  z5 := Tryz.sizeOf5
  v5 := Tryz.zeroValue5
  t9 := Tryz.underlying9
  a9 := Tryz.isAgg9
  z9 := Tryz.sizeOf9
  v9 := Tryz.zeroValue9
  t46 := Tryz.underlying127
  a46 := Tryz.isAgg127
  z46 := Tryz.sizeOf127
  v46 := Tryz.zeroValue127
  t51 := Tryz.underlying141
  a51 := Tryz.isAgg141
  z51 := Tryz.sizeOf141
  v51 := Tryz.zeroValue141
  t146 := Tryz.underlying163
  a146 := Tryz.isAgg163
  z146 := Tryz.sizeOf163
  v146 := Tryz.zeroValue163
  g1 := by kernel_rfl }
open Go.RowKit Go.Lib in
theorem Tryz.strings_Count_one (s : ByteArray) (c : UInt8) (w : World) :
    Calls Tryz.prog 130 #[.string s, .string ⟨#[c]⟩] w fun e w' => e = .returned (.int .i64 (Lib.countByte s.data.toList c)) ∧ w' = w := Any.strings_Count_one Tryz.lays138 s c w
def Tryz.lays99_ren : Go.Shelf.Ren := ⟨fun | 99 => 87 | 206 => 100 | n => n, fun | 9 => 9 | 4 => 4 | 3 => 3 | n => n, fun | n => n⟩
theorem Tryz.lays99 : Go.Proofs.Lays.n99 Tryz.prog Tryz.lays99_ren := {
  mixed := by kernel_rfl
  f99 := Tryz.func87.trans (congrArg some (by kernel_rfl))
  f206 := Tryz.func100.trans (congrArg some (by kernel_rfl))
  t3 := Tryz.underlying3
  a3 := Tryz.isAgg3
  z3 := Tryz.sizeOf3
  v3 := Tryz.zeroValue3
  t4 := Tryz.underlying4
  a4 := Tryz.isAgg4
  z4 := Tryz.sizeOf4
  v4 := Tryz.zeroValue4
  t9 := Tryz.underlying9
  a9 := Tryz.isAgg9
  z9 := Tryz.sizeOf9
  v9 := Tryz.zeroValue9 }
open Go.RowKit Go.Lib in
theorem Tryz.strings_HasPrefix (s p : ByteArray) (w : World) :
    Calls Tryz.prog 87 #[.string s, .string p] w fun e w' => e = .returned (.bool (Lib.hasPrefix s.data.toList p.data.toList)) ∧ w' = w := Any.strings_HasPrefix Tryz.lays99 s p w
def Tryz.lays221_ren : Go.Shelf.Ren := ⟨fun | 221 => 111 | 268 => 129 | 138 => 130 | 143 => 131 | 195 => 145 | 197 => 146 | 218 => 147 | 219 => 113 | 260 => 153 | 217 => 132 | 225 => 133 | 224 => 134 | 267 => 135 | 266 => 148 | 314 => 149 | n => n, fun | 9 => 9 | 3 => 3 | 31 => 78 | 4 => 4 | 0 => 0 | 105 => 161 | 21 => 21 | 5 => 5 | 46 => 127 | 119 => 170 | 139 => 173 | 138 => 172 | 146 => 163 | 51 => 141 | n => n, fun | 1 => 0 | 3 => 1 | 4 => 2 | n => n⟩
theorem Tryz.lays221 : Go.Proofs.Lays.n221 Tryz.prog Tryz.lays221_ren := {
  mixed := by kernel_rfl
  f138 := Tryz.func130.trans (congrArg some (by kernel_rfl))
  f143 := Tryz.func131.trans (congrArg some (by kernel_rfl))
  f195 := Tryz.func145.trans (congrArg some (by kernel_rfl))
  f197 := Tryz.func146.trans (congrArg some (by kernel_rfl))
  f217 := Tryz.func132.trans (congrArg some (by kernel_rfl))
  f218 := Tryz.func147.trans (congrArg some (by kernel_rfl))
  f219 := Tryz.func113.trans (congrArg some (by kernel_rfl))
  f221 := Tryz.func111.trans (congrArg some (by kernel_rfl))
  f224 := Tryz.func134.trans (congrArg some (by kernel_rfl))
  f225 := Tryz.func133.trans (congrArg some (by kernel_rfl))
  f260 := Tryz.func153.trans (congrArg some (by kernel_rfl))
  f266 := Tryz.func148.trans (congrArg some (by kernel_rfl))
  f267 := Tryz.func135.trans (congrArg some (by kernel_rfl))
  f268 := Tryz.func129.trans (congrArg some (by kernel_rfl))
  f314 := Tryz.func149.trans (congrArg some (by kernel_rfl))
  t0 := Tryz.underlying0
  a0 := Tryz.isAgg0
  z0 := Tryz.sizeOf0
  v0 := Tryz.zeroValue0
  t3 := Tryz.underlying3
  a3 := Tryz.isAgg3
  z3 := Tryz.sizeOf3
  v3 := Tryz.zeroValue3
  t4 := Tryz.underlying4
  a4 := Tryz.isAgg4
  z4 := Tryz.sizeOf4
  v4 := Tryz.zeroValue4
  t5 := Tryz.underlying5
  a5 := Tryz.isAgg5
  z5 := Tryz.sizeOf5
  v5 := Tryz.zeroValue5
  t9 := Tryz.underlying9
  a9 := Tryz.isAgg9
  z9 := Tryz.sizeOf9
  v9 := Tryz.zeroValue9
  t21 := Tryz.underlying21
  a21 := Tryz.isAgg21
  z21 := Tryz.sizeOf21
  v21 := Tryz.zeroValue21
  t31 := Tryz.underlying78
  a31 := Tryz.isAgg78
  z31 := Tryz.sizeOf78
  v31 := Tryz.zeroValue78
  t46 := Tryz.underlying127
  a46 := Tryz.isAgg127
  z46 := Tryz.sizeOf127
  v46 := Tryz.zeroValue127
  t51 := Tryz.underlying141
  a51 := Tryz.isAgg141
  z51 := Tryz.sizeOf141
  v51 := Tryz.zeroValue141
  t105 := Tryz.underlying161
  a105 := Tryz.isAgg161
  z105 := Tryz.sizeOf161
  v105 := Tryz.zeroValue161
  t119 := Tryz.underlying170
  a119 := Tryz.isAgg170
  z119 := Tryz.sizeOf170
  t138 := Tryz.underlying172
  a138 := Tryz.isAgg172
  z138 := Tryz.sizeOf172
  v138 := Tryz.zeroValue172
  t139 := Tryz.underlying173
  a139 := Tryz.isAgg173
  z139 := Tryz.sizeOf173
  v139 := Tryz.zeroValue173
  t146 := Tryz.underlying163
  a146 := Tryz.isAgg163
  z146 := Tryz.sizeOf163
  v146 := Tryz.zeroValue163
  g1 := by kernel_rfl
  g3 := by kernel_rfl
  g4 := by kernel_rfl }
def Tryz.lays152_ren : Go.Shelf.Ren := ⟨fun | 152 => 136 | 137 => 150 | 119 => 151 | 224 => 134 | 225 => 133 | 217 => 132 | 266 => 148 | n => n, fun | 9 => 9 | 21 => 21 | 3 => 3 | 4 => 4 | 5 => 5 | 0 => 0 | 46 => 127 | n => n, fun | n => n⟩
theorem Tryz.lays152 : Go.Proofs.Lays.n152 Tryz.prog Tryz.lays152_ren := {
  mixed := by kernel_rfl
  f119 := Tryz.func151.trans (congrArg some (by kernel_rfl))
  f137 := Tryz.func150.trans (congrArg some (by kernel_rfl))
  f152 := Tryz.func136.trans (congrArg some (by kernel_rfl))
  f217 := Tryz.func132.trans (congrArg some (by kernel_rfl))
  f224 := Tryz.func134.trans (congrArg some (by kernel_rfl))
  f225 := Tryz.func133.trans (congrArg some (by kernel_rfl))
  f266 := Tryz.func148.trans (congrArg some (by kernel_rfl))
  t0 := Tryz.underlying0
  a0 := Tryz.isAgg0
  z0 := Tryz.sizeOf0
  v0 := Tryz.zeroValue0
  t3 := Tryz.underlying3
  a3 := Tryz.isAgg3
  z3 := Tryz.sizeOf3
  v3 := Tryz.zeroValue3
  t4 := Tryz.underlying4
  a4 := Tryz.isAgg4
  z4 := Tryz.sizeOf4
  v4 := Tryz.zeroValue4
  t5 := Tryz.underlying5
  a5 := Tryz.isAgg5
  z5 := Tryz.sizeOf5
  v5 := Tryz.zeroValue5
  t9 := Tryz.underlying9
  a9 := Tryz.isAgg9
  z9 := Tryz.sizeOf9
  v9 := Tryz.zeroValue9
  t21 := Tryz.underlying21
  a21 := Tryz.isAgg21
  z21 := Tryz.sizeOf21
  v21 := Tryz.zeroValue21
  t46 := Tryz.underlying127
  a46 := Tryz.isAgg127
  z46 := Tryz.sizeOf127
  v46 := Tryz.zeroValue127 }
open Go.RowKit Go.Lib in
theorem Tryz.strings_IndexRune_ascii (s : ByteArray) (r : Int) (w : World) (h0 : 0 ≤ r) (h1 : r < 128) :
    Calls Tryz.prog 136 #[.string s, .int .i32 r] w fun e w' => e = .returned (.int .i64 (Lib.indexByte s.data.toList r.toNat.toUInt8)) ∧ w' = w := Any.strings_IndexRune_ascii Tryz.lays152 s r w h0 h1
def Tryz.lays226_ren : Go.Shelf.Ren := ⟨fun | 226 => 137 | n => n, fun | 3 => 3 | 4 => 4 | n => n, fun | n => n⟩
theorem Tryz.lays226 : Go.Proofs.Lays.n226 Tryz.prog Tryz.lays226_ren := {
  mixed := by kernel_rfl
  f226 := Tryz.func137.trans (congrArg some (by kernel_rfl))
  t3 := Tryz.underlying3
  a3 := Tryz.isAgg3
  z3 := Tryz.sizeOf3
  v3 := Tryz.zeroValue3
  t4 := Tryz.underlying4
  a4 := Tryz.isAgg4
  z4 := Tryz.sizeOf4
  v4 := Tryz.zeroValue4 }
open Go.RowKit Go.Lib in
theorem Tryz.strings_shouldUseASCIISet (n : Int) (w : World) :
    Calls Tryz.prog 137 #[.int .i64 n] w fun e w' => e = .returned (.bool (decide (8 < n))) ∧ w' = w := Any.strings_shouldUseASCIISet Tryz.lays226 n w
def Tryz.lays153_ren : Go.Shelf.Ren := ⟨fun | 153 => 115 | 152 => 136 | 226 => 137 | 227 => 138 | 228 => 139 | 137 => 150 | 119 => 151 | 224 => 134 | 225 => 133 | 217 => 132 | 266 => 148 | n => n, fun | 9 => 9 | 3 => 3 | 4 => 4 | 5 => 5 | 21 => 21 | 117 => 151 | 116 => 150 | 0 => 0 | 46 => 127 | 124 => 166 | n => n, fun | n => n⟩
theorem Tryz.lays153 : Go.Proofs.Lays.n153 Tryz.prog Tryz.lays153_ren := {
  mixed := by kernel_rfl
  f119 := Tryz.func151.trans (congrArg some (by kernel_rfl))
  f137 := Tryz.func150.trans (congrArg some (by kernel_rfl))
  f152 := Tryz.func136.trans (congrArg some (by kernel_rfl))
  f153 := Tryz.func115.trans (congrArg some (by kernel_rfl))
  f217 := Tryz.func132.trans (congrArg some (by kernel_rfl))
  f224 := Tryz.func134.trans (congrArg some (by kernel_rfl))
  f225 := Tryz.func133.trans (congrArg some (by kernel_rfl))
  f226 := Tryz.func137.trans (congrArg some (by kernel_rfl))
  f227 := Tryz.func138.trans (congrArg some (by kernel_rfl))
  f228 := Tryz.func139.trans (congrArg some (by kernel_rfl))
  f266 := Tryz.func148.trans (congrArg some (by kernel_rfl))
  t0 := Tryz.underlying0
  a0 := Tryz.isAgg0
  z0 := Tryz.sizeOf0
  v0 := Tryz.zeroValue0
  t3 := Tryz.underlying3
  a3 := Tryz.isAgg3
  z3 := Tryz.sizeOf3
  v3 := Tryz.zeroValue3
  t4 := Tryz.underlying4
  a4 := Tryz.isAgg4
  z4 := Tryz.sizeOf4
  v4 := Tryz.zeroValue4
  t5 := Tryz.underlying5
  a5 := Tryz.isAgg5
  z5 := Tryz.sizeOf5
  v5 := Tryz.zeroValue5
  t9 := Tryz.underlying9
  a9 := Tryz.isAgg9
  z9 := Tryz.sizeOf9
  v9 := Tryz.zeroValue9
  t21 := Tryz.underlying21
  a21 := Tryz.isAgg21
  z21 := Tryz.sizeOf21
  v21 := Tryz.zeroValue21
  t46 := Tryz.underlying127
  a46 := Tryz.isAgg127
  z46 := Tryz.sizeOf127
  v46 := Tryz.zeroValue127
  t116 := Tryz.underlying150
  a116 := Tryz.isAgg150
  z116 := Tryz.sizeOf150
  t117 := Tryz.underlying151
  a117 := Tryz.isAgg151
  z117 := Tryz.sizeOf151
  v117 := Tryz.zeroValue151
  t124 := Tryz.underlying166
  a124 := Tryz.isAgg166
  z124 := Tryz.sizeOf166
  v124 := Tryz.zeroValue166 }
open Go.RowKit Go.Lib in
theorem Tryz.strings_IndexAny_short (s chars : ByteArray) (w : World) (h2 : 2 ≤ chars.size) (h8 : s.size ≤ 8) (hascii : ∀ (j : Nat) b, s.data.toList[j]? = some b → b.toNat < 128) :
    Calls Tryz.prog 115 #[.string s, .string chars] w fun e w' => e = .returned (.int .i64 (Lib.indexAny s.data.toList chars.data.toList)) ∧ ∃ pos, w' = w.iter s pos := Any.strings_IndexAny_short Tryz.lays153 s chars w h2 h8 hascii
open Go.RowKit Go.Lib in
theorem Tryz.strings_IndexAny_long (hv116 : ∀ w, (zeroValue 150).run Tryz.prog w = .ok (.agg (Array.replicate 256 (.bool false))) w) (s chars : ByteArray) (w : World) (h2 : 2 ≤ chars.size) (h8 : 8 < s.size) (hs : s.size < 4294967281) (hcs : chars.size < 4294967281) (hascii : ∀ (j : Nat) b, chars.data.toList[j]? = some b → b.toNat < 128) :
    Calls Tryz.prog 115 #[.string s, .string chars] w fun e w' => e = .returned (.int .i64 (Lib.indexAny s.data.toList chars.data.toList)) ∧ w' = ((w.alloc (.cells (Lib.setCells chars.data.toList) 150)).alloc (.cells (Lib.setCells chars.data.toList) 150)) := Any.strings_IndexAny_long Tryz.lays153 hv116 (by kernel_rfl) s chars w h2 h8 hs hcs hascii
end Go.Proofs
end
section
namespace Go.Proofs.YtohdmmafjpjmfaaGreatDoor.QB.D
open Go.Proofs.YtohdmmafjpjmfaaGreatDoor.Q
open Go.RowKit Go.Lib Go.Proofs.YtohdmmafjpjmfaaGreatDoorW.PrintWords Go.Proofs.YtohdmmafjpjmfaaGreatDoorW.PrintLast Go.Proofs.YtohdmmafjpjmfaaGreatDoorW.PrintMore Gw
set_option linter.unusedVariables false
set_option linter.unusedSimpArgs false
abbrev Tiny (s : ByteArray) : Prop := s.size < 4294967281
theorem Tiny.small {s : ByteArray} (h : Tiny s) : Small s := by unfold Tiny at h; unfold Small; omega
theorem parts_no {sep : Nat} : ∀ {l : List Nat}, (∀ c ∈ l, c ≠ sep) → parts sep l = [l]
  | [], _ => rfl
  | c :: r, h => by rw [parts_other (h c List.mem_cons_self) (parts_no fun x hx => h x (List.mem_cons_of_mem _ hx))]
theorem parts_split {sep : Nat} (r : List Nat) : ∀ {l : List Nat}, (∀ c ∈ l, c ≠ sep) → parts sep (l ++ sep :: r) = l :: parts sep r
  | [], _ => by simp [parts_sep]
  | c :: l, h => by
    rw [List.cons_append, parts_other (h c List.mem_cons_self) (parts_split r fun x hx => h x (List.mem_cons_of_mem _ hx))]
def one (c : UInt8) : ByteArray := ⟨#[c]⟩
theorem idx_miss {s : ByteArray} {c : UInt8} (h : indexB s (one c) = -1) : ∀ x ∈ bs s, x ≠ c.toNat := by
  intro x hx
  rw [indexB, show (one c).data.toList = [c] from rfl, index_one] at h
  obtain ⟨u, hu, rfl⟩ := List.mem_map.1 hx
  intro e
  obtain rfl : u = c := UInt8.toNat_inj.1 e
  obtain ⟨k, hk⟩ := List.mem_iff_getElem?.1 hu
  exact indexByte_none h k hk
theorem idx_hit {s : ByteArray} {c : UInt8} {i : Nat} (h : indexB s (one c) = i) : i < s.size ∧ bs s = (bs s).take i ++ c.toNat :: (bs s).drop (i + 1) ∧ ∀ x ∈ (bs s).take i, x ≠ c.toNat := by
  rw [indexB, show (one c).data.toList = [c] from rfl, index_one] at h
  obtain ⟨h1, h2⟩ := indexByte_some h
  have hi : i < s.size := by
    have := (List.getElem?_eq_some_iff.1 h1).1
    rwa [Array.length_toList] at this
  have hg : (bs s)[i]? = some c.toNat := by simp [bs, h1]
  have hlt : i < (bs s).length := by rw [bs_length]; exact hi
  have hge : (bs s)[i] = c.toNat := by rw [List.getElem?_eq_getElem hlt] at hg; exact Option.some.inj hg
  refine ⟨hi, ?_, ?_⟩
  · have := List.take_append_drop i (bs s)
    rw [List.drop_eq_getElem_cons hlt, hge] at this
    exact this.symm
  · intro x hx e
    obtain ⟨k, hk⟩ := List.mem_iff_getElem?.1 hx
    rw [List.getElem?_take] at hk
    by_cases hki : k < i
    · rw [if_pos hki] at hk
      simp only [bs, List.getElem?_map, Option.map_eq_some_iff] at hk
      obtain ⟨u, hu, rfl⟩ := hk
      obtain rfl : u = c := UInt8.toNat_inj.1 e
      exact h2 k hki hu
    · rw [if_neg hki] at hk; cases hk
theorem split_parts (c : UInt8) : ∀ (k : Nat) (s : ByteArray), countB s (one c) = k → splitB (one c) 0 k s = (parts c.toNat (bs s)).map ofB
  | 0, s, h => by
    have hm : indexB s (one c) = -1 := by
      rcases indexB_cases s (one c) with hm | ⟨i, hi, hr⟩
      · exact hm
      · rw [countB_hit s (one c) i (by show 1 ≤ 1; omega) hi] at h; omega
    rw [parts_no (idx_miss hm)]
    simp [splitB_zero, ofB_bs]
  | k + 1, s, h => by
    rcases indexB_cases s (one c) with hm | ⟨i, hi, hr⟩
    · rw [countB_miss s (one c) hm] at h; omega
    · rw [countB_hit s (one c) i (by show 1 ≤ 1; omega) hi] at h
      obtain ⟨h1, h2, h3⟩ := idx_hit hi
      rw [splitB_hit (one c) 0 k s i hi, split_parts c k _ (by omega), h2, parts_split _ h3, List.map_cons]
      congr 1
      · rw [ext_ofB]; rfl
      · rw [bs_extract, List.take_of_length_le (by rw [bs_length]; exact Nat.le_refl _)]; rfl
theorem string_row (w W : World) (l : List ByteArray) (t : TypeId) (n : Nat) (hn : n = l.length) (hl : l.length ≤ 4294967290) (hW : W = w.alloc (.cells (l.map Value.string).toArray t)) :
    Kd.R Kd.string t W w.heap.size (fun _ => True) (.slice (some ⟨w.heap.size, 0, none⟩) n n) l := by
  subst hn hW
  have hr : Reps (Kd.string.M (w.alloc (.cells (l.map Value.string).toArray t)) w.heap.size (fun _ => True)) 1 l (l.map Value.string) := by
    have := Kd.reps_scalar (enc := Value.string) l
    exact this
  refine ⟨fun k hk => trivial, l.map Value.string, ⟨by simp [Kd.string, Kd.scalar], .inr ⟨w.heap.size, l.length, (l.map Value.string).toArray, rfl, Nat.le_refl _, heap_alloc_last w _, Nat.le_refl _, by unfold maxLen; omega, by simp [Kd.string, Kd.scalar], by rw [show l.length * Kd.string.sz = l.length from by simp [Kd.string, Kd.scalar]]; exact List.take_of_length_le (by simp)⟩⟩, ?_⟩
  exact hr.imp_ fun x c hM => Kd.string.M_mono (fun k hk => hk) hM
theorem genSplit_one (c : UInt8) (s : ByteArray) (hs : Tiny s) (w : World) : Calls Tryz.prog 111 #[.string s, .string (one c), .int .i64 0, .int .i64 (-1)] w fun e w' => e = .returned (.slice (some ⟨w.heap.size, 0, none⟩) (((parts c.toNat (bs s)).map ofB).length) (((parts c.toNat (bs s)).map ofB).length)) ∧ w' = w.alloc (.cells ((((parts c.toNat (bs s)).map ofB).map Value.string).toArray) 9) := by
  have h1 : 1 ≤ (one c).size := by show 1 ≤ 1; omega
  have hle := countB_le (one c) h1 s.size s (Nat.le_refl _)
  have hlen := splitB_all (one c) h1 0 _ s rfl
  have hsp := split_parts c _ s rfl
  have hI : ∀ (x : ByteArray) (d : Array Value), x.size ≤ s.size → Calls Tryz.prog (Tryz.lays221_ren.f 143) #[.string x, .string (one c)] (w.alloc (.cells d (Tryz.lays221_ren.t 9))) fun e w' => e = .returned (.int .i64 (indexB x (one c))) ∧ w' = w.alloc (.cells d (Tryz.lays221_ren.t 9)) := fun x d _ => by
    refine (Tryz.strings_Index_one x c _).mono fun e w' ⟨h, h2⟩ => ⟨?_, h2⟩
    rw [h, indexB, show (one c).data.toList = [c] from rfl, index_one]
  have hC : Calls Tryz.prog (Tryz.lays221_ren.f 138) #[.string s, .string (one c)] w fun e w' => e = .returned (.int .i64 (countB s (one c))) ∧ w' = w := by
    refine (Tryz.strings_Count_one s c w).mono fun e w' ⟨h, h2⟩ => ⟨?_, h2⟩
    rw [h, countB, show (one c).data.toList = [c] from rfl, count_one]; rfl
  have hN : (((countB s (one c) + 1 : Nat)) : Int) = min (if (-1 : Int) < 0 then (countB s (one c) : Int) + 1 else -1) ((s.size : Int) + 1) := by
    rw [if_pos (by decide)]; omega
  refine (Any.strings_genSplit_core Tryz.lays221 (by kernel_rfl) s (one c) 0 (-1) (countB s (one c) + 1) w hs h1 (Nat.zero_le _) hI hC (by decide) (by decide) hN).mono fun e w' ⟨he, hw⟩ => ?_
  rw [Nat.add_sub_cancel] at he hw
  rw [hlen] at he
  rw [hsp] at hw hlen
  rw [hlen]
  refine ⟨he, ?_⟩
  rw [hw]
  have : cellsOf ((parts c.toNat (bs s)).map ofB) (countB s (one c) + 1) = (((parts c.toNat (bs s)).map ofB).map Value.string).toArray := by
    unfold cellsOf
    rw [hlen, Nat.sub_self]; simp
  rw [this]; rfl
def octet_Parts.f (a0 : ByteArray) (a1 : Int) : Option (List ByteArray) := if Tiny a0 ∧ 0 ≤ a1 ∧ a1 < 256 then some ((parts a1.toNat (bs a0)).map ofB) else none
theorem parts_len (s : ByteArray) (sep : Nat) : ((parts sep (bs s)).map ofB).length ≤ s.size + 1 := by
  have h := (parts_le (sep := sep) (bs s)).2
  rw [bs_length] at h; rw [List.length_map]; exact h
set_option maxHeartbeats 1000000 in
theorem Split_one (c : UInt8) (s : ByteArray) (hs : Tiny s) (w : World) : Calls Tryz.prog 98 #[.string s, .string (one c)] w fun e w' => ∃ v, e = .returned v ∧ Kd.R Kd.string 9 w' w.heap.size (fun _ => True) v ((parts c.toNat (bs s)).map ofB) ∧ Below w.heap.size w w' := by
  have hl := parts_len s c.toNat
  have hg := genSplit_one c s hs
  generalize (parts c.toNat (bs s)).map ofB = L at hl hg
  go_enter Tryz.func98, Tryz.ntmps98
  go_wp2_with (go_at_call 111; refine (hg _).mono ?_; rintro e w' ⟨rfl, rfl⟩)
  go_ret
  exact ⟨_, rfl, string_row _ _ _ _ _ rfl (by unfold Tiny at hs; omega) rfl, below_alloc (Below.refl _ _) _⟩
set_option maxHeartbeats 1000000 in
set_option maxRecDepth 100000 in
theorem octet_Parts.calls (a0 : ByteArray) (a1 : Int) (r : List ByteArray) (w : World) (h : octet_Parts.f a0 a1 = some r) : Calls Tryz.prog 85 #[.string a0, .int .u8 a1] w fun e w' => ∃ v, e = .returned v ∧ Kd.R Kd.string 9 w' w.heap.size (fun _ => True) v r ∧ Below w.heap.size w w' := by
  unfold octet_Parts.f at h
  by_cases ha : Tiny a0 ∧ 0 ≤ a1 ∧ a1 < 256
  case neg => rw [if_neg ha] at h; cases h
  rw [if_pos ha] at h
  obtain rfl := Option.some.inj h
  obtain ⟨hs, h0, h1⟩ := ha
  obtain ⟨n, rfl⟩ := Int.eq_ofNat_of_zero_le h0
  obtain ⟨c, hc⟩ : ∃ c : UInt8, c.toNat = n := ⟨UInt8.ofNat n, by simp; omega⟩
  subst hc
  clear h h0 h1
  have Hs := Aside0.mk hs
  clear hs
  have hst : strOfNums [(c.toNat : Int)] = one c := by simp [strOfNums, one]
  have hcv : (convert 118 9 (.slice (some ⟨w.heap.size, 0, none⟩) 1 1)).run Tryz.prog (w.alloc (.cells #[.int .u8 (c.toNat : Int)] 5)) = .ok (.string (one c)) (w.alloc (.cells #[.int .u8 (c.toNat : Int)] 5)) := by
    rw [← hst]
    refine string_of_reads (e := 5) (by kernel_rfl) (by kernel_rfl) (by kernel_rfl) ⟨rfl, by decide, fun _ => ⟨⟨w.heap.size, 0, none⟩, rfl, fun j hj => ?_⟩⟩
    obtain rfl : j = 0 := by omega
    rw [add_plain]
    exact blk_cell (heap_alloc_last w _) 0
  clear hst
  have Hcv := hcv
  go_enter Tryz.func85, Tryz.ntmps85
  go_wp2_with (go_at_call 98; refine (Split_one c a0 Hs.out _).mono ?_; rintro e w' ⟨v, rfl, hR, hb⟩)
  go_ret
  exact ⟨_, rfl, Kd.R_lower hR (by simp), (below_alloc (Below.refl _ _) _).trans (hb.mono (by simp))⟩
def cutAt (c : Nat) : List Nat → List Nat × Option (List Nat)
  | [] => ([], none)
  | x :: r => if x = c then ([], some r) else ((x :: (cutAt c r).1), (cutAt c r).2)
theorem cutAt_dash : ∀ l, cutAt 45 l = cutDash l
  | [] => rfl
  | x :: r => by rw [cutAt, cutDash, cutAt_dash r]
theorem cutAt_no {c : Nat} : ∀ {l : List Nat}, (∀ x ∈ l, x ≠ c) → cutAt c l = (l, none)
  | [], _ => rfl
  | x :: r, h => by rw [cutAt, if_neg (h x List.mem_cons_self), cutAt_no fun y hy => h y (List.mem_cons_of_mem _ hy)]
theorem cutAt_hit {c : Nat} (r : List Nat) : ∀ {l : List Nat}, (∀ x ∈ l, x ≠ c) → cutAt c (l ++ c :: r) = (l, some r)
  | [], _ => by simp [cutAt]
  | x :: l, h => by rw [List.cons_append, cutAt, if_neg (h x List.mem_cons_self), cutAt_hit r fun y hy => h y (List.mem_cons_of_mem _ hy)]
def cutOut (p : List Nat × Option (List Nat)) : ByteArray × ByteArray × Bool := match p with
  | (a, some b) => (ofB a, ofB b, true)
  | (a, none) => (ofB a, ⟨#[]⟩, false)
set_option maxHeartbeats 1000000 in
theorem lite_Cut (c : UInt8) (s : ByteArray) (hs : Tiny s) (w : World) : Calls Tryz.prog 101 #[.string s, .string (one c)] w fun e w' => e = .returned (.tuple #[.string (cutOut (cutAt c.toNat (bs s))).1, .string (cutOut (cutAt c.toNat (bs s))).2.1, .bool (cutOut (cutAt c.toNat (bs s))).2.2]) ∧ ∃ n, w' = w.drewN n := by
  have hI : ∀ w, Calls Tryz.prog 113 #[.string s, .string (one c)] w fun e w' => e = .returned (.int .i64 (indexB s (one c))) ∧ w' = w := fun w => by
    refine (Tryz.stringslite_Index_one s c _).mono fun e w' ⟨h, h2⟩ => ⟨?_, h2⟩
    rw [h, indexB, show (one c).data.toList = [c] from rfl, index_one]
  rcases indexB_cases s (one c) with hm | ⟨i, hi, hr⟩
  · rw [cutAt_no (idx_miss hm)]
    rw [hm] at hI
    simp only [cutOut, ofB_bs]
    go_enter Tryz.func101, Tryz.ntmps101
    go_wp2_with (go_at_call 113; refine (hI _).mono ?_; rintro e w' ⟨rfl, rfl⟩)
    go_ret3
    exact ⟨rfl, 0, rfl⟩
  · obtain ⟨h1, h2, h3⟩ := idx_hit hi
    rw [hi] at hI
    have e1 : s.extract 0 i = ofB ((bs s).take i) := by rw [ext_ofB]; rfl
    have e2 : s.extract (i + 1) s.size = ofB ((bs s).drop (i + 1)) := by rw [ext_ofB, List.take_of_length_le (by rw [bs_length]; exact Nat.le_refl _)]
    have hcut : cutAt c.toNat (bs s) = ((bs s).take i, some ((bs s).drop (i + 1))) := by
      conv => lhs; rw [h2]
      exact cutAt_hit _ h3
    rw [hcut]
    simp only [cutOut]
    rw [← e1, ← e2]
    have hz : (one c).size = 1 := rfl
    have c1 : (0 : Int) ≤ ↑i := by omega
    have c2 : (↑i : Int) ≤ ↑s.size := by omega
    have c3 : (0 : Int) ≤ ↑i + ↑(one c).size := by omega
    have c4 : (↑i + ↑(one c).size : Int) ≤ ↑s.size := by omega
    have ez : (i + (one c).size) = i + 1 := by rw [hz]
    have mixed : Tryz.prog.follows Departure.mixedOrders = true := by kernel_rfl
    have hwr : IntKind.i64.wrap ((i : Int) + ((one c).size : Int)) = (i : Int) + ((one c).size : Int) := wrap_small _ (by omega) (by unfold Tiny at hs; omega)
    have Hs := Aside0.mk hs
    have Ez := Aside0.mk ez
    have b4 : (s.size : Int) < 4294967281 := by unfold Tiny at hs; omega
    clear h2 h3 hcut e1 e2 hi hs hr hz ez h1
    go_enter Tryz.func101, Tryz.ntmps101
    go_wp2_with (go_at_call 113; refine (hI _).mono ?_; rintro e w' ⟨rfl, rfl⟩)
    go_region_o
    go_wp2
    go_ret3
    exact ⟨rfl, 1, rfl⟩
set_option maxHeartbeats 1000000 in
theorem Cut_one (c : UInt8) (s : ByteArray) (hs : Tiny s) (w : World) : Calls Tryz.prog 88 #[.string s, .string (one c)] w fun e w' => e = .returned (.tuple #[.string (cutOut (cutAt c.toNat (bs s))).1, .string (cutOut (cutAt c.toNat (bs s))).2.1, .bool (cutOut (cutAt c.toNat (bs s))).2.2]) ∧ Drawn0 w w' := by
  have hg := lite_Cut c s hs
  generalize cutOut (cutAt c.toNat (bs s)) = r at hg
  obtain ⟨r1, r2, r3⟩ := r
  go_enter Tryz.func88, Tryz.ntmps88
  go_wp2_with (go_at_call 101; refine (hg _).mono ?_; rintro e w' ⟨rfl, n, rfl⟩)
  go_ret3
  exact ⟨rfl, ⟨_, rfl⟩⟩
abbrev dot3 : ByteArray := ⟨#[46, 95, 126]⟩
set_option maxHeartbeats 4000000 in
set_option maxRecDepth 1000000 in
theorem rune_bad (w : World) : Calls Tryz.prog 136 #[.string dot3, .int .i32 65533] w fun e w' => e = .returned (.int .i64 (-1)) ∧ Below w.heap.size w w' := by
  go_enter Tryz.func136, Tryz.ntmps136
  go_wp2
  go_loopw [5, 6] (fun _ _ wr => ∃ i : Nat, i ≤ 3 ∧ wr = w.iter dot3 i) (fun _ _ wr => 3 - wr.iterPos w.heap.size)
  case atStart => exact ⟨0, by omega, rfl⟩
  case round =>
    obtain ⟨i, hi, rfl⟩ := hrel
    by_cases h3 : i < 3
    · have hlt : i < dot3.size := h3
      have ha : ∀ j (h : j < dot3.size), (dot3[j]'h).toNat < 128 := by decide
      have hnx := fun ty => run_next_ascii (P := Tryz.prog) w dot3 i ty hlt (ha i hlt)
      have hne : (((dot3[i]'hlt).toNat : Int) == 65533) = false := beq_eq_false_iff_ne.2 (by have := ha i hlt; omega)
      generalize ((dot3[i]'hlt).toNat : Int) = x at hnx hne
      go_wp2
      go_round
      case rel => exact ⟨i + 1, by omega, rfl⟩
      case measure => simp; omega
    · obtain rfl : i = 3 := by omega
      have hnx := fun ty => run_next_end (P := Tryz.prog) w dot3 3 ty (by decide)
      go_wp2
      go_ret
      exact ⟨rfl, below_alloc (Below.refl _ _) _⟩
theorem dot3_no (c : UInt8) (hc : 128 ≤ c.toNat) (i : Nat) : Lib.indexByte ((dot3.extract i 3).data.toList) c = -1 := by
  have h : ∀ l : List UInt8, (∀ x ∈ l, x.toNat < 128) → Lib.indexByte l c = -1 := by
    intro l
    induction l with
    | nil => intro _; rfl
    | cons x r ih =>
      intro hx
      have hne : (x == c) = false := by
        rw [beq_eq_false_iff_ne]; intro e; subst e
        have := hx x List.mem_cons_self; omega
      unfold Lib.indexByte
      rw [hne, ih fun y hy => hx y (List.mem_cons_of_mem _ hy)]
      rfl
  refine h _ fun x hx => ?_
  rw [ByteArray.data_extract, Array.toList_extract] at hx
  have hm := List.mem_of_mem_drop (List.mem_of_mem_take hx)
  have h3 : ∀ y ∈ dot3.data.toList, y.toNat < 128 := by decide
  exact h3 x hm
set_option maxHeartbeats 4000000 in
set_option maxRecDepth 1000000 in
theorem rune_wild (r : Int) (h0 : 128 ≤ r) (h1 : (r == 65533) = false) (hv : Lib.validRune r = false) (w : World) : Calls Tryz.prog 136 #[.string dot3, .int .i32 r] w fun e w' => e = .returned (.int .i64 (-1)) ∧ Below w.heap.size w w' := by
  have c1 : decide (r < 128) = false := decide_eq_false (by omega)
  have c0 : decide (0 ≤ r) = true := decide_eq_true (by omega)
  go_enter Tryz.func136, Tryz.ntmps136
  go_wp2_with (go_at_call 151; refine (Tryz.utf8_ValidRune r _).mono ?_; rintro e w' ⟨rfl, rfl⟩; rw [hv])
  go_ret
  exact ⟨rfl, Below.refl _ _⟩
set_option maxHeartbeats 4000000 in
set_option maxRecDepth 1000000 in
theorem rune_high2 (r : Int) (h0 : 128 ≤ r) (h1 : (r == 65533) = false) (hv : Lib.validRune r = true) (E : ByteArray) (hE : E = Utf8.encode r) (hz : E.size = 2) (c : UInt8) (hc : ∀ h : 1 < E.size, E[1]'h = c) (hc1 : 128 ≤ c.toNat) (w : World) : Calls Tryz.prog 136 #[.string dot3, .int .i32 r] w fun e w' => e = .returned (.int .i64 (-1)) ∧ Below w.heap.size w w' := by
  have c1 : decide (r < 128) = false := decide_eq_false (by omega)
  have c0 : decide (0 ≤ r) = true := decide_eq_true (by omega)
  have hcv : ∀ w, (convert 21 9 (.int .i32 r)).run Tryz.prog w = .ok (.string E) w := fun w => by rw [hE]; exact run_convert_int_string w 21 9 .i32 r (by kernel_rfl) (by kernel_rfl)
  have hcc : ((c.toNat : Int)).toNat.toUInt8 = c := by simp
  have hds : dot3.size = 3 := rfl
  have hw2 : IntKind.i64.wrap 2 = 2 := rfl
  have hw3 : IntKind.i64.wrap 3 = 3 := rfl
  have hne : (((dot3[1]'(by decide)).toNat : Int) != (c.toNat : Int)) = true := by
    have : (dot3[1]'(by decide)).toNat < 128 := by decide
    rw [bne_iff_ne]; omega
  have hib : ∀ w, Calls Tryz.prog 150 #[.string (dot3.extract 2 3), .int .u8 (c.toNat : Int)] w fun e w' => e = .returned (.int .i64 (-1)) ∧ w' = w := fun w => by
    have h := Tryz.strings_IndexByte (dot3.extract 2 3) (c.toNat : Int) w
    rw [hcc, dot3_no c hc1 2] at h
    exact h
  have mixed : Tryz.prog.follows Departure.mixedOrders = true := by kernel_rfl
  clear hE
  go_enter Tryz.func136, Tryz.ntmps136
  go_wp2_with (go_at_call 151; refine (Tryz.utf8_ValidRune r _).mono ?_; rintro e w' ⟨rfl, hw⟩; rw [hw, hv])
  go_step3
  go_wp2
  go_loopw [9] (fun v9 wr => v9 = .int .i64 1 ∧ wr = w) (fun _ _ => 0)
  case atStart => exact ⟨rfl, rfl⟩
  case round =>
    obtain ⟨rfl, rfl⟩ := hrel
    go_wp2_with fail
    go_step3
    go_wp2_with fail
    go_region_o
    go_wp2_with fail
    go_quiet (first | (go_at_call 150; exact (hib _).mono fun e w'' h => ⟨h.1, _, h.2⟩))
    go_wp2
    rw [Exit.noGoto_ret]
    (try simp only [Exit.inBlock, Exit.then])
    refine (Exit.noGoto_ret (Q := _) ..).mpr ?_
    simp only [Exit.inBlock, Exit.then]
    rw [Exit.noGoto_ret]
    (try simp only [Exit.inBlock])
    go_ret
    exact ⟨rfl, by repeat (with_reducible first | exact Below.refl _ _ | refine pw_below_drewN ?_ _ | refine below_drew ?_)⟩
set_option maxHeartbeats 4000000 in
set_option maxRecDepth 1000000 in
theorem rune_high3 (r : Int) (h0 : 128 ≤ r) (h1 : (r == 65533) = false) (hv : Lib.validRune r = true) (E : ByteArray) (hE : E = Utf8.encode r) (hz : E.size = 3) (c : UInt8) (hc : ∀ h : 2 < E.size, E[2]'h = c) (hc1 : 128 ≤ c.toNat) (w : World) : Calls Tryz.prog 136 #[.string dot3, .int .i32 r] w fun e w' => e = .returned (.int .i64 (-1)) ∧ Below w.heap.size w w' := by
  have c1 : decide (r < 128) = false := decide_eq_false (by omega)
  have c0 : decide (0 ≤ r) = true := decide_eq_true (by omega)
  have hcv : ∀ w, (convert 21 9 (.int .i32 r)).run Tryz.prog w = .ok (.string E) w := fun w => by rw [hE]; exact run_convert_int_string w 21 9 .i32 r (by kernel_rfl) (by kernel_rfl)
  have hcc : ((c.toNat : Int)).toNat.toUInt8 = c := by simp
  have hds : dot3.size = 3 := rfl
  have hw2 : IntKind.i64.wrap 2 = 2 := rfl
  have hw3 : IntKind.i64.wrap 3 = 3 := rfl
  have hne : (((dot3[2]'(by decide)).toNat : Int) != (c.toNat : Int)) = true := by
    have : (dot3[2]'(by decide)).toNat < 128 := by decide
    rw [bne_iff_ne]; omega
  have hib : ∀ w, Calls Tryz.prog 150 #[.string (dot3.extract 3 3), .int .u8 (c.toNat : Int)] w fun e w' => e = .returned (.int .i64 (-1)) ∧ w' = w := fun w => by
    have h := Tryz.strings_IndexByte (dot3.extract 3 3) (c.toNat : Int) w
    rw [hcc, dot3_no c hc1 3] at h
    exact h
  have mixed : Tryz.prog.follows Departure.mixedOrders = true := by kernel_rfl
  clear hE
  go_enter Tryz.func136, Tryz.ntmps136
  go_wp2_with (go_at_call 151; refine (Tryz.utf8_ValidRune r _).mono ?_; rintro e w' ⟨rfl, hw⟩; rw [hw, hv])
  go_step3
  go_wp2
  go_loopw [9] (fun v9 wr => v9 = .int .i64 2 ∧ wr = w) (fun _ _ => 0)
  case atStart => exact ⟨rfl, rfl⟩
  case round =>
    obtain ⟨rfl, rfl⟩ := hrel
    go_wp2_with fail
    go_step3
    go_wp2_with fail
    go_region_o
    go_wp2_with fail
    go_quiet (first | (go_at_call 150; exact (hib _).mono fun e w'' h => ⟨h.1, _, h.2⟩))
    go_wp2
    rw [Exit.noGoto_ret]
    (try simp only [Exit.inBlock, Exit.then])
    refine (Exit.noGoto_ret (Q := _) ..).mpr ?_
    simp only [Exit.inBlock, Exit.then]
    rw [Exit.noGoto_ret]
    (try simp only [Exit.inBlock])
    go_ret
    exact ⟨rfl, by repeat (with_reducible first | exact Below.refl _ _ | refine pw_below_drewN ?_ _ | refine below_drew ?_)⟩
set_option maxHeartbeats 4000000 in
set_option maxRecDepth 1000000 in
theorem rune_high4 (r : Int) (h0 : 128 ≤ r) (h1 : (r == 65533) = false) (hv : Lib.validRune r = true) (E : ByteArray) (hE : E = Utf8.encode r) (hz : E.size = 4) (c : UInt8) (hc : ∀ h : 3 < E.size, E[3]'h = c) (hc1 : 128 ≤ c.toNat) (w : World) : Calls Tryz.prog 136 #[.string dot3, .int .i32 r] w fun e w' => e = .returned (.int .i64 (-1)) ∧ Below w.heap.size w w' := by
  have c1 : decide (r < 128) = false := decide_eq_false (by omega)
  have c0 : decide (0 ≤ r) = true := decide_eq_true (by omega)
  have hcv : ∀ w, (convert 21 9 (.int .i32 r)).run Tryz.prog w = .ok (.string E) w := fun w => by rw [hE]; exact run_convert_int_string w 21 9 .i32 r (by kernel_rfl) (by kernel_rfl)
  have hcc : ((c.toNat : Int)).toNat.toUInt8 = c := by simp
  have hds : dot3.size = 3 := rfl
  have hw2 : IntKind.i64.wrap 2 = 2 := rfl
  have hw3 : IntKind.i64.wrap 3 = 3 := rfl
  have mixed : Tryz.prog.follows Departure.mixedOrders = true := by kernel_rfl
  clear hE
  go_enter Tryz.func136, Tryz.ntmps136
  go_wp2_with (go_at_call 151; refine (Tryz.utf8_ValidRune r _).mono ?_; rintro e w' ⟨rfl, hw⟩; rw [hw, hv])
  go_step3
  go_wp2
  go_loopw [9] (fun v9 wr => v9 = .int .i64 3 ∧ wr = w) (fun _ _ => 0)
  case atStart => exact ⟨rfl, rfl⟩
  case round =>
    obtain ⟨rfl, rfl⟩ := hrel
    go_wp2_with fail
    rw [Exit.noGoto_ret]
    go_ret
    exact ⟨rfl, Below.refl _ _⟩
theorem rune_any (r : Int) (h0 : 128 ≤ r) (w : World) : Calls Tryz.prog 136 #[.string dot3, .int .i32 r] w fun e w' => e = .returned (.int .i64 (-1)) ∧ Below w.heap.size w w' := by
  by_cases hb : r = 65533
  · subst hb; exact rune_bad w
  have h1 : (r == 65533) = false := beq_eq_false_iff_ne.2 hb
  cases hv : Lib.validRune r
  · exact rune_wild r h0 h1 hv w
  · obtain ⟨f1, f2, f3⟩ := encode_facts r (by rw [validRune_eq]; exact hv) h0
    obtain ⟨E, hE⟩ : ∃ E, E = Utf8.encode r := ⟨_, rfl⟩
    rw [← hE] at f1 f2 f3
    have hlt : E.size - 1 < E.size := by omega
    have hc := f3 hlt
    rcases (by omega : E.size = 2 ∨ E.size = 3 ∨ E.size = 4) with hz | hz | hz
    · exact rune_high2 r h0 h1 hv E hE hz (E[E.size - 1]'hlt) (fun h => by congr 1; omega) hc w
    · exact rune_high3 r h0 h1 hv E hE hz (E[E.size - 1]'hlt) (fun h => by congr 1; omega) hc w
    · exact rune_high4 r h0 h1 hv E hE hz (E[E.size - 1]'hlt) (fun h => by congr 1; omega) hc w
theorem rune_all (r : Int) (h0 : 0 ≤ r) (w : World) : Calls Tryz.prog 136 #[.string dot3, .int .i32 r] w fun e w' => ∃ n : Int, e = .returned (.int .i64 n) ∧ Below w.heap.size w w' := by
  by_cases h : r < 128
  · exact (Tryz.strings_IndexRune_ascii dot3 r w h0 h).mono fun e w' h => ⟨_, h.1, by rw [h.2]; exact Below.refl _ _⟩
  · exact (rune_any r (by omega) w).mono fun e w' h => ⟨_, h⟩
theorem decode_pos (s : ByteArray) (pos : Nat) (h : pos < s.size) : 1 ≤ (Utf8.decode s pos).2 := by
  by_cases ha : (s[pos]'h).toNat < 128
  · rw [decode_ascii s pos h ha]; exact Nat.le_refl _
  · exact (decode_high s pos h (by omega)).2
set_option maxHeartbeats 4000000 in
set_option maxRecDepth 1000000 in
theorem any_short (s : ByteArray) (h8 : s.size ≤ 8) (w : World) : Calls Tryz.prog 115 #[.string s, .string dot3] w fun e w' => ∃ n : Int, e = .returned (.int .i64 n) ∧ Below w.heap.size w w' := by
  have h8z : decide ((8 : Int) < (s.size : Int)) = false := decide_eq_false (by omega)
  go_enter Tryz.func115, Tryz.ntmps115
  go_wp2_with (go_at_call 137; refine (Tryz.strings_shouldUseASCIISet _ _).mono ?_; rintro e w' ⟨rfl, hw⟩; rw [hw, h8z])
  go_loopw [9, 10] (fun _ _ wr => ∃ i : Nat, wr.heap[w.heap.size]? = some (.stringIter s i) ∧ Aside0 (Below w.heap.size w wr)) (fun _ _ wr => s.size - wr.iterPos w.heap.size)
  case atStart => exact ⟨0, World.iter_heap _ _ _, ⟨below_alloc (Below.refl _ _) _⟩⟩
  case round =>
    obtain ⟨i, hit, HB⟩ := hrel
    by_cases hlt : i < s.size
    · have hnx := fun ty => run_next_any_at (P := Tryz.prog) wr w.heap.size s i ty hit hlt
      have hd0 : (0 : Int) ≤ ((Utf8.decode s i).1 : Int) := by omega
      have hd1 := decode_pos s i hlt
      generalize ((Utf8.decode s i).1 : Int) = x at hnx hd0
      generalize (Utf8.decode s i).2 = d at hnx hd1
      have hit2 := iterAt_heap wr w.heap.size s i (i + d) hit
      have hb2 := below_iterAt HB.out (Nat.le_refl _) s (i + d) (k := w.heap.size)
      generalize wr.iterAt w.heap.size s (i + d) = w2 at hnx hit2 hb2
      have hpos : wr.iterPos w.heap.size = i := by simp [World.iterPos, hit]
      have Hpos := Aside0.mk hpos
      have HB2 := Aside0.mk hb2
      have Hit2 := Aside0.mk hit2
      clear hit HB hb2 hit2 hpos
      have hsz : w.heap.size < w2.heap.size := (Array.getElem?_eq_some_iff.1 Hit2.out).1
      go_wp2_with (go_at_call 136; refine (rune_all x hd0 _).mono ?_; rintro e w3 ⟨n, rfl, hb3⟩; have HB3 : Aside0 (Below w.heap.size w w3) := ⟨HB2.out.trans (hb3.mono (by omega))⟩; have Hit3 : Aside0 (w3.heap[w.heap.size]? = some (.stringIter s (i + d))) := ⟨(hb3.block _ hsz).trans Hit2.out⟩; clear hb3)
      · go_ret
        exact ⟨_, rfl, HB3.out⟩
      · have hpos3 : w3.iterPos w.heap.size = i + d := by simp [World.iterPos, Hit3.out]
        go_roundw
        case rel => exact ⟨i + d, Hit3.out, HB3⟩
        case measure => rw [Hpos.out, hpos3]; omega
    · have hnx := fun ty => run_next_end_at (P := Tryz.prog) wr w.heap.size s i ty hit hlt
      go_wp2
      go_ret
      exact ⟨_, rfl, HB.out⟩
def isDot (c : Nat) : Bool := c == 46 || c == 95 || c == 126
theorem index_any : ∀ l : List UInt8, decide (0 ≤ Lib.indexAny l dot3.data.toList) = (l.map UInt8.toNat).any isDot
  | [] => rfl
  | b :: l => by
    have ih := index_any l
    have hg := Lib.indexAny_ge dot3.data.toList l
    have hb : dot3.data.toList.contains b = isDot b.toNat := by
      have h : ∀ n < 256, ([46, 95, 126] : List UInt8).contains (UInt8.ofNat n) = isDot n := by decide +kernel
      have := h b.toNat b.toNat_lt
      rwa [UInt8.ofNat_toNat] at this
    unfold Lib.indexAny
    rw [hb, List.map_cons, List.any_cons]
    cases isDot b.toNat
    · rw [Bool.false_or, ← ih]
      simp only [Bool.false_eq_true, if_false]
      by_cases h1 : Lib.indexAny l dot3.data.toList = -1
      · rw [h1]; rfl
      · rw [if_neg (by simpa using h1)]
        have : (0 ≤ Lib.indexAny l dot3.data.toList + 1) ↔ (0 ≤ Lib.indexAny l dot3.data.toList) := by omega
        exact decide_eq_decide.2 this
    · simp
theorem index_dots (s : ByteArray) (hs : Tiny s) (w : World) : Calls Tryz.prog 115 #[.string s, .string dot3] w fun e w' => ∃ n : Int, e = .returned (.int .i64 n) ∧ ((∀ c ∈ bs s, c < 128) → decide (0 ≤ n) = (bs s).any isDot) ∧ Below w.heap.size w w' := by
  have hac : ∀ (j : Nat) b, dot3.data.toList[j]? = some b → b.toNat < 128 := fun j b h => by
    have h3 : ∀ y ∈ dot3.data.toList, y.toNat < 128 := by decide
    exact h3 b (List.mem_of_getElem? h)
  by_cases h8 : s.size ≤ 8
  · by_cases ha : ∀ c ∈ bs s, c < 128
    · have ha' : ∀ (j : Nat) b, s.data.toList[j]? = some b → b.toNat < 128 := fun j b h => ha _ (List.mem_map.2 ⟨b, List.mem_of_getElem? h, rfl⟩)
      exact (Tryz.strings_IndexAny_short s dot3 w (by decide) h8 ha').mono fun e w' ⟨h1, p, h2⟩ => ⟨_, h1, fun _ => index_any _, by rw [h2]; exact below_alloc (Below.refl _ _) _⟩
    · exact (any_short s h8 w).mono fun e w' ⟨n, h1, h2⟩ => ⟨n, h1, fun h => absurd h ha, h2⟩
  · exact (Tryz.strings_IndexAny_long (zero_of_info (n := 256) (by kernel_rfl)).1 s dot3 w (by decide) (by omega) hs (by decide) hac).mono fun e w' ⟨h1, h2⟩ => ⟨_, h1, fun _ => index_any _, by rw [h2]; exact below_alloc (below_alloc (Below.refl _ _) _) _⟩
set_option maxHeartbeats 1000000 in
theorem contains_dots (s : ByteArray) (hs : Tiny s) (w : World) : Calls Tryz.prog 103 #[.string s, .string dot3] w fun e w' => ∃ b : Bool, e = .returned (.bool b) ∧ ((∀ c ∈ bs s, c < 128) → b = (bs s).any isDot) ∧ Below w.heap.size w w' := by
  have hi := index_dots s hs
  go_enter Tryz.func103, Tryz.ntmps103
  go_wp2_with (go_at_call 115; refine (hi _).mono ?_; rintro e w1 ⟨n, rfl, hn, hb⟩)
  go_ret
  exact ⟨_, rfl, hn, hb⟩
def elc (c : Nat) : Bool := inner c || c == 46
theorem elem_eq (s : List Nat) : isElem s = (!s.isEmpty && s.head? != some 46 && s.getLast? != some 46 && s.all elc) := by
  cases s with
  | nil => rfl
  | cons c r =>
    simp only [isElem, List.isEmpty_cons, Bool.not_false, Bool.true_and, List.head?_cons]
    congr 1
theorem in_elc : ∀ c < 256, decide ((cls c : Int) ∈ ([1, 2, 3] : List Int)) = elc c := by decide +kernel
theorem elc_low : ∀ c < 256, 128 ≤ c → elc c = false := by decide +kernel
theorem row_ints (w : World) (l : List Int) (t : TypeId) (hl : l.length ≤ 1000) : Kd.C (Kd.int .i64) (w.alloc (.cells (l.map (Value.int .i64)).toArray t)) (some ⟨w.heap.size, 0, none⟩) l.length l := by
  refine Kd.C_of_reads (d := (0 : Int)) ⟨rfl, by omega, fun _ => ⟨_, rfl, fun j hj => ?_⟩⟩
  rw [add_plain, blk_cell (heap_alloc_last w _)]
  simp [List.getD_eq_getElem?_getD, List.getElem?_eq_getElem hj]
theorem below_alloc' {B : Nat} {a w : World} (h : Below B a w) (o : Obj) (hB : B ≤ w.heap.size := by omega) : Below B a (w.alloc o) := h.trans (((Below.refl _ _).alloc (Nat.le_refl _) o).mono hB)
set_option maxHeartbeats 4000000 in
set_option maxRecDepth 1000000 in
theorem element_calls (s : ByteArray) (hs : Tiny s) (w : World) : Calls Tryz.prog 86 #[.string s] w fun e w' => e = .returned (.bool (isElem (bs s))) ∧ Below w.heap.size w w' := by
  have Hs := Aside0.mk hs
  clear hs
  go_enter Tryz.func86, Tryz.ntmps86
  go_wp2
  go_loopw [3, 4, 5] (fun v3 _ _ wr => ∃ i : Nat, i ≤ s.size ∧ v3 = .int .i32 ((((bs s).take i).getLastD 46 : Nat) : Int) ∧ wr.heap[w.heap.size]? = some (.stringIter s i) ∧ Aside0 (Below w.heap.size w wr) ∧ Aside0 (((bs s).take i).all elc = true ∧ ((bs s).take i).head? ≠ some 46)) (fun _ _ _ wr => s.size - wr.iterPos w.heap.size)
  case atStart => exact ⟨0, Nat.zero_le _, rfl, World.iter_heap _ _ _, ⟨below_alloc (Below.refl _ _) _⟩, ⟨rfl, by simp⟩⟩
  case round =>
    obtain ⟨i, hi, rfl, hit, HB, HA⟩ := hrel
    have hpos : wr.iterPos w.heap.size = i := by simp [World.iterPos, hit]
    by_cases hlt : i < s.size
    · have hdr : (bs s).drop i = (bs s)[i]'(by rw [bs_length]; exact hlt) :: (bs s).drop (i + 1) := List.drop_eq_getElem_cons _
      have hbt := (bt_drop hdr).2.1
      have hc := (bt_drop hdr).2.2.2
      have htk : (bs s).take (i + 1) = (bs s).take i ++ [(bs s)[i]'(by rw [bs_length]; exact hlt)] := List.take_succ_eq_append_getElem _
      have hmem : (bs s)[i]'(by rw [bs_length]; exact hlt) ∈ bs s := List.getElem_mem _
      obtain ⟨c, hcc⟩ : ∃ c, c = (bs s)[i]'(by rw [bs_length]; exact hlt) := ⟨_, rfl⟩
      rw [← hcc] at hbt hc htk hmem
      have hx9 : ((s[i]'hlt).toNat : Int) = (c : Int) := by rw [← hbt]; exact bt_at s i hlt
      have hx8 : (s[i]'hlt).toNat = c := by omega
      clear hx9
      have Htk := Aside0.mk htk
      have Hmem := Aside0.mk hmem
      have Hpos := Aside0.mk hpos
      have hn9 := fun ty => run_next_any_at (P := Tryz.prog) wr w.heap.size s i ty hit hlt
      by_cases h128 : c < 128
      · have hde := decode_ascii s i hlt (by rw [hx8]; exact h128)
        rw [hx8] at hde
        rw [hde] at hn9
        have hit2 := iterAt_heap wr w.heap.size s i (i + 1) hit
        have hb2 := below_iterAt HB.out (Nat.le_refl _) s (i + 1) (k := w.heap.size)
        simp only [] at hn9
        generalize wr.iterAt w.heap.size s (i + 1) = w2 at hn9 hit2 hb2
        have HB2 := Aside0.mk hb2
        have Hit2 := Aside0.mk hit2
        have hg : decide ((127 : Int) < (c : Int)) = false := decide_eq_false (by omega)
        have hcv : IntKind.u8.wrap (c : Int) = (c : Int) := by
          have h : ∀ n < 256, IntKind.u8.wrap ((n : Nat) : Int) = (n : Int) := by decide +kernel
          exact h c hc
        have hin := fun w => In_calls c hc (some ⟨(w : World).heap.size, 0, none⟩) 3 [1, 2, 3] (w.alloc (.cells #[.int .i64 1, .int .i64 2, .int .i64 3] 3)) (row_ints w [1, 2, 3] 3 (by decide))
        have hie := in_elc c hc
        rw [hie] at hin
        generalize hel : elc c = el at hin
        have Hel := Aside0.mk hel
        have hsz : w.heap.size < w2.heap.size := (Array.getElem?_eq_some_iff.1 Hit2.out).1
        clear hit HB hb2 hit2 hpos hbt hcc htk hmem hdr hde hx8 hie hel
        cases el
        · have hno : isElem (bs s) = false := by
            rw [elem_eq]
            have : (bs s).all elc = false := by rw [List.all_eq_false]; exact ⟨c, Hmem.out, by rw [Hel.out]; decide⟩
            rw [this, Bool.and_false]
          have Hno := Aside0.mk hno
          clear hno
          go_wp2_with (go_at_call 99; refine (hin _).mono ?_; rintro e w3 ⟨rfl, hb3⟩; have HB3 : Aside0 (Below w.heap.size w w3) := ⟨(below_alloc' HB2.out _).trans (hb3.mono (by simp; omega))⟩; clear hb3)
          go_ret
          exact ⟨by rw [Hno.out]; rfl, HB3.out⟩
        · by_cases h0 : i = 0 ∧ c = 46
          · obtain ⟨rfl, rfl⟩ := h0
            have hno : isElem (bs s) = false := by
              have h1 : (bs s).head? = some 46 := by
                have := Htk.out
                cases hb : bs s with
                | nil => rw [hb] at this; simp at this
                | cons x r => rw [hb] at this; simp at this; rw [this]; rfl
              rw [elem_eq, h1]; simp
            have Hno := Aside0.mk hno
            clear hno
            go_wp2_with (go_at_call 99; refine (hin _).mono ?_; rintro e w3 ⟨rfl, hb3⟩; have HB3 : Aside0 (Below w.heap.size w w3) := ⟨(below_alloc' HB2.out _).trans (hb3.mono (by simp; omega))⟩; clear hb3)
            go_ret
            exact ⟨by rw [Hno.out]; rfl, HB3.out⟩
          · have hl1 : ((bs s).take (i + 1)).getLastD 46 = c := by rw [Htk.out]; simp
            have hA1 : ((bs s).take (i + 1)).all elc = true := by rw [Htk.out, List.all_append, HA.out.1]; simp [Hel.out]
            have hA2 : ((bs s).take (i + 1)).head? ≠ some 46 := by
              rw [Htk.out]
              cases hb : (bs s).take i with
              | nil =>
                have hi0 : i = 0 := by
                  have := congrArg List.length hb
                  rw [List.length_take, bs_length, List.length_nil] at this; omega
                have : c ≠ 46 := fun e => h0 ⟨hi0, e⟩
                simpa using this
              | cons x r =>
                have := HA.out.2
                rw [hb] at this
                simpa using this
            have Hl1 := Aside0.mk hl1
            have HA1 := Aside0.mk hA1
            have HA2 := Aside0.mk hA2
            have H0 := Aside0.mk h0
            clear hl1 hA1 hA2 h0
            by_cases hi0 : i = 0
            · subst hi0
              have hc46 : ((c : Int) == 46) = false := beq_eq_false_iff_ne.2 (fun e => H0.out ⟨rfl, by omega⟩)
              go_wp2_with (go_at_call 99; refine (hin _).mono ?_; rintro e w3 ⟨rfl, hb3⟩; have HB3 : Aside0 (Below w.heap.size w w3) := ⟨(below_alloc' HB2.out _).trans (hb3.mono (by simp; omega))⟩; have Hit3 : Aside0 (w3.heap[w.heap.size]? = some (.stringIter s (0 + 1))) := ⟨(hb3.block _ (by simp; omega)).trans (((below_alloc (Below.refl _ _) _).block _ hsz).trans Hit2.out)⟩; clear hb3)
              have hpos3 : w3.iterPos w.heap.size = 0 + 1 := by simp [World.iterPos, Hit3.out]
              go_roundw
              case rel => exact ⟨0 + 1, by omega, by rw [Hl1.out], Hit3.out, HB3, ⟨HA1.out, HA2.out⟩⟩
              case measure => rw [Hpos.out, hpos3]; omega
            · have hi1 : ((i : Int) == 0) = false := beq_eq_false_iff_ne.2 (by omega)
              go_wp2_with (go_at_call 99; refine (hin _).mono ?_; rintro e w3 ⟨rfl, hb3⟩; have HB3 : Aside0 (Below w.heap.size w w3) := ⟨(below_alloc' HB2.out _).trans (hb3.mono (by simp; omega))⟩; have Hit3 : Aside0 (w3.heap[w.heap.size]? = some (.stringIter s (i + 1))) := ⟨(hb3.block _ (by simp; omega)).trans (((below_alloc (Below.refl _ _) _).block _ hsz).trans Hit2.out)⟩; clear hb3)
              have hpos3 : w3.iterPos w.heap.size = i + 1 := by simp [World.iterPos, Hit3.out]
              go_roundw
              case rel => exact ⟨i + 1, by omega, by rw [Hl1.out], Hit3.out, HB3, ⟨HA1.out, HA2.out⟩⟩
              case measure => rw [Hpos.out, hpos3]; omega
      · have hde := (decode_high s i hlt (by rw [hx8]; omega)).1
        have hb2 := below_iterAt HB.out (Nat.le_refl _) s (i + (Utf8.decode s i).2) (k := w.heap.size)
        generalize (Utf8.decode s i).2 = d at hn9 hb2
        generalize wr.iterAt w.heap.size s (i + d) = w2 at hn9 hb2
        have hg : decide ((127 : Int) < ((Utf8.decode s i).1 : Int)) = true := decide_eq_true (by omega)
        generalize ((Utf8.decode s i).1 : Int) = x at hn9 hg
        have HB2 := Aside0.mk hb2
        have hno : isElem (bs s) = false := by
          rw [elem_eq]
          have : (bs s).all elc = false := by rw [List.all_eq_false]; exact ⟨c, Hmem.out, by rw [elc_low c hc (by omega)]; decide⟩
          rw [this, Bool.and_false]
        have Hno := Aside0.mk hno
        clear hno hit HB hb2 hpos hbt hcc htk hmem hdr hde hx8
        go_wp2
        go_ret
        exact ⟨by rw [Hno.out]; rfl, HB2.out⟩
    · obtain rfl : i = s.size := by omega
      have hn9 := fun ty => run_next_end_at (P := Tryz.prog) wr w.heap.size s s.size ty hit hlt
      rw [List.take_of_length_le (by rw [bs_length]; exact Nat.le_refl _)] at HA ⊢
      have hfin : isElem (bs s) = (((((bs s).getLastD 46 : Nat) : Int)) != 46) := by
        rw [elem_eq, HA.out.1, Bool.and_true]
        cases hb : bs s with
        | nil => rfl
        | cons x r =>
          have h2 := HA.out.2
          rw [hb] at h2
          have h3 : ((x :: r).head? != some 46) = true := by simpa using h2
          rw [h3]
          have h4 : (x :: r).getLastD 46 = (x :: r).getLast (by simp) := by simp [List.getLastD]
          rw [h4, List.getLast?_eq_some_getLast (by simp)]
          simp only [List.isEmpty_cons, Bool.not_false, Bool.true_and]
          rw [Bool.eq_iff_iff, bne_iff_ne, bne_iff_ne]
          constructor
          · intro h e; exact h (by congr 1; omega)
          · intro h e; injection e with e; exact h (by omega)
      have Hfin := Aside0.mk hfin
      clear hfin hpos hit
      go_wp2
      go_ret
      exact ⟨by rw [Hfin.out, List.getLastD_eq_getLast?]; rfl, HB.out⟩
def path_element.f (a0 : ByteArray) : Option Bool := if Tiny a0 then some (isElem (bs a0)) else none
theorem path_element.calls (a0 : ByteArray) (r : Bool) (w : World) (h : path_element.f a0 = some r) : Calls Tryz.prog 86 #[.string a0] w fun e w' => e = .returned (.bool r) ∧ Below w.heap.size w w' := by
  unfold path_element.f at h
  by_cases hs : Tiny a0
  · rw [if_pos hs] at h
    obtain rfl := Option.some.inj h
    exact element_calls a0 hs w
  · rw [if_neg hs] at h; cases h
theorem in_dig : ∀ c < 256, decide ((cls c : Int) ∈ ([1] : List Int)) = dig c := by decide +kernel
theorem all_of {l : List Nat} (ho : ∀ c ∈ l, c < 256) {p q : Nat → Bool} (h : ∀ c < 256, p c = q c) : l.all p = l.all q := by
  rw [Bool.eq_iff_iff, List.all_eq_true, List.all_eq_true]
  exact ⟨fun g c hc => by rw [← h c (ho c hc)]; exact g c hc, fun g c hc => by rw [h c (ho c hc)]; exact g c hc⟩
theorem All_dig (s : ByteArray) (hs : Small s) : octet_All.f s [1] = some ((bs s).all dig) := by
  unfold octet_All.f
  rw [if_pos hs, all_of (bs_oct s) in_dig]
theorem All_elc (s : ByteArray) (hs : Small s) : octet_All.f s [1, 2, 3] = some ((bs s).all elc) := by
  unfold octet_All.f
  rw [if_pos hs, all_of (bs_oct s) in_elc]
theorem toList_nil (s : ByteArray) : (s.toList = ([] : List UInt8)) ↔ bs s = [] := by
  rw [ByteArray.toList_eq]
  simp [bs]
theorem number_May_tot (s : ByteArray) (hs : Small s) : number_May.f s = some (isNum (bs s)) := by
  unfold number_May.f
  by_cases he : bs s = []
  · rw [if_pos ((toList_nil s).2 he), he]; rfl
  · rw [if_neg (fun h => he ((toList_nil s).1 h)), All_dig s hs]
    simp only [Option.bind_some]
    obtain ⟨c, r, hb⟩ : ∃ c r, bs s = c :: r := by
      cases h : bs s with
      | nil => exact absurd h he
      | cons c r => exact ⟨c, r, rfl⟩
    have hsz : s.size = r.length + 1 := by rw [← bs_length, hb]; rfl
    have hd : (bs s).drop 0 = c :: r := by simpa using hb
    have hc := (bt_drop hd).2.1
    rw [show ((0 : Nat) : Int) = 0 from rfl] at hc
    by_cases ha : (bs s).all dig = true
    · rw [if_pos ha, if_pos (by omega), hc]
      unfold isNum
      rw [ha, hb]
      by_cases h48 : c = 48
      · rw [if_pos (by omega)]
        subst h48
        cases r with
        | nil => rw [hsz]; rfl
        | cons x r =>
          have : ((s.size : Int) == 1) = false := beq_eq_false_iff_ne.2 (by rw [hsz]; simp; omega)
          rw [this]; rfl
      · rw [if_neg (by omega)]
        simp [h48]
    · rw [if_neg ha]
      unfold isNum
      rw [Bool.eq_false_iff.2 ha]; rfl
theorem may_calls (s : ByteArray) (hs : Small s) (w : World) : Calls Tryz.prog 89 #[.string s] w fun e w' => e = .returned (.bool (isNum (bs s))) ∧ Below w.heap.size w w' := number_May.calls s _ w (number_May_tot s hs)
theorem wch_iff : ∀ c < 256, wch c = (elc c && !isDot c) := by decide +kernel
theorem wch_low : ∀ c < 256, 128 ≤ c → wch c = false := by decide +kernel
theorem word_no_dot {s : ByteArray} {b : Bool} (h : (∀ c ∈ bs s, c < 128) → b = (bs s).any isDot) (hb : b = true) : isWord (bs s) = false := by
  have hw : (bs s).all wch = false := by
    by_cases ha : ∀ c ∈ bs s, c < 128
    · have := h ha
      rw [hb] at this
      obtain ⟨c, hc, hd⟩ := List.any_eq_true.1 this.symm
      rw [List.all_eq_false]
      exact ⟨c, hc, by rw [wch_iff c (bs_oct s c hc), hd]; simp⟩
    · simp only [Classical.not_forall] at ha
      obtain ⟨c, hc, hd⟩ := ha
      rw [List.all_eq_false]
      exact ⟨c, hc, by rw [wch_low c (bs_oct s c hc) (by omega)]; simp⟩
  unfold isWord
  rw [hw]; simp
theorem word_no_elc {s : ByteArray} (h : (bs s).all elc = false) : isWord (bs s) = false := by
  have hw : (bs s).all wch = false := by
    obtain ⟨c, hc, hd⟩ := List.all_eq_false.1 h
    rw [List.all_eq_false]
    exact ⟨c, hc, by rw [wch_iff c (bs_oct s c hc), Bool.eq_false_iff.2 hd]; simp⟩
  unfold isWord
  rw [hw]; simp
theorem word_yes {s : ByteArray} {b : Bool} (h : (∀ c ∈ bs s, c < 128) → b = (bs s).any isDot) (hb : b = false) (he : (bs s).all elc = true) (hn : bs s ≠ []) : isWord (bs s) = (isNum (bs s) || !(bs s).all dig) := by
  have ha : ∀ c ∈ bs s, c < 128 := fun c hc => by
    have h1 := List.all_eq_true.1 he c hc
    rcases Nat.lt_or_ge c 128 with hl | hl
    · exact hl
    · rw [elc_low c (bs_oct s c hc) hl] at h1; cases h1
  have hd := h ha
  rw [hb] at hd
  have hw : (bs s).all wch = true := by
    rw [List.all_eq_true]
    intro c hc
    have h1 := List.any_eq_false.1 hd.symm c hc
    rw [wch_iff c (bs_oct s c hc), List.all_eq_true.1 he c hc, Bool.eq_false_iff.2 h1]; rfl
  unfold isWord
  rw [hw]
  have : (bs s).isEmpty = false := by cases hq : bs s with | nil => exact absurd hq hn | cons _ _ => rfl
  rw [this]
  cases isNum (bs s) <;> cases (bs s).all dig <;> rfl
set_option maxHeartbeats 4000000 in
set_option maxRecDepth 1000000 in
theorem vword_calls (s : ByteArray) (hs : Tiny s) (w : World) : Calls Tryz.prog 90 #[.string s] w fun e w' => e = .returned (.bool (isWord (bs s))) ∧ Below w.heap.size w w' := by
  have hsm := hs.small
  have hcd := contains_dots s hs
  have hal := fun w0 : World => octet_All.calls s (some ⟨w0.heap.size, 0, none⟩) 3 [1, 2, 3] _ (w0.alloc (.cells #[.int .i64 1, .int .i64 2, .int .i64 3] 3)) (row_ints w0 [1, 2, 3] 3 (by decide)) (by decide) (All_elc s hsm)
  have had := fun w0 : World => octet_All.calls s (some ⟨w0.heap.size, 0, none⟩) 1 [1] _ (w0.alloc (.cells #[.int .i64 1] 3)) (row_ints w0 [1] 3 (by decide)) (by decide) (All_dig s hsm)
  have hmy := may_calls s hsm
  by_cases he : bs s = []
  · have hl : (s.toList == ([] : List UInt8)) = true := by rw [beq_iff_eq]; exact (toList_nil s).2 he
    have hw : isWord (bs s) = false := by rw [he]; rfl
    have Hw := Aside0.mk hw
    clear hw hal had hmy hcd hs hsm he
    go_enter Tryz.func90, Tryz.ntmps90
    go_wp2
    go_ret
    exact ⟨by rw [Hw.out]; rfl, Below.refl _ _⟩
  · have hl : (s.toList == ([] : List UInt8)) = false := by rw [beq_eq_false_iff_ne]; exact fun h => he ((toList_nil s).1 h)
    go_enter Tryz.func90, Tryz.ntmps90
    go_wp2_with fail
    refine (hcd _).mono ?_
    rintro e w1 ⟨b, rfl, hb, hb1⟩
    cases b
    case true =>
      have hw := word_no_dot hb rfl
      have Hw := Aside0.mk hw
      clear hw hb hal had hmy hcd hs hsm he
      go_wp2
      go_ret
      exact ⟨by rw [Hw.out]; rfl, hb1⟩
    case false =>
      have HB1 := Aside0.mk hb1
      have Hb := Aside0.mk hb
      clear hb1 hb
      go_wp2_with fail
      refine (hal _).mono ?_
      rintro e w2 ⟨rfl, hb2⟩
      have hB2 : Below w.heap.size w w2 := (below_alloc' HB1.out _ HB1.out.size).trans (hb2.mono (by have := HB1.out.size; simp; omega))
      have HB2 := Aside0.mk hB2
      clear hb2 hB2
      cases hea : (bs s).all elc
      · have hw := word_no_elc hea
        have Hw := Aside0.mk hw
        clear hw Hb hea hal had hmy hcd hs hsm he
        go_wp2
        go_ret
        exact ⟨by rw [Hw.out]; rfl, HB2.out⟩
      · have hw := word_yes Hb.out rfl hea he
        generalize (bs s).all dig = d at hw had
        generalize isNum (bs s) = m at hw hmy
        have Hw := Aside0.mk hw
        clear hw Hb hea hcd hs hsm he
        go_wp2_with fail
        refine (hmy _).mono ?_
        rintro e w3 ⟨rfl, hb3⟩
        have hB3 : Below w.heap.size w w3 := HB2.out.trans (hb3.mono HB2.out.size)
        have HB3 := Aside0.mk hB3
        clear hb3 hB3
        cases m
        · go_wp2_with fail
          refine (had _).mono ?_
          rintro e w4 ⟨rfl, hb4⟩
          have hB4 : Below w.heap.size w w4 := (below_alloc' HB3.out _ HB3.out.size).trans (hb4.mono (by have := HB3.out.size; simp; omega))
          have HB4 := Aside0.mk hB4
          clear hb4 hB4
          go_wp2
          go_ret
          exact ⟨by rw [Hw.out]; rfl, HB4.out⟩
        · go_wp2
          go_ret
          exact ⟨by rw [Hw.out]; rfl, HB3.out⟩
end Go.Proofs.YtohdmmafjpjmfaaGreatDoor.QB.D
end
