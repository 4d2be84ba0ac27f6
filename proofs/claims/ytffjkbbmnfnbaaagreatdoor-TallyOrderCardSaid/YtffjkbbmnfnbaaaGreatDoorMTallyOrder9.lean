/- Part 9 of this claim: several texts one behind the other: EvSs, EvSr, EvSt, EvSu, EvSv, EvSw, RefB, Shelf, DParts, DCut, DRune. What each shows stands in its theorems; conditions: sizes of texts and lists, as the functions' definitions say. -/
import Derived.Test.YtffjkbbmnfnbaaaGreatDoorMTallyOrder8
import Derived.Test.YtffjkbbmnfnbaaaGreatDoorMTallyOrder6
import Derived.Test.YtffjkbbmnfnbaaaGreatDoorMTallyOrder7
import Derived.Shelf.Small.Utf8
import Derived.Shelf.Small.Bits
import Derived.Shelf.Small.Strs
import Derived.Shelf.Small.Wraps
import Derived.Shelf.Utf8.RuneCount
import Derived.Shelf.Strconv.Itoa0
import Derived.Shelf.Strings.Search1
import Derived.Shelf.Strings.Search2
import Derived.Shelf.Strings.Search3
import Derived.Shelf.Strings.Cut
import Derived.Shelf.Strings.Count
import Derived.Shelf.LaysM
import Derived.Shelf.Strings.Shaped
import Derived.Shelf.Strings.Prefix
import Derived.Shelf.Strings.Split
import Derived.Shelf.Strings.SplitShaped
import Derived.Shelf.Unicode.Decode
import Derived.Shelf.Strings.Runes
import Derived.Shelf.Strings.RuneCount
import Derived.Shelf.Strings.IndexAny
import Derived.Shelf.Strings.AsciiSet
import Derived.Shelf.Strings.IndexAnyAll
import Derived.Shelf.Strings.Explode
import Derived.Shelf.Unicode.DecodeSlow
import Derived.Shelf.Unicode.DecodeAny
import Derived.Test.YtffjkbbmnfnbaaaGreatDoorProg
import Derived.Shelf.Strings.SplitCore
import Derived.Lib.SplitLaws
import Derived.Lib.CutLaws
import Derived.RegionTactic
import Derived.BigRegion
import Derived.ChangeAlike
import Derived.Laws.Runes
import Derived.Laws.RangeAny
import Derived.WalkMore
import Derived.Deep.QuietTactic
import Derived.BigQuiet
import Derived.ScopeJumps
import Derived.Lib.OthersKept
section
namespace Go.Proofs.YtffjkbbmnfnbaaaGreatDoor.Q
open Go Go.RowKit Go.Proofs.YtffjkbbmnfnbaaaGreatDoorW.PrintWords Go.Ev
set_option linter.unusedVariables false
set_option maxRecDepth 100000
def evS (s : ByteArray) : PV := .s (.string s)
theorem noX_S (l : List ByteArray) : noX (l.map evS) := fun x hx p hp => by
 obtain ⟨s, _, rfl⟩ := List.mem_map.1 hx
 rw [List.mem_singleton.1 hp]; rfl
theorem len0 {n k : Nat} (h : n ≤ 4294967296) (hk : k ≤ 32) : 0 + n ≤ maxLen ∧ (0 + n) * k ≤ 140737488355328 := by
 have : n * k ≤ 4294967296 * 32 := Nat.mul_le_mul h hk
 rw [Nat.zero_add]
 unfold maxLen
 omega
theorem cloneS_pc (l : List ByteArray) (hl : l.length ≤ 4294967296) : PC 69 [.sl 0 1 (l.map evS)] (.xo 1 (l.map evS)) := by
 refine pc_of (tt_ok.wx [(2, 1), (5, 1)] []) tt_follows Tryz.func69 rfl (by kernel_rfl) (by kernel_rfl) (Nat.le_of_ble_eq_true rfl) rfl ?_
 conv => whnf
 constructor
 ·intro h
  conv => whnf
  rw [h]
  exact ⟨rfl, rfl, rfl, Nat.one_pos⟩
 ·conv => whnf
  have e1 : (l.map evS).length = l.length := List.length_map ..
  refine ⟨by show 0 + (l.map evS).length ≤ _ ∧ (0 + (l.map evS).length) * 16 ≤ _; rw [e1]; exact len0 hl (by decide), ?_⟩
  conv => whnf
  refine ⟨.rw 2 1 (l.map evS), by simp [cutL], ?_⟩
  conv => whnf
  refine ⟨.xo 1 (l.map evS), by simp [cutL, List.take_of_length_le], ?_⟩
  (conv => whnf) <;> try rfl
theorem cut_all {z k : Nat} {ys : List PV} (h : ys.length ≤ k) : some (PV.sl 0 z (cutL (some k) (List.drop 0 (List.take ys.length ys)))) = some (.sl 0 z ys) := by
 simp [cutL, List.take_of_length_le h]
theorem spl1 {a ys : List PV} {i k : Nat} {z : PV} (ha : a.length = i) (hk : ys.length ≤ k) : spliceE (a ++ List.replicate k z) i ys = a ++ ys ++ List.replicate (k - ys.length) z := by
 subst ha
 unfold spliceE
 rw [List.take_left, List.drop_append, List.drop_of_length_le (by omega), List.nil_append, List.drop_replicate, Nat.add_sub_cancel_left]
theorem spl2 {a ys : List PV} {i k : Nat} {z : PV} (ha : a.length = i) (hk : ys.length = k) : spliceE (a ++ List.replicate k z) i ys = a ++ ys := by
 rw [spl1 ha (by omega), hk, Nat.sub_self, List.replicate_zero, List.append_nil]
theorem spl3 {xs ys J : List PV} {i : Nat} (hi : i ≤ xs.length) (hJ : ys.length ≤ J.length) : spliceE (spliceE (xs ++ J) (i + ys.length) (xs.drop i)) i ys = xs.take i ++ ys ++ xs.drop i ++ J.drop ys.length := by
 have h1 : (List.take (i + ys.length) (xs ++ J)).length = i + ys.length := by rw [List.length_take, List.length_append]; omega
 have e3 : List.drop (xs.length + ys.length) (xs ++ J) = J.drop ys.length := by rw [List.drop_append, List.drop_of_length_le (by omega), List.nil_append, Nat.add_sub_cancel_left]
 have e1 : List.take i (spliceE (xs ++ J) (i + ys.length) (xs.drop i)) = xs.take i := by
  unfold spliceE
  rw [List.append_assoc, List.take_append_of_le_length (by rw [h1]; omega), List.take_take, Nat.min_eq_left (by omega), List.take_append_of_le_length hi]
 have e2 : List.drop (i + ys.length) (spliceE (xs ++ J) (i + ys.length) (xs.drop i)) = xs.drop i ++ J.drop ys.length := by
  unfold spliceE
  rw [List.append_assoc, List.drop_left' h1, List.length_drop, show i + ys.length + (xs.length - i) = xs.length + ys.length by omega, e3]
 show List.take i (spliceE (xs ++ J) (i + ys.length) (xs.drop i)) ++ ys ++ List.drop (i + ys.length) (spliceE (xs ++ J) (i + ys.length) (xs.drop i)) = _
 rw [e1, e2, List.append_assoc, List.append_assoc, List.append_assoc]
theorem src1 {z k i N : Nat} {xs J : List PV} (hi : i ≤ xs.length) (hN : xs.length ≤ N) (hk : xs.length - i = min k (N - i)) (hJ : N ≤ (xs ++ J).length) : some (PV.sl 0 z (cutL (some k) (List.drop i (List.take N (xs ++ J))))) = some (.sl 0 z (xs.drop i)) := by
 show some (PV.sl 0 z (List.take k (List.drop i (List.take N (xs ++ J))))) = _
 rw [List.drop_take, List.take_take, ← hk, List.drop_append_of_le_length hi, List.take_append_of_le_length (by rw [List.length_drop]; exact Nat.le_refl _), List.take_of_length_le (by rw [List.length_drop]; exact Nat.le_refl _)]
theorem ovS : OvOk Tryz.prog 71 := by
 obtain ⟨ti, _, h, _⟩ := (tt_ok 9 ⟨.str, 1, 16, [.string ⟨#[]⟩]⟩ (by kernel_rfl)).info
 exact ⟨_, 56, 4, 9, ti, Tryz.func71, by kernel_rfl, by kernel_rfl, by kernel_rfl, by kernel_rfl, Tryz.underlying56, h⟩
theorem insertS_pc (xs ys : List PV) (i : Nat) (hi : i ≤ xs.length) (hl : xs.length ≤ 1000000) (hv : ys ≠ []) (hvl : ys.length ≤ 1000000) (hx : noX xs) (hy : noX ys) : PC 46 [.xo 1 xs, .s (.int .i64 i), .xo 1 ys] (.xo 1 (xs.take i ++ ys ++ xs.drop i)) := by
 refine pc_of (tt_ok.wx [(25, 1), (40, 1), (60, 1)] [] true) tt_follows Tryz.func46 rfl (by kernel_rfl) (by kernel_rfl) (Nat.le_of_ble_eq_true rfl) rfl ?_
 conv => whnf
 intro J hJ
 have hm : 0 < ys.length := List.length_pos_iff.2 hv
 conv => whnf
 refine ⟨by show 0 ≤ (i : Int) ∧ (i : Int) ≤ (xs.length : Int) ∧ (xs.length : Int) ≤ (xs.length : Int); omega, ?_⟩
 conv => whnf
 refine ⟨fun h => ?_, fun _ => ?_⟩
 ·exfalso
  have : (ys.length : Int) = 0 := by simpa using h
  omega
 conv => whnf
 refine ⟨fun h => ?_, fun h => ?_⟩
 · -- at the end
  have hin : i = xs.length := by have : (i : Int) = xs.length := by simpa using h
                                 omega
  subst hin
  conv => whnf
  refine ⟨.sl 0 1 ys, by simp [cutL], hy, ?_⟩
  conv => whnf
  refine ⟨by show xs.length + ys.length ≤ 9223372036854775807 ∧ (xs.length + ys.length) * 16 ≤ 140737488355328; omega, fun h => ?_, fun h => ?_⟩
  ·refine ⟨.rw 3 1 (xs ++ ys ++ J.drop ys.length), by simp [List.drop_append], ?_⟩
   conv => whnf
   refine ⟨.xo 1 (xs ++ ys), by simp [List.take_append, List.take_of_length_le], ?_⟩
   conv => whnf
   show PV.xo 1 (xs ++ ys) = _
   simp
  ·conv => whnf
   refine ⟨by rw [List.take_left]; exact hx, ?_⟩
   conv => whnf
   refine ⟨.rw 0 1 (xs ++ ys), by simp, ?_⟩
   conv => whnf
   refine ⟨.xo 1 (xs ++ ys), by simp [List.take_of_length_le], ?_⟩
   conv => whnf
   show PV.xo 1 (xs ++ ys) = _
   simp
 ·have hin : i < xs.length := by have : ¬ (i : Int) = xs.length := by simpa using h
                                 omega
  have hw : IntKind.i64.wrap ((xs.length : Int) + (ys.length : Int)) = ((xs.length + ys.length : Nat) : Int) := by rw [IntKind.wrap_i64]; omega
  conv => whnf
  refine ⟨fun h => ?_, fun h => ?_⟩
  · -- a new row
   have hbig : xs.length + J.length < xs.length + ys.length := by
    rw [hw] at h
    have := of_decide_eq_true h
    simp only [List.length_append] at this
    omega
   conv => whnf
   refine ⟨by show (0 : Int) ≤ 0 ∧ 0 ≤ (i : Int) ∧ (i : Int) ≤ (xs.length : Int); omega, ?_⟩
   conv => whnf
   have hw2 : IntKind.i64.wrap (IntKind.i64.wrap ((xs.length : Int) + (ys.length : Int)) - (i : Int)) = ((xs.length + ys.length - i : Nat) : Int) := by rw [hw, IntKind.wrap_i64]; omega
   have hk : (IntKind.i64.wrap (IntKind.i64.wrap ((xs.length : Int) + (ys.length : Int)) - (i : Int))).toNat = xs.length + ys.length - i := by rw [hw2]; exact Int.toNat_natCast _
   refine ⟨by show 0 ≤ IntKind.i64.wrap (IntKind.i64.wrap ((xs.length : Int) + (ys.length : Int)) - (i : Int)) ∧ _ ≤ (9223372036854775807 : Int); rw [hw2]; omega, ?_⟩
   conv => whnf
   have hlen : (0 + ((i : Int)).toNat + (List.replicate (IntKind.i64.wrap (IntKind.i64.wrap ((xs.length : Int) + (ys.length : Int)) - (i : Int))).toNat (zeroE ⟨.str, 1, 16, [.string ⟨#[]⟩]⟩)).length) = xs.length + ys.length := by
    rw [List.length_replicate, hk, Int.toNat_natCast]; omega
   refine ⟨?_, ?_, ?_⟩
   ·rw [hlen]; show xs.length + ys.length ≤ 9223372036854775807 ∧ (xs.length + ys.length) * 16 ≤ 140737488355328; omega
   ·rw [hlen]
    intro h
    have := Nat.le_of_ble_eq_true h
    rw [List.length_append] at this
    omega
   intro _
   conv => whnf
   refine ⟨by rw [Nat.zero_add, Int.toNat_natCast, List.take_append_of_le_length hi]; exact fun x hx' => hx x (List.mem_of_mem_take hx'), ?_⟩
   conv => whnf
   refine ⟨.rw 0 1 (xs.take i ++ List.replicate (xs.length + ys.length - i) (zeroE ⟨.str, 1, 16, [.string ⟨#[]⟩]⟩)), by rw [hk, Nat.zero_add, Int.toNat_natCast, List.take_append_of_le_length hi], ?_⟩
   conv => whnf
   refine ⟨by show 0 ≤ (i : Int) ∧ (i : Int) ≤ ((0 + ((i : Int)).toNat + _ : Nat) : Int) ∧ ((0 + ((i : Int)).toNat + _ : Nat) : Int) ≤ ((0 + ((i : Int)).toNat + _ : Nat) : Int); omega, ?_⟩
   conv => whnf
   refine ⟨.sl 0 1 ys, cut_all (by rw [lenV_eq, lenV_eq, hlen]; omega), hy, ?_⟩
   conv => whnf
   refine ⟨.rw 0 1 (xs.take i ++ ys ++ List.replicate (xs.length - i) (zeroE ⟨.str, 1, 16, [.string ⟨#[]⟩]⟩)), ?_, ?_⟩
   ·have := spl1 (a := xs.take i) (ys := ys) (i := i) (k := xs.length + ys.length - i) (z := zeroE ⟨.str, 1, 16, [.string ⟨#[]⟩]⟩) (by rw [List.length_take]; omega) (by omega)
    rw [show xs.length + ys.length - i - ys.length = xs.length - i by omega] at this
    show some (PV.rw 0 1 (spliceE _ (0 + ((i : Int)).toNat) ys)) = _
    rw [Nat.zero_add, Int.toNat_natCast, this]
   conv => whnf
   have hw3 : IntKind.i64.wrap ((i : Int) + (ys.length : Int)) = ((i + ys.length : Nat) : Int) := by rw [IntKind.wrap_i64]; omega
   refine ⟨by rw [hw3, lenV_eq, hlen]; omega, ?_⟩
   conv => whnf
   refine ⟨by show 0 ≤ (i : Int) ∧ (i : Int) ≤ (xs.length : Int) ∧ (xs.length : Int) ≤ (xs.length : Int); omega, ?_⟩
   conv => whnf
   refine ⟨.sl 0 1 (xs.drop i), ?_, fun x hx' => hx x (List.mem_of_mem_drop hx'), ?_⟩
   ·have e : (0 + ((i : Int)).toNat) = i := by omega
    have e2 : (0 + ((lenV 0 xs.length : Nat) : Int).toNat) = xs.length := by rw [lenV_eq]; omega
    rw [hlen, e, e2]
    exact src1 hi (Nat.le_refl _) (by rw [lenV_eq, lenV_eq, hw3]; omega) (by rw [List.length_append]; omega)
   conv => whnf
   refine ⟨.rw 0 1 (xs.take i ++ ys ++ xs.drop i), ?_, ?_⟩
   ·have := spl2 (a := xs.take i ++ ys) (ys := xs.drop i) (i := i + ys.length) (k := xs.length - i) (z := zeroE ⟨.str, 1, 16, [.string ⟨#[]⟩]⟩) (by rw [List.length_append, List.length_take]; omega) (by rw [List.length_drop])
    show some (PV.rw 0 1 (spliceE _ (0 + (IntKind.i64.wrap ((i : Int) + (ys.length : Int))).toNat) (xs.drop i))) = _
    rw [hw3, Nat.zero_add, Int.toNat_natCast, this]
   conv => whnf
   refine ⟨by kernel_rfl, ?_⟩
   conv => whnf
   refine ⟨.xo 1 (xs.take i ++ ys ++ xs.drop i), ?_, ?_⟩
   ·rw [hlen, List.take_of_length_le (by simp only [List.length_append, List.length_take, List.length_drop]; omega)]
   (conv => whnf) <;> try rfl
  ·have hfit : xs.length + ys.length ≤ xs.length + J.length := by
    rw [hw] at h
    have := of_decide_eq_false h
    simp only [List.length_append] at this
    omega
   conv => whnf
   refine ⟨by show 0 ≤ (0 : Int) ∧ (0 : Int) ≤ IntKind.i64.wrap ((xs.length : Int) + (ys.length : Int)) ∧ IntKind.i64.wrap ((xs.length : Int) + (ys.length : Int)) + 0 ≤ ((xs ++ J).length : Int); rw [hw, List.length_append]; omega, ?_⟩
   conv => whnf
   have hw3 : IntKind.i64.wrap ((i : Int) + (ys.length : Int)) = ((i + ys.length : Nat) : Int) := by rw [IntKind.wrap_i64]; omega
   refine ⟨by rw [hw3, lenV_eq, hw]; omega, ?_⟩
   conv => whnf
   refine ⟨ovS, ?_⟩
   conv => whnf
   refine ⟨fun _ => ?_, (fun h => by cases h)⟩
   conv => whnf
   refine ⟨by rw [hw3, lenV_eq, hw]; omega, ?_⟩
   conv => whnf
   refine ⟨by rw [lenV_eq, hw]; omega, ?_⟩
   conv => whnf
   refine ⟨.sl 0 1 (xs.drop i), ?_, fun x hx' => hx x (List.mem_of_mem_drop hx'), ?_⟩
   ·have e : (0 + Int.toNat 0 + ((i : Int)).toNat) = i := by omega
    have e2 : (0 + Int.toNat 0 + ((lenV (0 + Int.toNat 0) (0 + (IntKind.i64.wrap ((xs.length : Int) + (ys.length : Int))).toNat) : Nat) : Int).toNat) = xs.length + ys.length := by rw [lenV_eq, hw]; omega
    rw [e, e2]
    exact src1 hi (Nat.le_add_right _ _) (by rw [lenV_eq, hw3]; omega) (by rw [List.length_append]; omega)
   conv => whnf
   refine ⟨.rw 1 1 (spliceE (xs ++ J) (i + ys.length) (xs.drop i)), ?_, ?_⟩
   ·show some (PV.rw 1 1 (spliceE _ (0 + Int.toNat 0 + (IntKind.i64.wrap ((i : Int) + (ys.length : Int))).toNat) (xs.drop i))) = _
    rw [hw3, show 0 + Int.toNat 0 + ((i + ys.length : Nat) : Int).toNat = i + ys.length by omega]
   conv => whnf
   refine ⟨by kernel_rfl, ?_⟩
   conv => whnf
   refine ⟨by rw [lenV_eq, hw]; omega, ?_⟩
   conv => whnf
   refine ⟨.sl 0 1 ys, cut_all (by rw [lenV_eq, lenV_eq, hw]; omega), hy, ?_⟩
   conv => whnf
   refine ⟨.rw 1 1 (xs.take i ++ ys ++ xs.drop i ++ J.drop ys.length), ?_, ?_⟩
   ·show some (PV.rw 1 1 (spliceE _ (0 + Int.toNat 0 + ((i : Int)).toNat) ys)) = _
    rw [show 0 + Int.toNat 0 + ((i : Int)).toNat = i by omega, spl3 hi (by omega)]
   conv => whnf
   refine ⟨.xo 1 (xs.take i ++ ys ++ xs.drop i), ?_, ?_⟩
   ·rw [hw, List.take_left' (by simp only [List.length_append, List.length_take, List.length_drop]; omega)]
   (conv => whnf) <;> try rfl
theorem ovR : OvOk Tryz.prog 66 := by
 obtain ⟨ti, _, h, _⟩ := (tt_ok 58 ⟨.st [(0, false, 1), (1, false, 1)], 2, 40, [.string ⟨#[]⟩, .slice none 0 0]⟩ (by kernel_rfl)).info
 exact ⟨_, 22, 4, 58, ti, Tryz.func66, by kernel_rfl, by kernel_rfl, by kernel_rfl, by kernel_rfl, Tryz.underlying22, h⟩
theorem insertR_pc (xs ys : List PV) (i : Nat) (hi : i ≤ xs.length) (hl : xs.length ≤ 1000000) (hv : ys ≠ []) (hvl : ys.length ≤ 1000000) (hx : noX xs) (hy : noX ys) : PC 42 [.xo 2 xs, .s (.int .i64 i), .xo 2 ys] (.xo 2 (xs.take i ++ ys ++ xs.drop i)) := by
 refine pc_of (tt_ok.wx [(25, 2), (40, 2), (60, 2)] [] true) tt_follows Tryz.func42 rfl (by kernel_rfl) (by kernel_rfl) (Nat.le_of_ble_eq_true rfl) rfl ?_
 conv => whnf
 intro J hJ
 have hm : 0 < ys.length := List.length_pos_iff.2 hv
 conv => whnf
 refine ⟨by show 0 ≤ (i : Int) ∧ (i : Int) ≤ (xs.length : Int) ∧ (xs.length : Int) ≤ (xs.length : Int); omega, ?_⟩
 conv => whnf
 refine ⟨fun h => ?_, fun _ => ?_⟩
 ·exfalso
  have : (ys.length : Int) = 0 := by simpa using h
  omega
 conv => whnf
 refine ⟨fun h => ?_, fun h => ?_⟩
 · -- at the end
  have hin : i = xs.length := by have : (i : Int) = xs.length := by simpa using h
                                 omega
  subst hin
  conv => whnf
  refine ⟨.sl 0 2 ys, by simp [cutL], hy, ?_⟩
  conv => whnf
  refine ⟨by show xs.length + ys.length ≤ 9223372036854775807 ∧ (xs.length + ys.length) * 40 ≤ 140737488355328; omega, fun h => ?_, fun h => ?_⟩
  ·refine ⟨.rw 3 2 (xs ++ ys ++ J.drop ys.length), by simp [List.drop_append], ?_⟩
   conv => whnf
   refine ⟨.xo 2 (xs ++ ys), by simp [List.take_append, List.take_of_length_le], ?_⟩
   conv => whnf
   show PV.xo 2 (xs ++ ys) = _
   simp
  ·conv => whnf
   refine ⟨by rw [List.take_left]; exact hx, ?_⟩
   conv => whnf
   refine ⟨.rw 0 2 (xs ++ ys), by simp, ?_⟩
   conv => whnf
   refine ⟨.xo 2 (xs ++ ys), by simp [List.take_of_length_le], ?_⟩
   conv => whnf
   show PV.xo 2 (xs ++ ys) = _
   simp
 ·have hin : i < xs.length := by have : ¬ (i : Int) = xs.length := by simpa using h
                                 omega
  have hw : IntKind.i64.wrap ((xs.length : Int) + (ys.length : Int)) = ((xs.length + ys.length : Nat) : Int) := by rw [IntKind.wrap_i64]; omega
  conv => whnf
  refine ⟨fun h => ?_, fun h => ?_⟩
  · -- a new row
   have hbig : xs.length + J.length < xs.length + ys.length := by
    rw [hw] at h
    have := of_decide_eq_true h
    simp only [List.length_append] at this
    omega
   conv => whnf
   refine ⟨by show (0 : Int) ≤ 0 ∧ 0 ≤ (i : Int) ∧ (i : Int) ≤ (xs.length : Int); omega, ?_⟩
   conv => whnf
   have hw2 : IntKind.i64.wrap (IntKind.i64.wrap ((xs.length : Int) + (ys.length : Int)) - (i : Int)) = ((xs.length + ys.length - i : Nat) : Int) := by rw [hw, IntKind.wrap_i64]; omega
   have hk : (IntKind.i64.wrap (IntKind.i64.wrap ((xs.length : Int) + (ys.length : Int)) - (i : Int))).toNat = xs.length + ys.length - i := by rw [hw2]; exact Int.toNat_natCast _
   refine ⟨by show 0 ≤ IntKind.i64.wrap (IntKind.i64.wrap ((xs.length : Int) + (ys.length : Int)) - (i : Int)) ∧ _ ≤ (9223372036854775807 : Int); rw [hw2]; omega, ?_⟩
   conv => whnf
   have hlen : (0 + ((i : Int)).toNat + (List.replicate (IntKind.i64.wrap (IntKind.i64.wrap ((xs.length : Int) + (ys.length : Int)) - (i : Int))).toNat (zeroE ⟨.st [(0, false, 1), (1, false, 1)], 2, 40, [.string ⟨#[]⟩, .slice none 0 0]⟩)).length) = xs.length + ys.length := by
    rw [List.length_replicate, hk, Int.toNat_natCast]; omega
   refine ⟨?_, ?_, ?_⟩
   ·rw [hlen]; show xs.length + ys.length ≤ 9223372036854775807 ∧ (xs.length + ys.length) * 40 ≤ 140737488355328; omega
   ·rw [hlen]
    intro h
    have := Nat.le_of_ble_eq_true h
    rw [List.length_append] at this
    omega
   intro _
   conv => whnf
   refine ⟨by rw [Nat.zero_add, Int.toNat_natCast, List.take_append_of_le_length hi]; exact fun x hx' => hx x (List.mem_of_mem_take hx'), ?_⟩
   conv => whnf
   refine ⟨.rw 0 2 (xs.take i ++ List.replicate (xs.length + ys.length - i) (zeroE ⟨.st [(0, false, 1), (1, false, 1)], 2, 40, [.string ⟨#[]⟩, .slice none 0 0]⟩)), by rw [hk, Nat.zero_add, Int.toNat_natCast, List.take_append_of_le_length hi], ?_⟩
   conv => whnf
   refine ⟨by show 0 ≤ (i : Int) ∧ (i : Int) ≤ ((0 + ((i : Int)).toNat + _ : Nat) : Int) ∧ ((0 + ((i : Int)).toNat + _ : Nat) : Int) ≤ ((0 + ((i : Int)).toNat + _ : Nat) : Int); omega, ?_⟩
   conv => whnf
   refine ⟨.sl 0 2 ys, cut_all (by rw [lenV_eq, lenV_eq, hlen]; omega), hy, ?_⟩
   conv => whnf
   refine ⟨.rw 0 2 (xs.take i ++ ys ++ List.replicate (xs.length - i) (zeroE ⟨.st [(0, false, 1), (1, false, 1)], 2, 40, [.string ⟨#[]⟩, .slice none 0 0]⟩)), ?_, ?_⟩
   ·have := spl1 (a := xs.take i) (ys := ys) (i := i) (k := xs.length + ys.length - i) (z := zeroE ⟨.st [(0, false, 1), (1, false, 1)], 2, 40, [.string ⟨#[]⟩, .slice none 0 0]⟩) (by rw [List.length_take]; omega) (by omega)
    rw [show xs.length + ys.length - i - ys.length = xs.length - i by omega] at this
    show some (PV.rw 0 2 (spliceE _ (0 + ((i : Int)).toNat) ys)) = _
    rw [Nat.zero_add, Int.toNat_natCast, this]
   conv => whnf
   have hw3 : IntKind.i64.wrap ((i : Int) + (ys.length : Int)) = ((i + ys.length : Nat) : Int) := by rw [IntKind.wrap_i64]; omega
   refine ⟨by rw [hw3, lenV_eq, hlen]; omega, ?_⟩
   conv => whnf
   refine ⟨by show 0 ≤ (i : Int) ∧ (i : Int) ≤ (xs.length : Int) ∧ (xs.length : Int) ≤ (xs.length : Int); omega, ?_⟩
   conv => whnf
   refine ⟨.sl 0 2 (xs.drop i), ?_, fun x hx' => hx x (List.mem_of_mem_drop hx'), ?_⟩
   ·have e : (0 + ((i : Int)).toNat) = i := by omega
    have e2 : (0 + ((lenV 0 xs.length : Nat) : Int).toNat) = xs.length := by rw [lenV_eq]; omega
    rw [hlen, e, e2]
    exact src1 hi (Nat.le_refl _) (by rw [lenV_eq, lenV_eq, hw3]; omega) (by rw [List.length_append]; omega)
   conv => whnf
   refine ⟨.rw 0 2 (xs.take i ++ ys ++ xs.drop i), ?_, ?_⟩
   ·have := spl2 (a := xs.take i ++ ys) (ys := xs.drop i) (i := i + ys.length) (k := xs.length - i) (z := zeroE ⟨.st [(0, false, 1), (1, false, 1)], 2, 40, [.string ⟨#[]⟩, .slice none 0 0]⟩) (by rw [List.length_append, List.length_take]; omega) (by rw [List.length_drop])
    show some (PV.rw 0 2 (spliceE _ (0 + (IntKind.i64.wrap ((i : Int) + (ys.length : Int))).toNat) (xs.drop i))) = _
    rw [hw3, Nat.zero_add, Int.toNat_natCast, this]
   conv => whnf
   refine ⟨by kernel_rfl, ?_⟩
   conv => whnf
   refine ⟨.xo 2 (xs.take i ++ ys ++ xs.drop i), ?_, ?_⟩
   ·rw [hlen, List.take_of_length_le (by simp only [List.length_append, List.length_take, List.length_drop]; omega)]
   (conv => whnf) <;> try rfl
  ·have hfit : xs.length + ys.length ≤ xs.length + J.length := by
    rw [hw] at h
    have := of_decide_eq_false h
    simp only [List.length_append] at this
    omega
   conv => whnf
   refine ⟨by show 0 ≤ (0 : Int) ∧ (0 : Int) ≤ IntKind.i64.wrap ((xs.length : Int) + (ys.length : Int)) ∧ IntKind.i64.wrap ((xs.length : Int) + (ys.length : Int)) + 0 ≤ ((xs ++ J).length : Int); rw [hw, List.length_append]; omega, ?_⟩
   conv => whnf
   have hw3 : IntKind.i64.wrap ((i : Int) + (ys.length : Int)) = ((i + ys.length : Nat) : Int) := by rw [IntKind.wrap_i64]; omega
   refine ⟨by rw [hw3, lenV_eq, hw]; omega, ?_⟩
   conv => whnf
   refine ⟨ovR, ?_⟩
   conv => whnf
   refine ⟨fun _ => ?_, (fun h => by cases h)⟩
   conv => whnf
   refine ⟨by rw [hw3, lenV_eq, hw]; omega, ?_⟩
   conv => whnf
   refine ⟨by rw [lenV_eq, hw]; omega, ?_⟩
   conv => whnf
   refine ⟨.sl 0 2 (xs.drop i), ?_, fun x hx' => hx x (List.mem_of_mem_drop hx'), ?_⟩
   ·have e : (0 + Int.toNat 0 + ((i : Int)).toNat) = i := by omega
    have e2 : (0 + Int.toNat 0 + ((lenV (0 + Int.toNat 0) (0 + (IntKind.i64.wrap ((xs.length : Int) + (ys.length : Int))).toNat) : Nat) : Int).toNat) = xs.length + ys.length := by rw [lenV_eq, hw]; omega
    rw [e, e2]
    exact src1 hi (Nat.le_add_right _ _) (by rw [lenV_eq, hw3]; omega) (by rw [List.length_append]; omega)
   conv => whnf
   refine ⟨.rw 1 2 (spliceE (xs ++ J) (i + ys.length) (xs.drop i)), ?_, ?_⟩
   ·show some (PV.rw 1 2 (spliceE _ (0 + Int.toNat 0 + (IntKind.i64.wrap ((i : Int) + (ys.length : Int))).toNat) (xs.drop i))) = _
    rw [hw3, show 0 + Int.toNat 0 + ((i + ys.length : Nat) : Int).toNat = i + ys.length by omega]
   conv => whnf
   refine ⟨by kernel_rfl, ?_⟩
   conv => whnf
   refine ⟨by rw [lenV_eq, hw]; omega, ?_⟩
   conv => whnf
   refine ⟨.sl 0 2 ys, cut_all (by rw [lenV_eq, lenV_eq, hw]; omega), hy, ?_⟩
   conv => whnf
   refine ⟨.rw 1 2 (xs.take i ++ ys ++ xs.drop i ++ J.drop ys.length), ?_, ?_⟩
   ·show some (PV.rw 1 2 (spliceE _ (0 + Int.toNat 0 + ((i : Int)).toNat) ys)) = _
    rw [show 0 + Int.toNat 0 + ((i : Int)).toNat = i by omega, spl3 hi (by omega)]
   conv => whnf
   refine ⟨.xo 2 (xs.take i ++ ys ++ xs.drop i), ?_, ?_⟩
   ·rw [hw, List.take_left' (by simp only [List.length_append, List.length_take, List.length_drop]; omega)]
   (conv => whnf) <;> try rfl
theorem cloneR_pc (xs : List PV) (hl : xs.length ≤ 1000000) : PC 68 [.sl 0 2 xs] (.xo 2 xs) := by
 refine pc_of (tt_ok.wx [(2, 2), (5, 2)] []) tt_follows Tryz.func68 rfl (by kernel_rfl) (by kernel_rfl) (Nat.le_of_ble_eq_true rfl) rfl ?_
 conv => whnf
 constructor
 ·intro h
  conv => whnf
  rw [h]
  exact ⟨rfl, rfl, rfl, Nat.two_pos⟩
 ·conv => whnf
  refine ⟨by show 0 + xs.length ≤ 9223372036854775807 ∧ (0 + xs.length) * 40 ≤ 140737488355328; omega, ?_⟩
  conv => whnf
  refine ⟨.rw 2 2 xs, by simp [cutL], ?_⟩
  conv => whnf
  refine ⟨.xo 2 xs, by simp [cutL, List.take_of_length_le], ?_⟩
  (conv => whnf) <;> try rfl
structure RW where
 p : ByteArray
 v : List ByteArray
def evRw (r : RW) : PV := .ag [.s (.string r.p), .sl 0 1 (r.v.map evS)]
def evRx (r : RW) : PV := .ag [.s (.string r.p), .xo 1 (r.v.map evS)]
def mixR (l : List RW) (i : Nat) : List PV := (l.take i).map evRx ++ (l.drop i).map evRw
theorem mixR_len (l : List RW) (i : Nat) (hi : i ≤ l.length) : (mixR l i).length = l.length := by
 simp only [mixR, List.length_append, List.length_map, List.length_take, List.length_drop]
 omega
theorem mixR_get (l : List RW) (i : Nat) (hi : i < l.length) : (mixR l i)[i]? = some (evRw l[i]) := by
 have : ((l.take i).map evRx).length = i := by rw [List.length_map, List.length_take]; omega
 rw [mixR, List.getElem?_append_right (by omega), this, Nat.sub_self, List.getElem?_map, List.getElem?_drop, Nat.add_zero, List.getElem?_eq_getElem hi]
 rfl
theorem mixR_set (l : List RW) (i : Nat) (hi : i < l.length) : (mixR l i).set i (evRx l[i]) = mixR l (i + 1) := by
 have h1 : ((l.take i).map evRx).length = i := by rw [List.length_map, List.length_take]; omega
 unfold mixR
 rw [List.set_append_right _ _ (by omega), h1, Nat.sub_self, List.drop_eq_getElem_cons hi, List.map_cons, List.set_cons_zero, List.take_succ_eq_append_getElem hi, List.map_append, List.append_assoc]
 rfl
theorem own_pc (l : List RW) (hl : l.length ≤ 1000000) (hv : ∀ r ∈ l, r.v.length ≤ 1000000) : PC 43 [.sl 0 2 (l.map evRw)] (.xo 2 (l.map evRx)) := by
 have hlm : (l.map evRw).length = l.length := List.length_map ..
 refine pc_of tt_ok tt_follows Tryz.func43 rfl (by kernel_rfl) (by kernel_rfl) (Nat.le_of_ble_eq_true rfl) rfl ?_
 conv => whnf
 refine ⟨_, cloneR_pc _ (by simpa using hl), ?_⟩
 conv => whnf
 refine ⟨Nat, fun i => i ≤ l.length, fun i => [(3 * 9, .s (.int .i64 i)), (3 * 6 + 1, .rw 0 2 (mixR l i))], [0, 21, 24], fun i => l.length - i, 0, Nat.zero_le _, ?_, fun i hi => ?_⟩
 ·refine ⟨⟨rfl, trivial, ?_, Nat.two_pos, trivial⟩, ?_⟩
  ·show PV.rw 0 2 (l.map evRw) = PV.rw 0 2 (mixR l 0)
   simp [mixR]
  ·repeat' (first | exact trivial | refine ⟨?_, ?_⟩ | (((conv => lhs; whnf) <;> (try (conv => rhs; whnf))) <;> exact rfl))
 conv => whnf
 refine ⟨fun h => ?_, fun h => ?_⟩
 ·have hlt : i < l.length := ltm h
  have hgt : (mixR l i)[0 + ((i : Int)).toNat]? = some (evRw l[i]) := by rw [show 0 + ((i : Int)).toNat = i by omega]; exact mixR_get l i hlt
  conv => whnf
  refine ⟨by rw [lenV_eq, hlm]; omega, ?_⟩
  conv => whnf
  refine ⟨evRw l[i], hgt, ?_⟩
  conv => whnf
  refine ⟨_, cloneS_pc l[i].v (by have := hv _ (List.getElem_mem hlt); omega), ?_⟩
  conv => whnf
  refine ⟨by rw [lenV_eq, hlm]; omega, ?_⟩
  conv => whnf
  refine ⟨evRw l[i], hgt, ?_⟩
  conv => whnf
  refine ⟨.xo 1 (l[i].v.map evS), by rw [List.take_of_length_le (Nat.le_refl _)], noX_S _, ?_⟩
  conv => whnf
  refine ⟨.rw 0 2 (mixR l (i + 1)), ?_, ?_⟩
  ·rw [← mixR_set l i hlt, show 0 + ((i : Int)).toNat = i by omega]
   rfl
  conv => whnf
  refine ⟨i + 1, hlt, less1 hlt, ⟨incI hlt (by omega), trivial, rfl, Nat.two_pos, trivial⟩, ?_⟩
  repeat' (first | exact trivial | refine ⟨?_, ?_⟩ | (((conv => lhs; whnf) <;> (try (conv => rhs; whnf))) <;> exact rfl))
 ·have hge : i = l.length := gem h hi
  subst hge
  conv => whnf
  refine ⟨.xo 2 (l.map evRx), by rw [List.take_of_length_le (by rw [mixR_len l _ hi, hlm]; exact Nat.le_refl _)]; simp [mixR], ?_⟩
  (conv => whnf) <;> try rfl
theorem evRx_fz (r : RW) : (evRx r).fzE = evRw r := rfl
theorem own_pc' (l : List RW) (hl : l.length ≤ 1000000) (hv : ∀ r ∈ l, r.v.length ≤ 1000000) : PC 43 [.sl 0 2 (l.map evRw)] (.xo 2 (l.map evRw)) := by
 have h := pc_fi (own_pc l hl hv) (fun x hx p hp => by
  obtain ⟨r, _, rfl⟩ := List.mem_map.1 hx
  rcases List.mem_cons.1 hp with rfl | hp
  ·trivial
  ·rw [List.mem_singleton.1 hp]
   intro y hy q hq
   obtain ⟨s, _, rfl⟩ := List.mem_map.1 hy
   rw [List.mem_singleton.1 hq]
   exact fun e => by cases e)
 rwa [List.map_map, show (PV.fzE ∘ evRx) = evRw from funext evRx_fz] at h
theorem noX_R (l : List RW) : noX (l.map evRw) := fun x hx p hp => by
 obtain ⟨r, _, rfl⟩ := List.mem_map.1 hx
 rcases List.mem_cons.1 hp with rfl | hp
 ·rfl
 ·rw [List.mem_singleton.1 hp]; rfl
theorem spl_take {c ys : List PV} {k : Nat} (h : k ≤ c.length) : List.take k (spliceE c k ys) = List.take k c := by
 unfold spliceE
 rw [List.append_assoc, List.take_append_of_le_length (by rw [List.length_take]; omega), List.take_take, Nat.min_self]
theorem deleteR_pc (xs : List PV) (i : Nat) (hi : i < xs.length) (hl : xs.length ≤ 1000000) (hx : noX xs) : PC 50 [.xo 2 xs, .s (.int .i64 i), .s (.int .i64 (i + 1 : Nat))] (.xo 2 (xs.take i ++ xs.drop (i + 1))) := by
 refine pc_of (tt_ok.wx [(31, 2)] []) tt_follows Tryz.func50 rfl (by kernel_rfl) (by kernel_rfl) (Nat.le_of_ble_eq_true rfl) rfl ?_
 conv => whnf
 refine ⟨by rw [lenV_eq]; omega, ?_⟩
 conv => whnf
 refine ⟨fun h => ?_, fun _ => ?_⟩
 ·exfalso
  have : (i : Int) = ((i + 1 : Nat) : Int) := by simpa using h
  omega
 conv => whnf
 refine ⟨by rw [lenV_eq]; omega, ?_⟩
 conv => whnf
 refine ⟨by rw [lenV_eq]; omega, ?_⟩
 conv => whnf
 refine ⟨.sl 0 2 (xs.drop (i + 1)), ?_, fun x hx' => hx x (List.mem_of_mem_drop hx'), ?_⟩
 ·rw [show 0 + (((i + 1 : Nat) : Int)).toNat = i + 1 by omega, show 0 + ((lenV 0 xs.length : Nat) : Int).toNat = xs.length by rw [lenV_eq]; omega]
  show some (PV.sl 0 2 (List.drop (i + 1) (List.take xs.length xs))) = _
  rw [List.take_of_length_le (Nat.le_refl _)]
 conv => whnf
 refine ⟨by rw [List.length_drop]; show _ ≤ 9223372036854775807 ∧ _ * 40 ≤ 140737488355328; omega, ?_⟩
 conv => whnf
 have hc : (xs.take i ++ xs.drop (i + 1) ++ xs.drop (xs.length - 1)).length = xs.length := by
  simp only [List.length_append, List.length_take, List.length_drop]; omega
 have hk : 0 + ((i : Int)).toNat + (List.drop (i + 1) xs).length = xs.length - 1 := by rw [List.length_drop]; omega
 refine ⟨.rw 2 2 (xs.take i ++ xs.drop (i + 1) ++ xs.drop (xs.length - 1)), by rw [hk, show 0 + ((i : Int)).toNat = i by omega], ?_⟩
 conv => whnf
 refine ⟨by kernel_rfl, ?_⟩
 conv => whnf
 refine ⟨by rw [hk, hc]; omega, ?_⟩
 conv => whnf
 refine ⟨by rw [hc]; omega, ?_⟩
 conv => whnf
 refine ⟨.rw 2 2 (spliceE (xs.take i ++ xs.drop (i + 1) ++ xs.drop (xs.length - 1)) (xs.length - 1) (List.replicate (xs.length - (xs.length - 1)) (zeroE ⟨.st [(0, false, 1), (1, false, 1)], 2, 40, [.string ⟨#[]⟩, .slice none 0 0]⟩))), ?_, ?_⟩
 ·rw [hk, lenV_eq, show 0 + (((xs.length - 1 : Nat) : Int)).toNat = xs.length - 1 by omega, show 0 + ((xs.length : Int)).toNat = xs.length by omega]
 conv => whnf
 refine ⟨.xo 2 (xs.take i ++ xs.drop (i + 1)), ?_, ?_⟩
 ·rw [hk, spl_take (by rw [hc]; omega), List.take_left' (by simp only [List.length_append, List.length_take, List.length_drop]; omega)]
 (conv => whnf) <;> try rfl
theorem indexS_pc (l : List ByteArray) (s : ByteArray) (hl : l.length ≤ 1000000) : PC 73 [.sl 0 1 (l.map evS), evS s] (.s (.int .i64 (idxI (fun x => s.toList == x.toList) l))) := by
 refine pc_of tt_ok tt_follows Tryz.func73 rfl (by kernel_rfl) (by kernel_rfl) (Nat.le_of_ble_eq_true rfl) rfl ?_
 conv => whnf
 refine ⟨Nat, fun i => i ≤ l.length ∧ ∀ j (hj : j < l.length), j < i → (s.toList == l[j].toList) = false, fun i => [(24, .s (.int .i64 i))], [0, 3, 21], fun i => l.length - i, 0, ⟨Nat.zero_le _, fun j _ h => absurd h (Nat.not_lt_zero _)⟩, ?_, fun i hi => ?_⟩
 ·exact ⟨⟨rfl, trivial, trivial⟩, ⟨rfl, trivial, rfl, trivial, rfl, trivial, trivial⟩⟩
 ·obtain ⟨h1, h2⟩ := hi
  conv => whnf
  constructor
  ·intro h
   have hil := ltm h
   conv => whnf
   refine ⟨_, idx_map evS l i hil, ?_⟩
   conv => whnf
   constructor
   ·intro hq
    conv => whnf
    rw [idxI_hit hil hq h2] <;> rfl
   ·intro hq
    conv => whnf
    refine ⟨i + 1, ⟨hil, fun j hj g => ?_⟩, less1 hil, ⟨⟨incI hil (by omega), trivial, trivial⟩, ⟨rfl, trivial, rfl, trivial, rfl, trivial, trivial⟩⟩⟩
    by_cases hji : j < i
    ·exact h2 j hj hji
    ·obtain rfl : j = i := by omega
     exact hq
  ·intro h
   have hil := gem h h1
   conv => whnf
   rw [idxI_none (fun j hj => h2 j hj (by omega))] <;> rfl
theorem containsS_pc (l : List ByteArray) (s : ByteArray) (hl : l.length ≤ 1000000) : PC 47 [.sl 0 1 (l.map evS), evS s] (.s (.bool (l.any fun x => s.toList == x.toList))) := by
 refine pc_of tt_ok tt_follows Tryz.func47 rfl (by kernel_rfl) (by kernel_rfl) (Nat.le_of_ble_eq_true rfl) rfl ?_
 conv => whnf
 refine ⟨_, indexS_pc l s hl, ?_⟩
 conv => whnf
 rw [← idxI_ge] <;> rfl
theorem dropF_pc (v p s : ByteArray) : PC 49 [evS v, .rp [.s (.string p), .s (.string s)]] (.s (.bool (v.toList == s.toList))) := by
 refine pc_of tt_ok tt_follows Tryz.func49 rfl (by kernel_rfl) (by kernel_rfl) (Nat.le_of_ble_eq_true rfl) rfl ?_
 conv => whnf
theorem indexFS_pc (l : List ByteArray) (hl : l.length ≤ 1000000) (f : FuncId) (cp : List PV) (p : ByteArray → Bool) (hp : ∀ x, PC f [evS x, .rp cp] (.s (.bool (p x)))) : PC 74 [.sl 0 1 (l.map evS), .cl f [.rp cp]] (.s (.int .i64 (idxI p l))) := by
 refine pc_of tt_ok tt_follows Tryz.func74 rfl (by kernel_rfl) (by kernel_rfl) (Nat.le_of_ble_eq_true rfl) rfl ?_
 conv => whnf
 refine ⟨Nat, fun i => i ≤ l.length ∧ ∀ j (hj : j < l.length), j < i → p l[j] = false, fun i => [(24, .s (.int .i64 i))], [0, 3, 21], fun i => l.length - i, 0, ⟨Nat.zero_le _, fun j _ h => absurd h (Nat.not_lt_zero _)⟩, ?_, fun i hi => ?_⟩
 ·refine ⟨⟨rfl, trivial, trivial⟩, ?_⟩
  repeat' (first | exact trivial | refine ⟨?_, ?_⟩ | (((conv => lhs; whnf) <;> (try (conv => rhs; whnf))) <;> exact rfl))
 ·obtain ⟨h1, h2⟩ := hi
  conv => whnf
  constructor
  ·intro h
   have hil := ltm h
   conv => whnf
   refine ⟨_, idx_map evS l i hil, ?_⟩
   conv => whnf
   refine ⟨_, hp _, ?_⟩
   conv => whnf
   constructor
   ·intro hq
    conv => whnf
    rw [idxI_hit hil hq h2] <;> rfl
   ·intro hq
    conv => whnf
    refine ⟨i + 1, ⟨hil, fun j hj g => ?_⟩, less1 hil, ⟨⟨incI hil (by omega), trivial, trivial⟩, ?_⟩⟩
    ·by_cases hji : j < i
     ·exact h2 j hj hji
     ·obtain rfl : j = i := by omega
      exact hq
    ·repeat' (first | exact trivial | refine ⟨?_, ?_⟩ | (((conv => lhs; whnf) <;> (try (conv => rhs; whnf))) <;> exact rfl))
  ·intro h
   have hil := gem h h1
   conv => whnf
   rw [idxI_none (fun j hj => h2 j hj (by omega))] <;> rfl
theorem idxI_cases {α : Type} (p : α → Bool) (l : List α) : (idxI p l = -1 ∧ ∀ x ∈ l, p x = false) ∨ ∃ i : Nat, idxI p l = i ∧ ∃ h : i < l.length, p l[i] = true ∧ ∀ j (hj : j < l.length), j < i → p l[j] = false := by
 by_cases h : l.any p = true
 ·have hlt : l.findIdx p < l.length := List.findIdx_lt_length.2 (List.any_eq_true.1 h)
  refine Or.inr ⟨l.findIdx p, if_pos h, hlt, List.findIdx_getElem, fun j hj hji => ?_⟩
  have := List.not_of_lt_findIdx hji
  simpa using this
 ·refine Or.inl ⟨if_neg h, fun x hx => ?_⟩
  rw [List.any_eq_true] at h
  cases hq : p x
  ·rfl
  ·exact absurd ⟨x, hx, hq⟩ h
def lft (p : ByteArray → Bool) (l : List ByteArray) (j : Nat) : List ByteArray := (l.take j).filter fun x => !p x
theorem lft_succ (p : ByteArray → Bool) (l : List ByteArray) (j : Nat) (h : j < l.length) : lft p l (j + 1) = if p l[j] then lft p l j else lft p l j ++ [l[j]] := by
 unfold lft
 rw [List.take_succ_eq_append_getElem h, List.filter_append]
 cases hq : p l[j] <;> simp [hq]
theorem lft_all (p : ByteArray → Bool) (l : List ByteArray) (j : Nat) (hj : j ≤ l.length) (h : ∀ i (hi : i < l.length), i < j → p l[i] = false) : lft p l j = l.take j := by
 refine List.filter_eq_self.2 fun x hx => ?_
 obtain ⟨i, hi, rfl⟩ := List.getElem_of_mem hx
 rw [List.getElem_take]
 rw [List.length_take] at hi
 rw [h i (by omega) (by omega)]
 rfl
structure DelI (p : ByteArray → Bool) (l : List ByteArray) (x : Nat × List ByteArray) : Prop where
 le : x.1 ≤ l.length
 len : x.2.length = l.length
 tk : x.2.take (lft p l x.1).length = lft p l x.1
 dr : x.2.drop x.1 = l.drop x.1
 lt : (lft p l x.1).length < x.1
theorem DelI.get {p : ByteArray → Bool} {l : List ByteArray} {x : Nat × List ByteArray} (h : DelI p l x) (hj : x.1 < l.length) : x.2[x.1]? = some l[x.1] := by
 have h1 : (x.2.drop x.1)[0]? = (l.drop x.1)[0]? := by rw [h.dr]
 rw [List.getElem?_drop, List.getElem?_drop, Nat.add_zero, List.getElem?_eq_getElem hj] at h1
 exact h1
theorem DelI.skip {p : ByteArray → Bool} {l : List ByteArray} {x : Nat × List ByteArray} (h : DelI p l x) (hj : x.1 < l.length) (hp : p l[x.1] = true) : DelI p l (x.1 + 1, x.2) := by
 have e : lft p l (x.1 + 1) = lft p l x.1 := by rw [lft_succ p l x.1 hj, if_pos hp]
 refine ⟨hj, h.len, by rw [e]; exact h.tk, ?_, by rw [e]; have := h.lt; show _ < x.1 + 1; omega⟩
 show List.drop (x.1 + 1) x.2 = List.drop (x.1 + 1) l
 rw [← List.drop_drop, ← List.drop_drop, h.dr]
theorem DelI.put {p : ByteArray → Bool} {l : List ByteArray} {x : Nat × List ByteArray} (h : DelI p l x) (hj : x.1 < l.length) (hp : p l[x.1] = false) : DelI p l (x.1 + 1, x.2.set (lft p l x.1).length l[x.1]) ∧ (lft p l (x.1 + 1)).length = (lft p l x.1).length + 1 := by
 have e : lft p l (x.1 + 1) = lft p l x.1 ++ [l[x.1]] := by rw [lft_succ p l x.1 hj, if_neg (by rw [hp]; decide)]
 have hlt := h.lt
 have hlen := h.len
 refine ⟨⟨hj, by rw [List.length_set]; exact h.len, ?_, ?_, ?_⟩, by rw [e, List.length_append]; rfl⟩
 ·show List.take (lft p l (x.1 + 1)).length (x.2.set (lft p l x.1).length l[x.1]) = lft p l (x.1 + 1)
  rw [e, List.length_append, List.length_singleton, List.take_succ_eq_append_getElem (by rw [List.length_set]; omega), List.getElem_set_self, List.take_set_of_le (Nat.le_refl _), h.tk]
 ·show List.drop (x.1 + 1) (x.2.set (lft p l x.1).length l[x.1]) = List.drop (x.1 + 1) l
  rw [List.drop_set_of_lt (by omega), ← List.drop_drop, ← List.drop_drop, h.dr]
 ·show (lft p l (x.1 + 1)).length < x.1 + 1
  rw [e, List.length_append, List.length_singleton]; omega
theorem deleteFS_pc (l : List ByteArray) (hl : l.length ≤ 1000000) (f : FuncId) (cp : List PV) (p : ByteArray → Bool) (hp : ∀ x, PC f [evS x, .rp cp] (.s (.bool (p x)))) : PC 48 [.xo 1 (l.map evS), .cl f [.rp cp]] (.xo 1 ((l.filter fun x => !p x).map evS)) := by
 have hlm : (l.map evS).length = l.length := List.length_map ..
 refine pc_of tt_ok tt_follows Tryz.func48 rfl (by kernel_rfl) (by kernel_rfl) (Nat.le_of_ble_eq_true rfl) rfl ?_
 conv => whnf
 refine ⟨.sl 0 1 (l.map evS), by rw [List.take_of_length_le (Nat.le_refl _)]; rfl, noX_S _, ?_⟩
 conv => whnf
 refine ⟨_, indexFS_pc l hl f cp p hp, ?_⟩
 conv => whnf
 rcases idxI_cases p l with ⟨hx, hall⟩ | ⟨i, hx, hil, hpi, hbf⟩
 ·rw [hx]
  refine ⟨fun _ => ?_, (fun h => by cases h)⟩
  conv => whnf
  refine ⟨.xo 1 (l.map evS), by rw [List.take_of_length_le (Nat.le_refl _)], ?_⟩
  conv => whnf
  show PV.xo 1 (l.map evS) = _
  rw [List.filter_eq_self.2 (fun x hx => by rw [hall x hx]; rfl)]
 rw [hx]
 refine ⟨fun h => ?_, fun _ => ?_⟩
 ·exfalso
  have : (i : Int) = -1 := eq_of_beq h
  omega
 conv => whnf
 have h0 : DelI p l (i + 1, l) := by
  have e : lft p l (i + 1) = l.take i := by rw [lft_succ p l i hil, if_pos hpi, lft_all p l i (by omega) hbf]
  refine ⟨hil, rfl, ?_, rfl, ?_⟩
  ·show List.take (lft p l (i + 1)).length l = lft p l (i + 1)
   rw [e, List.length_take, Nat.min_eq_left (by omega)]
  ·show (lft p l (i + 1)).length < i + 1
   rw [e, List.length_take]; omega
 have hi0 : (lft p l (i + 1)).length = i := by rw [lft_succ p l i hil, if_pos hpi, lft_all p l i (by omega) hbf, List.length_take]; omega
 refine ⟨Nat × List ByteArray, DelI p l, fun x => [(15, .s (.int .i64 (lft p l x.1).length)), (18, .s (.int .i64 x.1)), (1, .rw 0 1 (x.2.map evS))], [0, 3], fun x => l.length - x.1, (i + 1, l), h0, ?_, fun x hx => ?_⟩
 ·refine ⟨⟨?_, trivial, incI hil (by omega), trivial, rfl, Nat.one_pos, trivial⟩, ?_⟩
  ·show PV.s (.int .i64 (i : Int)) = PV.s (.int .i64 (((lft p l (i + 1)).length : Nat) : Int))
   rw [hi0]
  ·repeat' (first | exact trivial | refine ⟨?_, ?_⟩ | (((conv => lhs; whnf) <;> (try (conv => rhs; whnf))) <;> exact rfl))
 conv => whnf
 constructor
 ·intro h
  have hj : x.1 < l.length := ltm h
  have hlt := hx.lt
  have hxl := hx.len
  conv => whnf
  refine ⟨by rw [lenV_eq, hlm]; omega, ?_⟩
  conv => whnf
  refine ⟨evS l[x.1], ?_, ?_⟩
  ·rw [show 0 + ((x.1 : Int)).toNat = x.1 by omega, List.getElem?_map, hx.get hj]; rfl
  conv => whnf
  refine ⟨_, hp _, ?_⟩
  conv => whnf
  constructor
  ·intro hq
   have hq : p l[x.1] = false := Eq.mp (Bool.not_eq_true' _) hq
   obtain ⟨k1, k2⟩ := hx.put hj hq
   conv => whnf
   refine ⟨by rw [lenV_eq, hlm]; omega, ?_⟩
   conv => whnf
   refine ⟨evS (x.2[(lft p l x.1).length]'(by omega)), ?_, ?_⟩
   ·rw [show 0 + (((lft p l x.1).length : Int)).toNat = (lft p l x.1).length by omega, List.getElem?_map, List.getElem?_eq_getElem (by omega)]; rfl
   conv => whnf
   refine ⟨.rw 0 1 ((x.2.set (lft p l x.1).length l[x.1]).map evS), ?_, ?_⟩
   ·rw [List.map_set, show 0 + (((lft p l x.1).length : Int)).toNat = (lft p l x.1).length by omega]; rfl
   conv => whnf
   refine ⟨(x.1 + 1, x.2.set (lft p l x.1).length l[x.1]), k1, less1 hj, ⟨⟨?_, trivial, incI hj (by omega), trivial, rfl, Nat.one_pos, trivial⟩, ?_⟩⟩
   ·show PV.s (.int .i64 (IntKind.wrap .i64 (((lft p l x.1).length : Int) + 1))) = PV.s (.int .i64 (((lft p l (x.1 + 1)).length : Nat) : Int))
    rw [k2, wrapI (by omega)]; rfl
   ·repeat' (first | exact trivial | refine ⟨?_, ?_⟩ | (((conv => lhs; whnf) <;> (try (conv => rhs; whnf))) <;> exact rfl))
  ·intro hq
   have hq : p l[x.1] = true := by simpa using hq
   conv => whnf
   refine ⟨(x.1 + 1, x.2), hx.skip hj hq, less1 hj, ⟨⟨?_, trivial, incI hj (by omega), trivial, rfl, Nat.one_pos, trivial⟩, ?_⟩⟩
   ·show PV.s (.int .i64 ((lft p l x.1).length : Int)) = PV.s (.int .i64 (((lft p l (x.1 + 1)).length : Nat) : Int))
    rw [lft_succ p l x.1 hj, if_pos hq]
   ·repeat' (first | exact trivial | refine ⟨?_, ?_⟩ | (((conv => lhs; whnf) <;> (try (conv => rhs; whnf))) <;> exact rfl))
 ·intro h
  have hge : x.1 = l.length := gem h hx.le
  have hlt := hx.lt
  have hxl := hx.len
  have hf : lft p l x.1 = l.filter fun x => !p x := by rw [hge]; unfold lft; rw [List.take_of_length_le (Nat.le_refl _)]
  have htk := hx.tk
  conv => whnf
  refine ⟨by rw [lenV_eq, hlm]; omega, ?_⟩
  conv => whnf
  refine ⟨by rw [lenV_eq, hlm, List.length_map]; omega, ?_⟩
  conv => whnf
  refine ⟨.rw 0 1 (spliceE (x.2.map evS) (lft p l x.1).length (List.replicate (l.length - (lft p l x.1).length) (zeroE ⟨.str, 1, 16, [.string ⟨#[]⟩]⟩))), ?_, ?_⟩
  ·rw [lenV_eq, lenV_eq, hlm, show 0 + (((lft p l x.1).length : Int)).toNat = (lft p l x.1).length by omega, show 0 + ((l.length - 0 : Nat) : Int).toNat = l.length by omega]
  conv => whnf
  refine ⟨by rw [lenV_eq, hlm]; omega, ?_⟩
  conv => whnf
  refine ⟨.xo 1 ((l.filter fun x => !p x).map evS), ?_, ?_⟩
  ·rw [show 0 + (((lft p l x.1).length : Int)).toNat = (lft p l x.1).length by omega, spl_take (by rw [List.length_map]; omega), ← List.map_take, htk, hf]
  (conv => whnf) <;> try rfl
def eqS (a b : ByteArray) : Bool := a.toList == b.toList
theorem eqS_iff {a b : ByteArray} : eqS a b = true ↔ a = b := by
 unfold eqS
 rw [beq_iff_eq]
 exact ⟨bytesEv_eq, fun h => by rw [h]⟩
def eqB {α : Type} (e : α → α → Bool) : List α → List α → Bool
 | [], [] => true
 | a :: l, b :: m => e a b && eqB e l m
 | _, _ => false
theorem eqB_iff {α : Type} {e : α → α → Bool} (he : ∀ a b, e a b = true ↔ a = b) : ∀ {l m : List α}, eqB e l m = true ↔ l = m
 | [], [] => by simp [eqB]
 | a :: l, b :: m => by
  unfold eqB
  rw [Bool.and_eq_true, he, eqB_iff he]
  simp
 | [], _ :: _ => by simp [eqB]
 | _ :: _, [] => by simp [eqB]
theorem eqB_len {α : Type} {e : α → α → Bool} (he : ∀ a b, e a b = true ↔ a = b) {l m : List α} (h : l.length ≠ m.length) : eqB e l m = false := by
 cases hq : eqB e l m
 ·rfl
 ·exact absurd (congrArg List.length ((eqB_iff he).1 hq)) h
theorem eqB_false {α : Type} {e : α → α → Bool} (he : ∀ a b, e a b = true ↔ a = b) {l m : List α} (i : Nat) (h1 : i < l.length) (h2 : i < m.length) (h : e l[i] m[i] = false) : eqB e l m = false := by
 cases hq : eqB e l m
 ·rfl
 ·have := (eqB_iff he).1 hq
  subst this
  rw [(he _ _).2 rfl] at h
  cases h
theorem eqB_all {α : Type} {e : α → α → Bool} (he : ∀ a b, e a b = true ↔ a = b) {l m : List α} (hlm : l.length = m.length) (h : ∀ i (h1 : i < l.length) (h2 : i < m.length), e l[i] m[i] = true) : eqB e l m = true :=
 (eqB_iff he).2 (List.ext_getElem hlm fun i h1 h2 => (he _ _).1 (h i h1 h2))
theorem equalS_pc (l m : List ByteArray) (hl : l.length ≤ 1000000) : PC 55 [.sl 0 1 (l.map evS), .sl 0 1 (m.map evS)] (.s (.bool (eqB eqS l m))) := by
 refine pc_of tt_ok tt_follows Tryz.func55 rfl (by kernel_rfl) (by kernel_rfl) (Nat.le_of_ble_eq_true rfl) rfl ?_
 conv => whnf
 constructor
 ·intro h
  have hne : l.length ≠ m.length := by have : ¬ (l.length : Int) = m.length := by simpa using h
                                       omega
  conv => whnf
  rw [eqB_len (fun _ _ => eqS_iff) hne]; rfl
 ·intro h
  have hlm : l.length = m.length := by have : (l.length : Int) = m.length := by simpa using h
                                       omega
  conv => whnf
  refine ⟨Nat, fun i => i ≤ l.length ∧ ∀ j (h1 : j < l.length) (h2 : j < m.length), j < i → eqS l[j] m[j] = true, fun i => [(39, .s (.int .i64 i))], [0, 3, 36], fun i => l.length - i, 0, ⟨Nat.zero_le _, fun j _ _ h => absurd h (Nat.not_lt_zero _)⟩, ?_, fun i hi => ?_⟩
  ·refine ⟨⟨rfl, trivial, trivial⟩, ?_⟩
   repeat' (first | exact trivial | refine ⟨?_, ?_⟩ | (((conv => lhs; whnf) <;> (try (conv => rhs; whnf))) <;> exact rfl))
  ·obtain ⟨h1, h2⟩ := hi
   conv => whnf
   constructor
   ·intro h
    have hil := ltm h
    have him : i < m.length := by omega
    conv => whnf
    refine ⟨_, idx_map evS l i hil, ?_⟩
    conv => whnf
    refine ⟨_, idx_map evS m i him, ?_⟩
    conv => whnf
    refine ⟨by kernel_rfl, ?_⟩
    conv => whnf
    constructor
    ·intro hq
     have hq' : eqS l[i] m[i] = false := by have : (!eqS l[i] m[i]) = true := hq; simpa using this
     conv => whnf
     rw [eqB_false (fun _ _ => eqS_iff) i hil him hq']; rfl
    ·intro hq
     have hq' : eqS l[i] m[i] = true := by have : (!eqS l[i] m[i]) = false := hq; simpa using this
     conv => whnf
     refine ⟨i + 1, ⟨by omega, fun j g1 g2 g3 => ?_⟩, less1 hil, ⟨⟨incI hil (by omega), trivial, trivial⟩, ?_⟩⟩
     ·by_cases hji : j < i
      ·exact h2 j g1 g2 hji
      ·obtain rfl : j = i := by omega
       exact hq'
     ·repeat' (first | exact trivial | refine ⟨?_, ?_⟩ | (((conv => lhs; whnf) <;> (try (conv => rhs; whnf))) <;> exact rfl))
   ·intro h
    have hil := gem h h1
    conv => whnf
    rw [eqB_all (fun _ _ => eqS_iff) hlm (fun j g1 g2 => h2 j g1 g2 (by omega))]; rfl
def eqR (a b : RW) : Bool := eqS a.p b.p && eqB eqS a.v b.v
theorem eqR_iff (a b : RW) : eqR a b = true ↔ a = b := by
 unfold eqR
 rw [Bool.and_eq_true, eqS_iff, eqB_iff (fun _ _ => eqS_iff)]
 cases a; cases b; simp
theorem sameF_pc (a b : RW) (hl : a.v.length ≤ 1000000) : PC 54 [evRw a, evRw b] (.s (.bool (eqR a b))) := by
 refine pc_of tt_ok tt_follows Tryz.func54 rfl (by kernel_rfl) (by kernel_rfl) (Nat.le_of_ble_eq_true rfl) rfl ?_
 conv => whnf
 have e : eqR a b = (eqS a.p b.p && eqB eqS a.v b.v) := rfl
 constructor
 ·intro h
  have h : eqS a.p b.p = true := h
  conv => whnf
  refine ⟨_, equalS_pc a.v b.v hl, ?_⟩
  conv => whnf
  conv => whnf
  rw [e, h]; rfl
 ·intro h
  have h : eqS a.p b.p = false := h
  conv => whnf
  rw [e, h]; rfl
theorem equalFR_pc (l m : List RW) (hl : l.length ≤ 1000000) (hv : ∀ r ∈ l, r.v.length ≤ 1000000) : PC 53 [.sl 0 2 (l.map evRw), .sl 0 2 (m.map evRw), .s (.func (.func 54) #[] #[])] (.s (.bool (eqB eqR l m))) := by
 refine pc_of tt_ok tt_follows Tryz.func53 rfl (by kernel_rfl) (by kernel_rfl) (Nat.le_of_ble_eq_true rfl) rfl ?_
 conv => whnf
 constructor
 ·intro h
  have hne : l.length ≠ m.length := by have : ¬ (l.length : Int) = m.length := by simpa using h
                                       omega
  conv => whnf
  rw [eqB_len eqR_iff hne]; rfl
 ·intro h
  have hlm : l.length = m.length := by have : (l.length : Int) = m.length := by simpa using h
                                       omega
  conv => whnf
  refine ⟨Nat, fun i => i ≤ l.length ∧ ∀ j (h1 : j < l.length) (h2 : j < m.length), j < i → eqR l[j] m[j] = true, fun i => [(51, .s (.int .i64 i))], [3, 6, 45, 48], fun i => l.length - i, 0, ⟨Nat.zero_le _, fun j _ _ h => absurd h (Nat.not_lt_zero _)⟩, ?_, fun i hi => ?_⟩
  ·refine ⟨⟨rfl, trivial, trivial⟩, ?_⟩
   repeat' (first | exact trivial | refine ⟨?_, ?_⟩ | (((conv => lhs; whnf) <;> (try (conv => rhs; whnf))) <;> exact rfl))
  ·obtain ⟨h1, h2⟩ := hi
   conv => whnf
   constructor
   ·intro h
    have hil := ltm h
    have him : i < m.length := by omega
    conv => whnf
    refine ⟨_, idx_map evRw l i hil, ?_⟩
    conv => whnf
    refine ⟨_, idx_map evRw m i him, ?_⟩
    conv => whnf
    refine ⟨_, sameF_pc l[i] m[i] (hv _ (List.getElem_mem hil)), ?_⟩
    conv => whnf
    constructor
    ·intro hq
     have hq' : eqR l[i] m[i] = false := by have : (!eqR l[i] m[i]) = true := hq; simpa using this
     conv => whnf
     rw [eqB_false eqR_iff i hil him hq']; rfl
    ·intro hq
     have hq' : eqR l[i] m[i] = true := by have : (!eqR l[i] m[i]) = false := hq; simpa using this
     conv => whnf
     refine ⟨i + 1, ⟨by omega, fun j g1 g2 g3 => ?_⟩, less1 hil, ⟨⟨incI hil (by omega), trivial, trivial⟩, ?_⟩⟩
     ·by_cases hji : j < i
      ·exact h2 j g1 g2 hji
      ·obtain rfl : j = i := by omega
       exact hq'
     ·repeat' (first | exact trivial | refine ⟨?_, ?_⟩ | (((conv => lhs; whnf) <;> (try (conv => rhs; whnf))) <;> exact rfl))
   ·intro h
    have hil := gem h h1
    conv => whnf
    rw [eqB_all eqR_iff hlm (fun j g1 g2 => h2 j g1 g2 (by omega))]; rfl
theorem tsame_pc (l m : List RW) (hl : l.length ≤ 1000000) (hv : ∀ r ∈ l, r.v.length ≤ 1000000) : PC 28 [.sl 0 2 (l.map evRw), .sl 0 2 (m.map evRw)] (.s (.bool (eqB eqR l m))) := by
 refine pc_of tt_ok tt_follows Tryz.func28 rfl (by kernel_rfl) (by kernel_rfl) (Nat.le_of_ble_eq_true rfl) rfl ?_
 conv => whnf
 refine ⟨_, equalFR_pc l m hl hv, ?_⟩
 conv => whnf
end Go.Proofs.YtffjkbbmnfnbaaaGreatDoor.Q
end
section
namespace Go.Proofs
open Go.Shelf
set_option maxRecDepth 100000
def Tryz.lays119_ren : Go.Shelf.Ren := ⟨fun | 119 => 145 | n => n, fun | 21 => 21 | 4 => 4 | n => n, fun | n => n⟩
theorem Tryz.lays119 : Go.Proofs.Lays.n119 Tryz.prog Tryz.lays119_ren := {
 mixed := by kernel_rfl
 f119 := Tryz.func145.trans (congrArg some (by kernel_rfl))
 t4 := Tryz.underlying4
 a4 := Tryz.isAgg4
 z4 := Tryz.sizeOf4
 v4 := Tryz.zeroValue4
 t21 := Tryz.underlying21
 a21 := Tryz.isAgg21
 z21 := Tryz.sizeOf21
 v21 := Tryz.zeroValue21 }
theorem Tryz.utf8_ValidRune (r : Int) (w : World) :
 Calls Tryz.prog 145 #[.int .i32 r] w fun e w' => e = .returned (.bool (Lib.validRune r)) ∧ w' = w := Any.utf8_ValidRune Tryz.lays119 r w
def Tryz.lays137_ren : Go.Shelf.Ren := ⟨fun | 137 => 144 | 217 => 131 | 266 => 142 | n => n, fun | 9 => 9 | 5 => 5 | 3 => 3 | n => n, fun | n => n⟩
theorem Tryz.lays137 : Go.Proofs.Lays.n137 Tryz.prog Tryz.lays137_ren := {
 mixed := by kernel_rfl
 f137 := Tryz.func144.trans (congrArg some (by kernel_rfl))
 f217 := Tryz.func131.trans (congrArg some (by kernel_rfl))
 f266 := Tryz.func142.trans (congrArg some (by kernel_rfl))
 t3 := Tryz.underlying3
 a3 := Tryz.isAgg3
 z3 := Tryz.sizeOf3
 v3 := Tryz.zeroValue3
 t5 := Tryz.underlying5
 a5 := Tryz.isAgg5
 z5 := Tryz.sizeOf5
 v5 := Tryz.zeroValue5
 t9 := Tryz.underlying9
 a9 := Tryz.isAgg9
 z9 := Tryz.sizeOf9
 v9 := Tryz.zeroValue9 }
open Go.RowKit in
theorem Tryz.strings_IndexByte (s : ByteArray) (c : Int) (w : World) :
 Calls Tryz.prog 144 #[.string s, .int .u8 c] w fun e w' => e = .returned (.int .i64 (Lib.indexByte s.data.toList c.toNat.toUInt8)) ∧ w' = w := Any.strings_IndexByte Tryz.lays137 s c w
def Tryz.lays219_ren : Go.Shelf.Ren := ⟨fun | 219 => 124 | 217 => 131 | 225 => 132 | 224 => 133 | 267 => 134 | 266 => 142 | 314 => 143 | n => n, fun | 9 => 9 | 3 => 3 | 4 => 4 | 5 => 5 | 46 => 89 | 146 => 151 | 51 => 114 | n => n, fun | 1 => 0 | n => n⟩
theorem Tryz.lays219 : Go.Proofs.Lays.n219 Tryz.prog Tryz.lays219_ren := {
 mixed := by kernel_rfl
 f217 := Tryz.func131.trans (congrArg some (by kernel_rfl))
 f219 := Tryz.func124.trans (congrArg some (by kernel_rfl))
 f224 := Tryz.func133.trans (congrArg some (by kernel_rfl))
 f225 := Tryz.func132.trans (congrArg some (by kernel_rfl))
 f266 := Tryz.func142.trans (congrArg some (by kernel_rfl))
 f267 := Tryz.func134.trans (congrArg some (by kernel_rfl))
 f314 := Tryz.func143.trans (congrArg some (by kernel_rfl))
 t3 := Tryz.underlying3
 a3 := Tryz.isAgg3
 z3 := Tryz.sizeOf3
 v3 := Tryz.zeroValue3
 t4 := Tryz.underlying4
 a4 := Tryz.isAgg4
 z4 := Tryz.sizeOf4
 v4 := Tryz.zeroValue4
 t5 := Tryz.underlying5
 a5 := Tryz.isAgg5
 z5 := Tryz.sizeOf5
 v5 := Tryz.zeroValue5
 t9 := Tryz.underlying9
 a9 := Tryz.isAgg9
 z9 := Tryz.sizeOf9
 v9 := Tryz.zeroValue9
 t46 := Tryz.underlying89
 a46 := Tryz.isAgg89
 z46 := Tryz.sizeOf89
 v46 := Tryz.zeroValue89
 t51 := Tryz.underlying114
 a51 := Tryz.isAgg114
 z51 := Tryz.sizeOf114
 v51 := Tryz.zeroValue114
 t146 := Tryz.underlying151
 a146 := Tryz.isAgg151
 z146 := Tryz.sizeOf151
 v146 := Tryz.zeroValue151
 g1 := by kernel_rfl }
open Go.RowKit Go.Lib in
theorem Tryz.stringslite_Index_one (s : ByteArray) (c : UInt8) (w : World) :
 Calls Tryz.prog 124 #[.string s, .string ⟨#[c]⟩] w fun e w' => e = .returned (.int .i64 (Lib.indexByte s.data.toList c)) ∧ w' = w := Any.stringslite_Index_one Tryz.lays219 s c w
def Tryz.lays143_ren : Go.Shelf.Ren := ⟨fun | 143 => 130 | 219 => 124 | 217 => 131 | 225 => 132 | 224 => 133 | 267 => 134 | 266 => 142 | 314 => 143 | n => n, fun | 9 => 9 | 3 => 3 | 4 => 4 | 5 => 5 | 46 => 89 | 146 => 151 | 51 => 114 | n => n, fun | 1 => 0 | n => n⟩
theorem Tryz.lays143 : Go.Proofs.Lays.n143 Tryz.prog Tryz.lays143_ren := {
 mixed := by kernel_rfl
 f143 := Tryz.func130.trans (congrArg some (by kernel_rfl))
 f217 := Tryz.func131.trans (congrArg some (by kernel_rfl))
 f219 := Tryz.func124.trans (congrArg some (by kernel_rfl))
 f224 := Tryz.func133.trans (congrArg some (by kernel_rfl))
 f225 := Tryz.func132.trans (congrArg some (by kernel_rfl))
 f266 := Tryz.func142.trans (congrArg some (by kernel_rfl))
 f267 := Tryz.func134.trans (congrArg some (by kernel_rfl))
 f314 := Tryz.func143.trans (congrArg some (by kernel_rfl))
 t3 := Tryz.underlying3
 a3 := Tryz.isAgg3
 z3 := Tryz.sizeOf3
 v3 := Tryz.zeroValue3
 t4 := Tryz.underlying4
 a4 := Tryz.isAgg4
 z4 := Tryz.sizeOf4
 v4 := Tryz.zeroValue4
 t5 := Tryz.underlying5
 a5 := Tryz.isAgg5
 z5 := Tryz.sizeOf5
 v5 := Tryz.zeroValue5
 t9 := Tryz.underlying9
 a9 := Tryz.isAgg9
 z9 := Tryz.sizeOf9
 v9 := Tryz.zeroValue9
 t46 := Tryz.underlying89
 a46 := Tryz.isAgg89
 z46 := Tryz.sizeOf89
 v46 := Tryz.zeroValue89
 t51 := Tryz.underlying114
 a51 := Tryz.isAgg114
 z51 := Tryz.sizeOf114
 v51 := Tryz.zeroValue114
 t146 := Tryz.underlying151
 a146 := Tryz.isAgg151
 z146 := Tryz.sizeOf151
 v146 := Tryz.zeroValue151
 g1 := by kernel_rfl }
open Go.RowKit Go.Lib in
theorem Tryz.strings_Index_one (s : ByteArray) (c : UInt8) (w : World) :
 Calls Tryz.prog 130 #[.string s, .string ⟨#[c]⟩] w fun e w' => e = .returned (.int .i64 (Lib.indexByte s.data.toList c)) ∧ w' = w := Any.strings_Index_one Tryz.lays143 s c w
def Tryz.lays138_ren : Go.Shelf.Ren := ⟨fun | 138 => 129 | 195 => 139 | 218 => 141 | 143 => 130 | 219 => 124 | 217 => 131 | 225 => 132 | 224 => 133 | 267 => 134 | 266 => 142 | 314 => 143 | n => n, fun | 9 => 9 | 3 => 3 | 4 => 4 | 5 => 5 | 0 => 0 | 46 => 89 | 146 => 151 | 51 => 114 | n => n, fun | 1 => 0 | n => n⟩
theorem Tryz.lays138 : Go.Proofs.Lays.n138 Tryz.prog Tryz.lays138_ren := {
 mixed := by kernel_rfl
 f138 := Tryz.func129.trans (congrArg some (by kernel_rfl))
 f143 := Tryz.func130.trans (congrArg some (by kernel_rfl))
 f195 := Tryz.func139.trans (congrArg some (by kernel_rfl))
 f217 := Tryz.func131.trans (congrArg some (by kernel_rfl))
 f218 := Tryz.func141.trans (congrArg some (by kernel_rfl))
 f219 := Tryz.func124.trans (congrArg some (by kernel_rfl))
 f224 := Tryz.func133.trans (congrArg some (by kernel_rfl))
 f225 := Tryz.func132.trans (congrArg some (by kernel_rfl))
 f266 := Tryz.func142.trans (congrArg some (by kernel_rfl))
 f267 := Tryz.func134.trans (congrArg some (by kernel_rfl))
 f314 := Tryz.func143.trans (congrArg some (by kernel_rfl))
 t0 := Tryz.underlying0
 a0 := Tryz.isAgg0
 z0 := Tryz.sizeOf0
 v0 := Tryz.zeroValue0
 t3 := Tryz.underlying3
 a3 := Tryz.isAgg3
 z3 := Tryz.sizeOf3
 v3 := Tryz.zeroValue3
 t4 := Tryz.underlying4
 a4 := Tryz.isAgg4
 z4 := Tryz.sizeOf4
 v4 := Tryz.zeroValue4
 t5 := Tryz.underlying5
 a5 := Tryz.isAgg5
 z5 := Tryz.sizeOf5
 v5 := Tryz.zeroValue5
 t9 := Tryz.underlying9
 a9 := Tryz.isAgg9
 z9 := Tryz.sizeOf9
 v9 := Tryz.zeroValue9
 t46 := Tryz.underlying89
 a46 := Tryz.isAgg89
 z46 := Tryz.sizeOf89
 v46 := Tryz.zeroValue89
 t51 := Tryz.underlying114
 a51 := Tryz.isAgg114
 z51 := Tryz.sizeOf114
 v51 := Tryz.zeroValue114
 t146 := Tryz.underlying151
 a146 := Tryz.isAgg151
 z146 := Tryz.sizeOf151
 v146 := Tryz.zeroValue151
 g1 := by kernel_rfl }
open Go.RowKit Go.Lib in
theorem Tryz.strings_Count_one (s : ByteArray) (c : UInt8) (w : World) :
 Calls Tryz.prog 129 #[.string s, .string ⟨#[c]⟩] w fun e w' => e = .returned (.int .i64 (Lib.countByte s.data.toList c)) ∧ w' = w := Any.strings_Count_one Tryz.lays138 s c w
def Tryz.lays99_ren : Go.Shelf.Ren := ⟨fun | 99 => 92 | 206 => 113 | n => n, fun | 9 => 9 | 4 => 4 | 3 => 3 | n => n, fun | n => n⟩
theorem Tryz.lays99 : Go.Proofs.Lays.n99 Tryz.prog Tryz.lays99_ren := {
 mixed := by kernel_rfl
 f99 := Tryz.func92.trans (congrArg some (by kernel_rfl))
 f206 := Tryz.func113.trans (congrArg some (by kernel_rfl))
 t3 := Tryz.underlying3
 a3 := Tryz.isAgg3
 z3 := Tryz.sizeOf3
 v3 := Tryz.zeroValue3
 t4 := Tryz.underlying4
 a4 := Tryz.isAgg4
 z4 := Tryz.sizeOf4
 v4 := Tryz.zeroValue4
 t9 := Tryz.underlying9
 a9 := Tryz.isAgg9
 z9 := Tryz.sizeOf9
 v9 := Tryz.zeroValue9 }
open Go.RowKit Go.Lib in
theorem Tryz.strings_HasPrefix (s p : ByteArray) (w : World) :
 Calls Tryz.prog 92 #[.string s, .string p] w fun e w' => e = .returned (.bool (Lib.hasPrefix s.data.toList p.data.toList)) ∧ w' = w := Any.strings_HasPrefix Tryz.lays99 s p w
def Tryz.lays221_ren : Go.Shelf.Ren := ⟨fun | 221 => 122 | 268 => 128 | 138 => 129 | 143 => 130 | 195 => 139 | 197 => 140 | 218 => 141 | 219 => 124 | 260 => 146 | 217 => 131 | 225 => 132 | 224 => 133 | 267 => 134 | 266 => 142 | 314 => 143 | n => n, fun | 9 => 9 | 3 => 3 | 31 => 56 | 4 => 4 | 0 => 0 | 105 => 149 | 21 => 21 | 5 => 5 | 46 => 89 | 119 => 155 | 139 => 158 | 138 => 157 | 146 => 151 | 51 => 114 | n => n, fun | 1 => 0 | 3 => 1 | 4 => 2 | n => n⟩
theorem Tryz.lays221 : Go.Proofs.Lays.n221 Tryz.prog Tryz.lays221_ren := {
 mixed := by kernel_rfl
 f138 := Tryz.func129.trans (congrArg some (by kernel_rfl))
 f143 := Tryz.func130.trans (congrArg some (by kernel_rfl))
 f195 := Tryz.func139.trans (congrArg some (by kernel_rfl))
 f197 := Tryz.func140.trans (congrArg some (by kernel_rfl))
 f217 := Tryz.func131.trans (congrArg some (by kernel_rfl))
 f218 := Tryz.func141.trans (congrArg some (by kernel_rfl))
 f219 := Tryz.func124.trans (congrArg some (by kernel_rfl))
 f221 := Tryz.func122.trans (congrArg some (by kernel_rfl))
 f224 := Tryz.func133.trans (congrArg some (by kernel_rfl))
 f225 := Tryz.func132.trans (congrArg some (by kernel_rfl))
 f260 := Tryz.func146.trans (congrArg some (by kernel_rfl))
 f266 := Tryz.func142.trans (congrArg some (by kernel_rfl))
 f267 := Tryz.func134.trans (congrArg some (by kernel_rfl))
 f268 := Tryz.func128.trans (congrArg some (by kernel_rfl))
 f314 := Tryz.func143.trans (congrArg some (by kernel_rfl))
 t0 := Tryz.underlying0
 a0 := Tryz.isAgg0
 z0 := Tryz.sizeOf0
 v0 := Tryz.zeroValue0
 t3 := Tryz.underlying3
 a3 := Tryz.isAgg3
 z3 := Tryz.sizeOf3
 v3 := Tryz.zeroValue3
 t4 := Tryz.underlying4
 a4 := Tryz.isAgg4
 z4 := Tryz.sizeOf4
 v4 := Tryz.zeroValue4
 t5 := Tryz.underlying5
 a5 := Tryz.isAgg5
 z5 := Tryz.sizeOf5
 v5 := Tryz.zeroValue5
 t9 := Tryz.underlying9
 a9 := Tryz.isAgg9
 z9 := Tryz.sizeOf9
 v9 := Tryz.zeroValue9
 t21 := Tryz.underlying21
 a21 := Tryz.isAgg21
 z21 := Tryz.sizeOf21
 v21 := Tryz.zeroValue21
 t31 := Tryz.underlying56
 a31 := Tryz.isAgg56
 z31 := Tryz.sizeOf56
 v31 := Tryz.zeroValue56
 t46 := Tryz.underlying89
 a46 := Tryz.isAgg89
 z46 := Tryz.sizeOf89
 v46 := Tryz.zeroValue89
 t51 := Tryz.underlying114
 a51 := Tryz.isAgg114
 z51 := Tryz.sizeOf114
 v51 := Tryz.zeroValue114
 t105 := Tryz.underlying149
 a105 := Tryz.isAgg149
 z105 := Tryz.sizeOf149
 v105 := Tryz.zeroValue149
 t119 := Tryz.underlying155
 a119 := Tryz.isAgg155
 z119 := Tryz.sizeOf155
 t138 := Tryz.underlying157
 a138 := Tryz.isAgg157
 z138 := Tryz.sizeOf157
 v138 := Tryz.zeroValue157
 t139 := Tryz.underlying158
 a139 := Tryz.isAgg158
 z139 := Tryz.sizeOf158
 v139 := Tryz.zeroValue158
 t146 := Tryz.underlying151
 a146 := Tryz.isAgg151
 z146 := Tryz.sizeOf151
 v146 := Tryz.zeroValue151
 g1 := by kernel_rfl
 g3 := by kernel_rfl
 g4 := by kernel_rfl }
def Tryz.lays152_ren : Go.Shelf.Ren := ⟨fun | 152 => 135 | 137 => 144 | 119 => 145 | 224 => 133 | 225 => 132 | 217 => 131 | 266 => 142 | n => n, fun | 9 => 9 | 21 => 21 | 3 => 3 | 4 => 4 | 5 => 5 | 0 => 0 | 46 => 89 | n => n, fun | n => n⟩
theorem Tryz.lays152 : Go.Proofs.Lays.n152 Tryz.prog Tryz.lays152_ren := {
 mixed := by kernel_rfl
 f119 := Tryz.func145.trans (congrArg some (by kernel_rfl))
 f137 := Tryz.func144.trans (congrArg some (by kernel_rfl))
 f152 := Tryz.func135.trans (congrArg some (by kernel_rfl))
 f217 := Tryz.func131.trans (congrArg some (by kernel_rfl))
 f224 := Tryz.func133.trans (congrArg some (by kernel_rfl))
 f225 := Tryz.func132.trans (congrArg some (by kernel_rfl))
 f266 := Tryz.func142.trans (congrArg some (by kernel_rfl))
 t0 := Tryz.underlying0
 a0 := Tryz.isAgg0
 z0 := Tryz.sizeOf0
 v0 := Tryz.zeroValue0
 t3 := Tryz.underlying3
 a3 := Tryz.isAgg3
 z3 := Tryz.sizeOf3
 v3 := Tryz.zeroValue3
 t4 := Tryz.underlying4
 a4 := Tryz.isAgg4
 z4 := Tryz.sizeOf4
 v4 := Tryz.zeroValue4
 t5 := Tryz.underlying5
 a5 := Tryz.isAgg5
 z5 := Tryz.sizeOf5
 v5 := Tryz.zeroValue5
 t9 := Tryz.underlying9
 a9 := Tryz.isAgg9
 z9 := Tryz.sizeOf9
 v9 := Tryz.zeroValue9
 t21 := Tryz.underlying21
 a21 := Tryz.isAgg21
 z21 := Tryz.sizeOf21
 v21 := Tryz.zeroValue21
 t46 := Tryz.underlying89
 a46 := Tryz.isAgg89
 z46 := Tryz.sizeOf89
 v46 := Tryz.zeroValue89 }
open Go.RowKit Go.Lib in
theorem Tryz.strings_IndexRune_ascii (s : ByteArray) (r : Int) (w : World) (h0 : 0 ≤ r) (h1 : r < 128) :
 Calls Tryz.prog 135 #[.string s, .int .i32 r] w fun e w' => e = .returned (.int .i64 (Lib.indexByte s.data.toList r.toNat.toUInt8)) ∧ w' = w := Any.strings_IndexRune_ascii Tryz.lays152 s r w h0 h1
def Tryz.lays226_ren : Go.Shelf.Ren := ⟨fun | 226 => 136 | n => n, fun | 3 => 3 | 4 => 4 | n => n, fun | n => n⟩
theorem Tryz.lays226 : Go.Proofs.Lays.n226 Tryz.prog Tryz.lays226_ren := {
 mixed := by kernel_rfl
 f226 := Tryz.func136.trans (congrArg some (by kernel_rfl))
 t3 := Tryz.underlying3
 a3 := Tryz.isAgg3
 z3 := Tryz.sizeOf3
 v3 := Tryz.zeroValue3
 t4 := Tryz.underlying4
 a4 := Tryz.isAgg4
 z4 := Tryz.sizeOf4
 v4 := Tryz.zeroValue4 }
open Go.RowKit Go.Lib in
theorem Tryz.strings_shouldUseASCIISet (n : Int) (w : World) :
 Calls Tryz.prog 136 #[.int .i64 n] w fun e w' => e = .returned (.bool (decide (8 < n))) ∧ w' = w := Any.strings_shouldUseASCIISet Tryz.lays226 n w
def Tryz.lays153_ren : Go.Shelf.Ren := ⟨fun | 153 => 126 | 152 => 135 | 226 => 136 | 227 => 137 | 228 => 138 | 137 => 144 | 119 => 145 | 224 => 133 | 225 => 132 | 217 => 131 | 266 => 142 | n => n, fun | 9 => 9 | 3 => 3 | 4 => 4 | 5 => 5 | 21 => 21 | 117 => 145 | 116 => 144 | 0 => 0 | 46 => 89 | 124 => 154 | n => n, fun | n => n⟩
theorem Tryz.lays153 : Go.Proofs.Lays.n153 Tryz.prog Tryz.lays153_ren := {
 mixed := by kernel_rfl
 f119 := Tryz.func145.trans (congrArg some (by kernel_rfl))
 f137 := Tryz.func144.trans (congrArg some (by kernel_rfl))
 f152 := Tryz.func135.trans (congrArg some (by kernel_rfl))
 f153 := Tryz.func126.trans (congrArg some (by kernel_rfl))
 f217 := Tryz.func131.trans (congrArg some (by kernel_rfl))
 f224 := Tryz.func133.trans (congrArg some (by kernel_rfl))
 f225 := Tryz.func132.trans (congrArg some (by kernel_rfl))
 f226 := Tryz.func136.trans (congrArg some (by kernel_rfl))
 f227 := Tryz.func137.trans (congrArg some (by kernel_rfl))
 f228 := Tryz.func138.trans (congrArg some (by kernel_rfl))
 f266 := Tryz.func142.trans (congrArg some (by kernel_rfl))
 t0 := Tryz.underlying0
 a0 := Tryz.isAgg0
 z0 := Tryz.sizeOf0
 v0 := Tryz.zeroValue0
 t3 := Tryz.underlying3
 a3 := Tryz.isAgg3
 z3 := Tryz.sizeOf3
 v3 := Tryz.zeroValue3
 t4 := Tryz.underlying4
 a4 := Tryz.isAgg4
 z4 := Tryz.sizeOf4
 v4 := Tryz.zeroValue4
 t5 := Tryz.underlying5
 a5 := Tryz.isAgg5
 z5 := Tryz.sizeOf5
 v5 := Tryz.zeroValue5
 t9 := Tryz.underlying9
 a9 := Tryz.isAgg9
 z9 := Tryz.sizeOf9
 v9 := Tryz.zeroValue9
 t21 := Tryz.underlying21
 a21 := Tryz.isAgg21
 z21 := Tryz.sizeOf21
 v21 := Tryz.zeroValue21
 t46 := Tryz.underlying89
 a46 := Tryz.isAgg89
 z46 := Tryz.sizeOf89
 v46 := Tryz.zeroValue89
 t116 := Tryz.underlying144
 a116 := Tryz.isAgg144
 z116 := Tryz.sizeOf144
 t117 := Tryz.underlying145
 a117 := Tryz.isAgg145
 z117 := Tryz.sizeOf145
 v117 := Tryz.zeroValue145
 t124 := Tryz.underlying154
 a124 := Tryz.isAgg154
 z124 := Tryz.sizeOf154
 v124 := Tryz.zeroValue154 }
open Go.RowKit Go.Lib in
theorem Tryz.strings_IndexAny_short (s chars : ByteArray) (w : World) (h2 : 2 ≤ chars.size) (h8 : s.size ≤ 8) (hascii : ∀ (j : Nat) b, s.data.toList[j]? = some b → b.toNat < 128) :
 Calls Tryz.prog 126 #[.string s, .string chars] w fun e w' => e = .returned (.int .i64 (Lib.indexAny s.data.toList chars.data.toList)) ∧ ∃ pos, w' = w.iter s pos := Any.strings_IndexAny_short Tryz.lays153 s chars w h2 h8 hascii
open Go.RowKit Go.Lib in
theorem Tryz.strings_IndexAny_long (hv116 : ∀ w, (zeroValue 144).run Tryz.prog w = .ok (.agg (Array.replicate 256 (.bool false))) w) (s chars : ByteArray) (w : World) (h2 : 2 ≤ chars.size) (h8 : 8 < s.size) (hs : s.size < 4294967281) (hcs : chars.size < 4294967281) (hascii : ∀ (j : Nat) b, chars.data.toList[j]? = some b → b.toNat < 128) :
 Calls Tryz.prog 126 #[.string s, .string chars] w fun e w' => e = .returned (.int .i64 (Lib.indexAny s.data.toList chars.data.toList)) ∧ w' = ((w.alloc (.cells (Lib.setCells chars.data.toList) 144)).alloc (.cells (Lib.setCells chars.data.toList) 144)) := Any.strings_IndexAny_long Tryz.lays153 hv116 (by kernel_rfl) s chars w h2 h8 hs hcs hascii
end Go.Proofs
end
section
namespace Go.Proofs.YtffjkbbmnfnbaaaGreatDoor.QB.D
open Go.Proofs.YtffjkbbmnfnbaaaGreatDoor.Q
open Go.RowKit Go.Lib Go.Proofs.YtffjkbbmnfnbaaaGreatDoorW.PrintWords Go.Proofs.YtffjkbbmnfnbaaaGreatDoorW.PrintLast Go.Proofs.YtffjkbbmnfnbaaaGreatDoorW.PrintMore Gw
set_option linter.unusedVariables false
set_option linter.unusedSimpArgs false
abbrev Tiny (s : ByteArray) : Prop := s.size < 4294967281
theorem Tiny.small {s : ByteArray} (h : Tiny s) : Small s := by unfold Tiny at h; unfold Small; omega
theorem parts_no {sep : Nat} : ∀ {l : List Nat}, (∀ c ∈ l, c ≠ sep) → parts sep l = [l]
 | [], _ => rfl
 | c :: r, h => by rw [parts_other (h c List.mem_cons_self) (parts_no fun x hx => h x (List.mem_cons_of_mem _ hx))]
theorem parts_split {sep : Nat} (r : List Nat) : ∀ {l : List Nat}, (∀ c ∈ l, c ≠ sep) → parts sep (l ++ sep :: r) = l :: parts sep r
 | [], _ => by simp [parts_sep]
 | c :: l, h => by
  rw [List.cons_append, parts_other (h c List.mem_cons_self) (parts_split r fun x hx => h x (List.mem_cons_of_mem _ hx))]
def one (c : UInt8) : ByteArray := ⟨#[c]⟩
theorem idx_miss {s : ByteArray} {c : UInt8} (h : indexB s (one c) = -1) : ∀ x ∈ bs s, x ≠ c.toNat := by
 intro x hx
 rw [indexB, show (one c).data.toList = [c] from rfl, index_one] at h
 obtain ⟨u, hu, rfl⟩ := List.mem_map.1 hx
 intro e
 obtain rfl : u = c := UInt8.toNat_inj.1 e
 obtain ⟨k, hk⟩ := List.mem_iff_getElem?.1 hu
 exact indexByte_none h k hk
theorem idx_hit {s : ByteArray} {c : UInt8} {i : Nat} (h : indexB s (one c) = i) : i < s.size ∧ bs s = (bs s).take i ++ c.toNat :: (bs s).drop (i + 1) ∧ ∀ x ∈ (bs s).take i, x ≠ c.toNat := by
 rw [indexB, show (one c).data.toList = [c] from rfl, index_one] at h
 obtain ⟨h1, h2⟩ := indexByte_some h
 have hi : i < s.size := by
  have := (List.getElem?_eq_some_iff.1 h1).1
  rwa [Array.length_toList] at this
 have hg : (bs s)[i]? = some c.toNat := by simp [bs, h1]
 have hlt : i < (bs s).length := by rw [bs_length]; exact hi
 have hge : (bs s)[i] = c.toNat := by rw [List.getElem?_eq_getElem hlt] at hg; exact Option.some.inj hg
 refine ⟨hi, ?_, ?_⟩
 ·have := List.take_append_drop i (bs s)
  rw [List.drop_eq_getElem_cons hlt, hge] at this
  exact this.symm
 ·intro x hx e
  obtain ⟨k, hk⟩ := List.mem_iff_getElem?.1 hx
  rw [List.getElem?_take] at hk
  by_cases hki : k < i
  ·rw [if_pos hki] at hk
   simp only [bs, List.getElem?_map, Option.map_eq_some_iff] at hk
   obtain ⟨u, hu, rfl⟩ := hk
   obtain rfl : u = c := UInt8.toNat_inj.1 e
   exact h2 k hki hu
  ·rw [if_neg hki] at hk; cases hk
theorem split_parts (c : UInt8) : ∀ (k : Nat) (s : ByteArray), countB s (one c) = k → splitB (one c) 0 k s = (parts c.toNat (bs s)).map ofB
 | 0, s, h => by
  have hm : indexB s (one c) = -1 := by
   rcases indexB_cases s (one c) with hm | ⟨i, hi, hr⟩
   ·exact hm
   ·rw [countB_hit s (one c) i (by show 1 ≤ 1; omega) hi] at h; omega
  rw [parts_no (idx_miss hm)]
  simp [splitB_zero, ofB_bs]
 | k + 1, s, h => by
  rcases indexB_cases s (one c) with hm | ⟨i, hi, hr⟩
  ·rw [countB_miss s (one c) hm] at h; omega
  ·rw [countB_hit s (one c) i (by show 1 ≤ 1; omega) hi] at h
   obtain ⟨h1, h2, h3⟩ := idx_hit hi
   rw [splitB_hit (one c) 0 k s i hi, split_parts c k _ (by omega), h2, parts_split _ h3, List.map_cons]
   congr 1
   ·rw [ext_ofB]; rfl
   ·rw [bs_extract, List.take_of_length_le (by rw [bs_length]; exact Nat.le_refl _)]; rfl
theorem string_row (w W : World) (l : List ByteArray) (t : TypeId) (n : Nat) (hn : n = l.length) (hl : l.length ≤ 4294967290) (hW : W = w.alloc (.cells (l.map Value.string).toArray t)) :
 Kd.R Kd.string t W w.heap.size (fun _ => True) (.slice (some ⟨w.heap.size, 0, none⟩) n n) l := by
 subst hn hW
 have hr : Reps (Kd.string.M (w.alloc (.cells (l.map Value.string).toArray t)) w.heap.size (fun _ => True)) 1 l (l.map Value.string) := by
  have := Kd.reps_scalar (enc := Value.string) l
  exact this
 refine ⟨fun k hk => trivial, l.map Value.string, ⟨by simp [Kd.string, Kd.scalar], .inr ⟨w.heap.size, l.length, (l.map Value.string).toArray, rfl, Nat.le_refl _, heap_alloc_last w _, Nat.le_refl _, by unfold maxLen; omega, by simp [Kd.string, Kd.scalar], by rw [show l.length * Kd.string.sz = l.length from by simp [Kd.string, Kd.scalar]]; exact List.take_of_length_le (by simp)⟩⟩, ?_⟩
 exact hr.imp_ fun x c hM => Kd.string.M_mono (fun k hk => hk) hM
theorem genSplit_one (c : UInt8) (s : ByteArray) (hs : Tiny s) (w : World) : Calls Tryz.prog 122 #[.string s, .string (one c), .int .i64 0, .int .i64 (-1)] w fun e w' => e = .returned (.slice (some ⟨w.heap.size, 0, none⟩) (((parts c.toNat (bs s)).map ofB).length) (((parts c.toNat (bs s)).map ofB).length)) ∧ w' = w.alloc (.cells ((((parts c.toNat (bs s)).map ofB).map Value.string).toArray) 9) := by
 have h1 : 1 ≤ (one c).size := by show 1 ≤ 1; omega
 have hle := countB_le (one c) h1 s.size s (Nat.le_refl _)
 have hlen := splitB_all (one c) h1 0 _ s rfl
 have hsp := split_parts c _ s rfl
 have hI : ∀ (x : ByteArray) (d : Array Value), x.size ≤ s.size → Calls Tryz.prog (Tryz.lays221_ren.f 143) #[.string x, .string (one c)] (w.alloc (.cells d (Tryz.lays221_ren.t 9))) fun e w' => e = .returned (.int .i64 (indexB x (one c))) ∧ w' = w.alloc (.cells d (Tryz.lays221_ren.t 9)) := fun x d _ => by
  refine (Tryz.strings_Index_one x c _).mono fun e w' ⟨h, h2⟩ => ⟨?_, h2⟩
  rw [h, indexB, show (one c).data.toList = [c] from rfl, index_one]
 have hC : Calls Tryz.prog (Tryz.lays221_ren.f 138) #[.string s, .string (one c)] w fun e w' => e = .returned (.int .i64 (countB s (one c))) ∧ w' = w := by
  refine (Tryz.strings_Count_one s c w).mono fun e w' ⟨h, h2⟩ => ⟨?_, h2⟩
  rw [h, countB, show (one c).data.toList = [c] from rfl, count_one]; rfl
 have hN : (((countB s (one c) + 1 : Nat)) : Int) = min (if (-1 : Int) < 0 then (countB s (one c) : Int) + 1 else -1) ((s.size : Int) + 1) := by
  rw [if_pos (by decide)]; omega
 refine (Any.strings_genSplit_core Tryz.lays221 (by kernel_rfl) s (one c) 0 (-1) (countB s (one c) + 1) w hs h1 (Nat.zero_le _) hI hC (by decide) (by decide) hN).mono fun e w' ⟨he, hw⟩ => ?_
 rw [Nat.add_sub_cancel] at he hw
 rw [hlen] at he
 rw [hsp] at hw hlen
 rw [hlen]
 refine ⟨he, ?_⟩
 rw [hw]
 have : cellsOf ((parts c.toNat (bs s)).map ofB) (countB s (one c) + 1) = (((parts c.toNat (bs s)).map ofB).map Value.string).toArray := by
  unfold cellsOf
  rw [hlen, Nat.sub_self]; simp
 rw [this]; rfl
def octet_Parts.f (a0 : ByteArray) (a1 : Int) : Option (List ByteArray) := if Tiny a0 ∧ 0 ≤ a1 ∧ a1 < 256 then some ((parts a1.toNat (bs a0)).map ofB) else none
theorem parts_len (s : ByteArray) (sep : Nat) : ((parts sep (bs s)).map ofB).length ≤ s.size + 1 := by
 have h := (parts_le (sep := sep) (bs s)).2
 rw [bs_length] at h; rw [List.length_map]; exact h
set_option maxHeartbeats 1000000 in
theorem Split_one (c : UInt8) (s : ByteArray) (hs : Tiny s) (w : World) : Calls Tryz.prog 107 #[.string s, .string (one c)] w fun e w' => ∃ v, e = .returned v ∧ Kd.R Kd.string 9 w' w.heap.size (fun _ => True) v ((parts c.toNat (bs s)).map ofB) ∧ Below w.heap.size w w' := by
 have hl := parts_len s c.toNat
 have hg := genSplit_one c s hs
 generalize (parts c.toNat (bs s)).map ofB = L at hl hg
 go_enter Tryz.func107, Tryz.ntmps107
 go_wp2_with (go_at_call 122; refine (hg _).mono ?_; rintro e w' ⟨rfl, rfl⟩)
 go_ret
 exact ⟨_, rfl, string_row _ _ _ _ _ rfl (by unfold Tiny at hs; omega) rfl, below_alloc (Below.refl _ _) _⟩
set_option maxHeartbeats 1000000 in
set_option maxRecDepth 100000 in
theorem octet_Parts.calls (a0 : ByteArray) (a1 : Int) (r : List ByteArray) (w : World) (h : octet_Parts.f a0 a1 = some r) : Calls Tryz.prog 84 #[.string a0, .int .u8 a1] w fun e w' => ∃ v, e = .returned v ∧ Kd.R Kd.string 9 w' w.heap.size (fun _ => True) v r ∧ Below w.heap.size w w' := by
 unfold octet_Parts.f at h
 by_cases ha : Tiny a0 ∧ 0 ≤ a1 ∧ a1 < 256
 case neg => rw [if_neg ha] at h; cases h
 rw [if_pos ha] at h
 obtain rfl := Option.some.inj h
 obtain ⟨hs, h0, h1⟩ := ha
 obtain ⟨n, rfl⟩ := Int.eq_ofNat_of_zero_le h0
 obtain ⟨c, hc⟩ : ∃ c : UInt8, c.toNat = n := ⟨UInt8.ofNat n, by simp; omega⟩
 subst hc
 clear h h0 h1
 have Hs := Aside0.mk hs
 clear hs
 have hst : strOfNums [(c.toNat : Int)] = one c := by simp [strOfNums, one]
 have hcv : (convert 119 9 (.slice (some ⟨w.heap.size, 0, none⟩) 1 1)).run Tryz.prog (w.alloc (.cells #[.int .u8 (c.toNat : Int)] 5)) = .ok (.string (one c)) (w.alloc (.cells #[.int .u8 (c.toNat : Int)] 5)) := by
  rw [← hst]
  refine string_of_reads (e := 5) (by kernel_rfl) (by kernel_rfl) (by kernel_rfl) ⟨rfl, by decide, fun _ => ⟨⟨w.heap.size, 0, none⟩, rfl, fun j hj => ?_⟩⟩
  obtain rfl : j = 0 := by omega
  rw [add_plain]
  exact blk_cell (heap_alloc_last w _) 0
 clear hst
 have Hcv := hcv
 go_enter Tryz.func84, Tryz.ntmps84
 go_wp2_with (go_at_call 107; refine (Split_one c a0 Hs.out _).mono ?_; rintro e w' ⟨v, rfl, hR, hb⟩)
 go_ret
 exact ⟨_, rfl, Kd.R_lower hR (by simp), (below_alloc (Below.refl _ _) _).trans (hb.mono (by simp))⟩
def cutAt (c : Nat) : List Nat → List Nat × Option (List Nat)
 | [] => ([], none)
 | x :: r => if x = c then ([], some r) else ((x :: (cutAt c r).1), (cutAt c r).2)
theorem cutAt_dash : ∀ l, cutAt 45 l = cutDash l
 | [] => rfl
 | x :: r => by rw [cutAt, cutDash, cutAt_dash r]
theorem cutAt_no {c : Nat} : ∀ {l : List Nat}, (∀ x ∈ l, x ≠ c) → cutAt c l = (l, none)
 | [], _ => rfl
 | x :: r, h => by rw [cutAt, if_neg (h x List.mem_cons_self), cutAt_no fun y hy => h y (List.mem_cons_of_mem _ hy)]
theorem cutAt_hit {c : Nat} (r : List Nat) : ∀ {l : List Nat}, (∀ x ∈ l, x ≠ c) → cutAt c (l ++ c :: r) = (l, some r)
 | [], _ => by simp [cutAt]
 | x :: l, h => by rw [List.cons_append, cutAt, if_neg (h x List.mem_cons_self), cutAt_hit r fun y hy => h y (List.mem_cons_of_mem _ hy)]
def cutOut (p : List Nat × Option (List Nat)) : ByteArray × ByteArray × Bool := match p with
 | (a, some b) => (ofB a, ofB b, true)
 | (a, none) => (ofB a, ⟨#[]⟩, false)
set_option maxHeartbeats 1000000 in
theorem lite_Cut (c : UInt8) (s : ByteArray) (hs : Tiny s) (w : World) : Calls Tryz.prog 114 #[.string s, .string (one c)] w fun e w' => e = .returned (.tuple #[.string (cutOut (cutAt c.toNat (bs s))).1, .string (cutOut (cutAt c.toNat (bs s))).2.1, .bool (cutOut (cutAt c.toNat (bs s))).2.2]) ∧ ∃ n, w' = w.drewN n := by
 have hI : ∀ w, Calls Tryz.prog 124 #[.string s, .string (one c)] w fun e w' => e = .returned (.int .i64 (indexB s (one c))) ∧ w' = w := fun w => by
  refine (Tryz.stringslite_Index_one s c _).mono fun e w' ⟨h, h2⟩ => ⟨?_, h2⟩
  rw [h, indexB, show (one c).data.toList = [c] from rfl, index_one]
 rcases indexB_cases s (one c) with hm | ⟨i, hi, hr⟩
 ·rw [cutAt_no (idx_miss hm)]
  rw [hm] at hI
  simp only [cutOut, ofB_bs]
  go_enter Tryz.func114, Tryz.ntmps114
  go_wp2_with (go_at_call 124; refine (hI _).mono ?_; rintro e w' ⟨rfl, rfl⟩)
  go_ret3
  exact ⟨rfl, 0, rfl⟩
 ·obtain ⟨h1, h2, h3⟩ := idx_hit hi
  rw [hi] at hI
  have e1 : s.extract 0 i = ofB ((bs s).take i) := by rw [ext_ofB]; rfl
  have e2 : s.extract (i + 1) s.size = ofB ((bs s).drop (i + 1)) := by rw [ext_ofB, List.take_of_length_le (by rw [bs_length]; exact Nat.le_refl _)]
  have hcut : cutAt c.toNat (bs s) = ((bs s).take i, some ((bs s).drop (i + 1))) := by
   conv => lhs; rw [h2]
   exact cutAt_hit _ h3
  rw [hcut]
  simp only [cutOut]
  rw [← e1, ← e2]
  have hz : (one c).size = 1 := rfl
  have c1 : (0 : Int) ≤ ↑i := by omega
  have c2 : (↑i : Int) ≤ ↑s.size := by omega
  have c3 : (0 : Int) ≤ ↑i + ↑(one c).size := by omega
  have c4 : (↑i + ↑(one c).size : Int) ≤ ↑s.size := by omega
  have ez : (i + (one c).size) = i + 1 := by rw [hz]
  have mixed : Tryz.prog.follows Departure.mixedOrders = true := by kernel_rfl
  have hwr : IntKind.i64.wrap ((i : Int) + ((one c).size : Int)) = (i : Int) + ((one c).size : Int) := wrap_small _ (by omega) (by unfold Tiny at hs; omega)
  have Hs := Aside0.mk hs
  have Ez := Aside0.mk ez
  have b4 : (s.size : Int) < 4294967281 := by unfold Tiny at hs; omega
  clear h2 h3 hcut e1 e2 hi hs hr hz ez h1
  go_enter Tryz.func114, Tryz.ntmps114
  go_wp2_with (go_at_call 124; refine (hI _).mono ?_; rintro e w' ⟨rfl, rfl⟩)
  go_region_o
  go_wp2
  go_ret3
  exact ⟨rfl, 1, rfl⟩
set_option maxHeartbeats 1000000 in
theorem Cut_one (c : UInt8) (s : ByteArray) (hs : Tiny s) (w : World) : Calls Tryz.prog 93 #[.string s, .string (one c)] w fun e w' => e = .returned (.tuple #[.string (cutOut (cutAt c.toNat (bs s))).1, .string (cutOut (cutAt c.toNat (bs s))).2.1, .bool (cutOut (cutAt c.toNat (bs s))).2.2]) ∧ Drawn0 w w' := by
 have hg := lite_Cut c s hs
 generalize cutOut (cutAt c.toNat (bs s)) = r at hg
 obtain ⟨r1, r2, r3⟩ := r
 go_enter Tryz.func93, Tryz.ntmps93
 go_wp2_with (go_at_call 114; refine (hg _).mono ?_; rintro e w' ⟨rfl, n, rfl⟩)
 go_ret3
 exact ⟨rfl, ⟨_, rfl⟩⟩
abbrev dot3 : ByteArray := ⟨#[46, 95, 126]⟩
set_option maxHeartbeats 4000000 in
set_option maxRecDepth 1000000 in
theorem rune_bad (w : World) : Calls Tryz.prog 135 #[.string dot3, .int .i32 65533] w fun e w' => e = .returned (.int .i64 (-1)) ∧ Below w.heap.size w w' := by
 go_enter Tryz.func135, Tryz.ntmps135
 go_wp2
 go_loopw [5, 6] (fun _ _ wr => ∃ i : Nat, i ≤ 3 ∧ wr = w.iter dot3 i) (fun _ _ wr => 3 - wr.iterPos w.heap.size)
 case atStart => exact ⟨0, by omega, rfl⟩
 case round =>
  obtain ⟨i, hi, rfl⟩ := hrel
  by_cases h3 : i < 3
  ·have hlt : i < dot3.size := h3
   have ha : ∀ j (h : j < dot3.size), (dot3[j]'h).toNat < 128 := by decide
   have hnx := fun ty => run_next_ascii (P := Tryz.prog) w dot3 i ty hlt (ha i hlt)
   have hne : (((dot3[i]'hlt).toNat : Int) == 65533) = false := beq_eq_false_iff_ne.2 (by have := ha i hlt; omega)
   generalize ((dot3[i]'hlt).toNat : Int) = x at hnx hne
   go_wp2
   go_round
   case rel => exact ⟨i + 1, by omega, rfl⟩
   case measure => simp; omega
  ·obtain rfl : i = 3 := by omega
   have hnx := fun ty => run_next_end (P := Tryz.prog) w dot3 3 ty (by decide)
   go_wp2
   go_ret
   exact ⟨rfl, below_alloc (Below.refl _ _) _⟩
theorem dot3_no (c : UInt8) (hc : 128 ≤ c.toNat) (i : Nat) : Lib.indexByte ((dot3.extract i 3).data.toList) c = -1 := by
 have h : ∀ l : List UInt8, (∀ x ∈ l, x.toNat < 128) → Lib.indexByte l c = -1 := by
  intro l
  induction l with
  | nil => intro _; rfl
  | cons x r ih =>
   intro hx
   have hne : (x == c) = false := by
    rw [beq_eq_false_iff_ne]; intro e; subst e
    have := hx x List.mem_cons_self; omega
   unfold Lib.indexByte
   rw [hne, ih fun y hy => hx y (List.mem_cons_of_mem _ hy)]
   rfl
 refine h _ fun x hx => ?_
 rw [ByteArray.data_extract, Array.toList_extract] at hx
 have hm := List.mem_of_mem_drop (List.mem_of_mem_take hx)
 have h3 : ∀ y ∈ dot3.data.toList, y.toNat < 128 := by decide
 exact h3 x hm
set_option maxHeartbeats 4000000 in
set_option maxRecDepth 1000000 in
theorem rune_wild (r : Int) (h0 : 128 ≤ r) (h1 : (r == 65533) = false) (hv : Lib.validRune r = false) (w : World) : Calls Tryz.prog 135 #[.string dot3, .int .i32 r] w fun e w' => e = .returned (.int .i64 (-1)) ∧ Below w.heap.size w w' := by
 have c1 : decide (r < 128) = false := decide_eq_false (by omega)
 have c0 : decide (0 ≤ r) = true := decide_eq_true (by omega)
 go_enter Tryz.func135, Tryz.ntmps135
 go_wp2_with (go_at_call 145; refine (Tryz.utf8_ValidRune r _).mono ?_; rintro e w' ⟨rfl, rfl⟩; rw [hv])
 go_ret
 exact ⟨rfl, Below.refl _ _⟩
set_option maxHeartbeats 4000000 in
set_option maxRecDepth 1000000 in
theorem rune_high2 (r : Int) (h0 : 128 ≤ r) (h1 : (r == 65533) = false) (hv : Lib.validRune r = true) (E : ByteArray) (hE : E = Utf8.encode r) (hz : E.size = 2) (c : UInt8) (hc : ∀ h : 1 < E.size, E[1]'h = c) (hc1 : 128 ≤ c.toNat) (w : World) : Calls Tryz.prog 135 #[.string dot3, .int .i32 r] w fun e w' => e = .returned (.int .i64 (-1)) ∧ Below w.heap.size w w' := by
 have c1 : decide (r < 128) = false := decide_eq_false (by omega)
 have c0 : decide (0 ≤ r) = true := decide_eq_true (by omega)
 have hcv : ∀ w, (convert 21 9 (.int .i32 r)).run Tryz.prog w = .ok (.string E) w := fun w => by rw [hE]; exact run_convert_int_string w 21 9 .i32 r (by kernel_rfl) (by kernel_rfl)
 have hcc : ((c.toNat : Int)).toNat.toUInt8 = c := by simp
 have hds : dot3.size = 3 := rfl
 have hw2 : IntKind.i64.wrap 2 = 2 := rfl
 have hw3 : IntKind.i64.wrap 3 = 3 := rfl
 have hne : (((dot3[1]'(by decide)).toNat : Int) != (c.toNat : Int)) = true := by
  have : (dot3[1]'(by decide)).toNat < 128 := by decide
  rw [bne_iff_ne]; omega
 have hib : ∀ w, Calls Tryz.prog 144 #[.string (dot3.extract 2 3), .int .u8 (c.toNat : Int)] w fun e w' => e = .returned (.int .i64 (-1)) ∧ w' = w := fun w => by
  have h := Tryz.strings_IndexByte (dot3.extract 2 3) (c.toNat : Int) w
  rw [hcc, dot3_no c hc1 2] at h
  exact h
 have mixed : Tryz.prog.follows Departure.mixedOrders = true := by kernel_rfl
 clear hE
 go_enter Tryz.func135, Tryz.ntmps135
 go_wp2_with (go_at_call 145; refine (Tryz.utf8_ValidRune r _).mono ?_; rintro e w' ⟨rfl, hw⟩; rw [hw, hv])
 go_step3
 go_wp2
 go_loopw [9] (fun v9 wr => v9 = .int .i64 1 ∧ wr = w) (fun _ _ => 0)
 case atStart => exact ⟨rfl, rfl⟩
 case round =>
  obtain ⟨rfl, rfl⟩ := hrel
  go_wp2_with fail
  go_step3
  go_wp2_with fail
  go_region_o
  go_wp2_with fail
  go_quiet (first | (go_at_call 144; exact (hib _).mono fun e w'' h => ⟨h.1, _, h.2⟩))
  go_wp2
  rw [Exit.noGoto_ret]
  (try simp only [Exit.inBlock, Exit.then])
  refine (Exit.noGoto_ret (Q := _) ..).mpr ?_
  simp only [Exit.inBlock, Exit.then]
  rw [Exit.noGoto_ret]
  (try simp only [Exit.inBlock])
  go_ret
  exact ⟨rfl, by repeat (with_reducible first | exact Below.refl _ _ | refine pw_below_drewN ?_ _ | refine below_drew ?_)⟩
set_option maxHeartbeats 4000000 in
set_option maxRecDepth 1000000 in
theorem rune_high3 (r : Int) (h0 : 128 ≤ r) (h1 : (r == 65533) = false) (hv : Lib.validRune r = true) (E : ByteArray) (hE : E = Utf8.encode r) (hz : E.size = 3) (c : UInt8) (hc : ∀ h : 2 < E.size, E[2]'h = c) (hc1 : 128 ≤ c.toNat) (w : World) : Calls Tryz.prog 135 #[.string dot3, .int .i32 r] w fun e w' => e = .returned (.int .i64 (-1)) ∧ Below w.heap.size w w' := by
 have c1 : decide (r < 128) = false := decide_eq_false (by omega)
 have c0 : decide (0 ≤ r) = true := decide_eq_true (by omega)
 have hcv : ∀ w, (convert 21 9 (.int .i32 r)).run Tryz.prog w = .ok (.string E) w := fun w => by rw [hE]; exact run_convert_int_string w 21 9 .i32 r (by kernel_rfl) (by kernel_rfl)
 have hcc : ((c.toNat : Int)).toNat.toUInt8 = c := by simp
 have hds : dot3.size = 3 := rfl
 have hw2 : IntKind.i64.wrap 2 = 2 := rfl
 have hw3 : IntKind.i64.wrap 3 = 3 := rfl
 have hne : (((dot3[2]'(by decide)).toNat : Int) != (c.toNat : Int)) = true := by
  have : (dot3[2]'(by decide)).toNat < 128 := by decide
  rw [bne_iff_ne]; omega
 have hib : ∀ w, Calls Tryz.prog 144 #[.string (dot3.extract 3 3), .int .u8 (c.toNat : Int)] w fun e w' => e = .returned (.int .i64 (-1)) ∧ w' = w := fun w => by
  have h := Tryz.strings_IndexByte (dot3.extract 3 3) (c.toNat : Int) w
  rw [hcc, dot3_no c hc1 3] at h
  exact h
 have mixed : Tryz.prog.follows Departure.mixedOrders = true := by kernel_rfl
 clear hE
 go_enter Tryz.func135, Tryz.ntmps135
 go_wp2_with (go_at_call 145; refine (Tryz.utf8_ValidRune r _).mono ?_; rintro e w' ⟨rfl, hw⟩; rw [hw, hv])
 go_step3
 go_wp2
 go_loopw [9] (fun v9 wr => v9 = .int .i64 2 ∧ wr = w) (fun _ _ => 0)
 case atStart => exact ⟨rfl, rfl⟩
 case round =>
  obtain ⟨rfl, rfl⟩ := hrel
  go_wp2_with fail
  go_step3
  go_wp2_with fail
  go_region_o
  go_wp2_with fail
  go_quiet (first | (go_at_call 144; exact (hib _).mono fun e w'' h => ⟨h.1, _, h.2⟩))
  go_wp2
  rw [Exit.noGoto_ret]
  (try simp only [Exit.inBlock, Exit.then])
  refine (Exit.noGoto_ret (Q := _) ..).mpr ?_
  simp only [Exit.inBlock, Exit.then]
  rw [Exit.noGoto_ret]
  (try simp only [Exit.inBlock])
  go_ret
  exact ⟨rfl, by repeat (with_reducible first | exact Below.refl _ _ | refine pw_below_drewN ?_ _ | refine below_drew ?_)⟩
set_option maxHeartbeats 4000000 in
set_option maxRecDepth 1000000 in
theorem rune_high4 (r : Int) (h0 : 128 ≤ r) (h1 : (r == 65533) = false) (hv : Lib.validRune r = true) (E : ByteArray) (hE : E = Utf8.encode r) (hz : E.size = 4) (c : UInt8) (hc : ∀ h : 3 < E.size, E[3]'h = c) (hc1 : 128 ≤ c.toNat) (w : World) : Calls Tryz.prog 135 #[.string dot3, .int .i32 r] w fun e w' => e = .returned (.int .i64 (-1)) ∧ Below w.heap.size w w' := by
 have c1 : decide (r < 128) = false := decide_eq_false (by omega)
 have c0 : decide (0 ≤ r) = true := decide_eq_true (by omega)
 have hcv : ∀ w, (convert 21 9 (.int .i32 r)).run Tryz.prog w = .ok (.string E) w := fun w => by rw [hE]; exact run_convert_int_string w 21 9 .i32 r (by kernel_rfl) (by kernel_rfl)
 have hcc : ((c.toNat : Int)).toNat.toUInt8 = c := by simp
 have hds : dot3.size = 3 := rfl
 have hw2 : IntKind.i64.wrap 2 = 2 := rfl
 have hw3 : IntKind.i64.wrap 3 = 3 := rfl
 have mixed : Tryz.prog.follows Departure.mixedOrders = true := by kernel_rfl
 clear hE
 go_enter Tryz.func135, Tryz.ntmps135
 go_wp2_with (go_at_call 145; refine (Tryz.utf8_ValidRune r _).mono ?_; rintro e w' ⟨rfl, hw⟩; rw [hw, hv])
 go_step3
 go_wp2
 go_loopw [9] (fun v9 wr => v9 = .int .i64 3 ∧ wr = w) (fun _ _ => 0)
 case atStart => exact ⟨rfl, rfl⟩
 case round =>
  obtain ⟨rfl, rfl⟩ := hrel
  go_wp2_with fail
  rw [Exit.noGoto_ret]
  go_ret
  exact ⟨rfl, Below.refl _ _⟩
theorem rune_any (r : Int) (h0 : 128 ≤ r) (w : World) : Calls Tryz.prog 135 #[.string dot3, .int .i32 r] w fun e w' => e = .returned (.int .i64 (-1)) ∧ Below w.heap.size w w' := by
 by_cases hb : r = 65533
 ·subst hb; exact rune_bad w
 have h1 : (r == 65533) = false := beq_eq_false_iff_ne.2 hb
 cases hv : Lib.validRune r
 ·exact rune_wild r h0 h1 hv w
 ·obtain ⟨f1, f2, f3⟩ := encode_facts r (by rw [validRune_eq]; exact hv) h0
  obtain ⟨E, hE⟩ : ∃ E, E = Utf8.encode r := ⟨_, rfl⟩
  rw [← hE] at f1 f2 f3
  have hlt : E.size - 1 < E.size := by omega
  have hc := f3 hlt
  rcases (by omega : E.size = 2 ∨ E.size = 3 ∨ E.size = 4) with hz | hz | hz
  ·exact rune_high2 r h0 h1 hv E hE hz (E[E.size - 1]'hlt) (fun h => by congr 1; omega) hc w
  ·exact rune_high3 r h0 h1 hv E hE hz (E[E.size - 1]'hlt) (fun h => by congr 1; omega) hc w
  ·exact rune_high4 r h0 h1 hv E hE hz (E[E.size - 1]'hlt) (fun h => by congr 1; omega) hc w
end Go.Proofs.YtffjkbbmnfnbaaaGreatDoor.QB.D
end
