/- Part 3 of this claim: several texts one behind the other: DOct2, PlainV, PlainO, Ord, PlainN, Pn, Pz, Q0, Fgraftwoodlaw01Few, Fgraftwoodlaw05One, Fgraftwoodlaw05Few, Fgraftwoodlaw13Few. What each shows stands in its theorems; conditions: sizes of texts and lists, as the functions' definitions say. -/
import Derived.Test.YtohdmmafjpjmfaaGreatDoorVRoomBack
import Derived.Test.YtohdmmafjpjmfaaGreatDoorMRoomBack2
import Derived.Test.YtohdmmafjpjmfaaGreatDoorProg
import Derived.Below
import Derived.Deep.Draws
import Derived.Deep.AppendLies
import Derived.Maps.AppendAt
import Derived.OwnWalk
import Derived.Laws.BytesArg
import Derived.Laws.MakeOwn
import Derived.Laws.OwnMore
import Derived.Deep.OwnRows
import Derived.Tactics
import Derived.Lib.ConvBytes
import Derived.Laws.Slices
import Derived.WalkKit
import Derived.KernelRfl
import Derived.RowKit3
import Derived.Deep.LoopGhost
import Derived.Deep.QuietTactic
import Derived.BigQuiet
import Derived.WideLaws
import Derived.Deep.DeepCutAuto
import Derived.Deep.CutBlock
import Derived.Deep.RegionHeld3
import Derived.Laws.Rows
import Derived.Lib.AppendStr
import Derived.ArgAppend
import Derived.Laws.IdiomCopy
import Derived.OrdersHeld
import Derived.Laws.BitsLemmas
import Derived.RowKit
section
namespace Go.Proofs.YtohdmmafjpjmfaaGreatDoor.QB.D
open Go.Proofs.YtohdmmafjpjmfaaGreatDoor.Q
open Go.RowKit Go.Lib Go.Proofs.YtohdmmafjpjmfaaGreatDoorW.PrintWords Go.Proofs.YtohdmmafjpjmfaaGreatDoorW.PrintLast Go.Proofs.YtohdmmafjpjmfaaGreatDoorW.PrintMore Gw
set_option linter.unusedVariables false
set_option linter.unusedSimpArgs false
theorem clsV_eq : clsV = ((List.range 256).map fun c => Value.int .i64 (cls c : Nat)).toArray := by kernel_rfl
theorem clsV_at {c : Nat} (h : c < 256) : clsV[c]? = some (.int .i64 (cls c : Nat)) := by
  rw [clsV_eq]; simp [h]
theorem cls_lt : ∀ c < 256, cls c < 10 := by decide +kernel
theorem cls_idx {c : Nat} (h : c < 256) (w : World) : (Instr.index 129 (.agg clsV) (.int .u8 (c : Int))).run Tryz.prog w = .ok (.int .i64 (cls c : Nat)) w := by
  have hu : Tryz.prog.underlying 129 = some (.array 256 3) := by kernel_rfl
  have h1 : (c : Int) < 256 := by omega
  simp [Instr.index, run_underlying hu, asIntOf, h1, h, clsV_at h, Sem.run_bind, go_sem]
set_option maxHeartbeats 1000000 in
theorem Class_calls (c : Nat) (h : c < 256) (w : World) : Calls Tryz.prog 112 #[.int .u8 (c : Int)] w fun e w' => e = .returned (.int .i64 (cls c : Nat)) ∧ Below w.heap.size w w' := by
  have hi := cls_idx h
  go_enter Tryz.func112, Tryz.ntmps112
  go_wp2_with (go_at_call 114; refine (classes_calls _).mono ?_; rintro e w' ⟨rfl, rfl⟩)
  go_ret
  exact ⟨rfl, below_alloc (Below.refl _ _) _⟩
set_option maxHeartbeats 1000000 in
theorem In_calls (c : Nat) (h : c < 256) (A0 : Option Addr) (c0 : Nat) (l0 : List Int) (w : World) (hr0 : Kd.C (Kd.int .i64) w A0 l0.length l0) : Calls Tryz.prog 99 #[.int .u8 (c : Int), .slice A0 l0.length c0] w fun e w' => e = .returned (.bool (decide ((cls c : Int) ∈ l0))) ∧ Below w.heap.size w w' := by
  have HR := Aside0.mk hr0
  clear hr0
  go_enter Tryz.func99, Tryz.ntmps99
  go_wp2_with (go_at_call 112; refine (Class_calls c h _).mono ?_; rintro e w1 ⟨rfl, hb⟩)
  have HB := Aside0.mk hb
  clear hb
  go_loopw [12] (fun v12 wr => ∃ k : Nat, k ≤ l0.length ∧ v12 = .int .i64 (k : Int) ∧ wr = w1 ∧ Aside0 (∀ x ∈ l0.take k, x ≠ (cls c : Int))) (fun v12 _ => l0.length - (RowKit.intOf v12).toNat)
  case atStart => exact ⟨0, Nat.zero_le _, rfl, rfl, ⟨fun x hx => by cases hx⟩⟩
  case round =>
    obtain ⟨k, hk, rfl, rfl, hA⟩ := hrel
    by_cases hkl : k < l0.length
    · have hk1 : decide ((k : Int) < (l0.length : Int)) = true := decide_eq_true (by omega)
      have hC := Kd.C_below HR.out HB.out
      have hmax := Kd.C_max hC
      have hw1 : wrap64 ((k : Int) + 1) = ((k + 1 : Nat) : Int) := by unfold wrap64; omega
      obtain ⟨ad, rfl, hx⟩ := Kd.at_int hC (k : Int) (by omega) (by omega)
      have hxk : rd l0 (k : Int) = l0[k] := by simp [rd, List.getD_eq_getElem?_getD, List.getElem?_eq_getElem hkl]
      rw [hxk, Int.toNat_natCast] at hx
      have htk : l0.take (k + 1) = l0.take k ++ [l0[k]] := List.take_succ_eq_append_getElem hkl
      have hmem : l0[k] ∈ l0 := List.getElem_mem hkl
      have Hmem := Aside0.mk hmem
      have Htk := Aside0.mk htk
      obtain ⟨x, hy⟩ : ∃ x, x = l0[k] := ⟨_, rfl⟩
      rw [← hy] at hx Htk Hmem
      clear hmem htk hy hC hxk
      by_cases he : x = (cls c : Int)
      · have e1 : (x == (cls c : Int)) = true := beq_iff_eq.2 he
        have hd : decide ((cls c : Int) ∈ l0) = true := decide_eq_true (he ▸ Hmem.out)
        have Hd := Aside0.mk hd
        clear he hd
        go_wp2
        go_ret
        exact ⟨by rw [Hd.out]; rfl, HB.out⟩
      · have e1 : (x == (cls c : Int)) = false := beq_eq_false_iff_ne.2 he
        have He := Aside0.mk he
        clear he
        go_wp2
        go_roundw
        case rel => exact ⟨k + 1, by omega, by first | rfl | go_num, by first | trivial | rfl, ⟨fun y hy => by
          rw [Htk.out, List.mem_append] at hy
          rcases hy with hy | hy
          · exact hA.out y hy
          · rw [List.mem_singleton.1 hy]; exact He.out⟩⟩
        case measure => simp [RowKit.intOf]; omega
    · obtain rfl : k = l0.length := by omega
      have hk1 : decide ((l0.length : Int) < (l0.length : Int)) = false := decide_eq_false (by omega)
      have hd : decide ((cls c : Int) ∈ l0) = false := decide_eq_false (fun hm => by
        have := hA.out _ (by rw [List.take_length]; exact hm)
        exact this rfl)
      have Hd := Aside0.mk hd
      clear hd
      go_wp2
      go_ret
      exact ⟨by rw [Hd.out]; rfl, HB.out⟩
def mayA (l : List Int) : Array Value := ((List.range 10).map fun (j : Nat) => Value.bool (decide ((j : Int) ∈ l))).toArray
theorem mayA_nil : mayA [] = Array.replicate 10 (.bool false) := by kernel_rfl
theorem mayA_size (l : List Int) : (mayA l).size = 10 := by simp [mayA]
theorem mayA_at (l : List Int) {j : Nat} (h : j < 10) : (mayA l)[j]? = some (.bool (decide ((j : Int) ∈ l))) := by simp [mayA, h]
theorem mayA_snoc (l : List Int) {x : Nat} (h : x < 10) : (mayA l).setIfInBounds x (.bool true) = mayA (l ++ [(x : Int)]) := by
  apply Array.ext_getElem?
  intro j
  rw [Array.getElem?_setIfInBounds, mayA_size]
  by_cases hj : j < 10
  · rw [mayA_at _ hj, mayA_at _ hj]
    by_cases e : x = j
    · subst e; simp [h]
    · rw [if_neg e]
      have : ¬ (j : Int) = (x : Int) := by omega
      simp [this]
  · have h1 : (mayA l)[j]? = none := Array.getElem?_eq_none (by rw [mayA_size]; omega)
    have h2 : (mayA (l ++ [(x : Int)]))[j]? = none := Array.getElem?_eq_none (by rw [mayA_size]; omega)
    rw [h1, h2, if_neg (by omega)]
theorem mayA_skip (l : List Int) {x : Int} (h : x < 0 ∨ 10 ≤ x) : mayA (l ++ [x]) = mayA l := by
  apply Array.ext_getElem?
  intro j
  by_cases hj : j < 10
  · rw [mayA_at _ hj, mayA_at _ hj]
    have : ¬ (j : Int) = x := by omega
    simp [this]
  · rw [Array.getElem?_eq_none (by rw [mayA_size]; omega), Array.getElem?_eq_none (by rw [mayA_size]; omega)]
def octet_All.f (a0 : ByteArray) (l0 : List Int) : Option Bool := if Small a0 then some ((bs a0).all fun c => decide ((cls c : Int) ∈ l0)) else none
set_option maxHeartbeats 2000000 in
set_option maxRecDepth 100000 in
theorem octet_All.calls (a0 : ByteArray) (A0 : Option Addr) (c0 : Nat) (l0 : List Int) (r : Bool) (w : World) (hr0 : Kd.C (Kd.int .i64) w A0 l0.length l0) (hc0 : l0.length ≤ c0) (h : octet_All.f a0 l0 = some r) :
    Calls Tryz.prog 102 #[.string a0, .slice A0 l0.length c0] w fun e w' => e = .returned (.bool r) ∧ Below w.heap.size w w' := by
  unfold octet_All.f at h
  by_cases hs : Small a0
  case neg => rw [if_neg hs] at h; cases h
  rw [if_pos hs] at h
  have Hr := Aside0.mk (Option.some.inj h)
  have HS := Aside0.mk hs
  clear hs
  have HR := Aside0.mk hr0
  clear hr0 h hc0
  have hs : Sem.run Tryz.prog (storeCells ⟨w.heap.size + 1, 0, none⟩ clsV.toList) ((w.alloc (.cells clsV 129)).alloc (.cells Tryz.zeroCells129 129)) = .ok () ((w.alloc (.cells clsV 129)).alloc (.cells clsV 129)) := by
    have h := run_storeCells_new (P := Tryz.prog) (w.alloc (.cells clsV 129)) 129 Tryz.zeroCells129 clsV (by kernel_rfl) (by kernel_rfl) (by kernel_rfl)
    have e : (w.alloc (.cells clsV 129)).heap.size = w.heap.size + 1 := by simp
    rw [e] at h
    exact h
  go_enter Tryz.func102, Tryz.ntmps102
  go_wp2_with (go_at_call 114; refine (classes_calls _).mono ?_; rintro e w' ⟨rfl, rfl⟩)
  obtain ⟨W2, hW2⟩ : ∃ W2, W2 = (w.alloc (.cells clsV 129)).alloc (.cells clsV 129) := ⟨_, rfl⟩
  have e2 : w.heap.size + 1 + 1 = W2.heap.size := by rw [hW2]; simp
  have hB2 : Below w.heap.size w W2 := by rw [hW2]; exact below_alloc (below_alloc (Below.refl _ _) _) _
  have hc5 : ∀ c, c < 256 → W2.cell? ⟨w.heap.size + 1, c, none⟩ = some (.int .i64 (cls c : Nat)) := fun c hc => by
    have h := blk_cell (w := W2) (g := w.heap.size + 1) (t := 129) (cs := clsV) (by rw [hW2]; exact heap_alloc2_new w _ _) c
    rw [h, clsV_at hc]
  rw [← hW2, e2]
  have HB2 := Aside0.mk hB2
  have Hc5 := Aside0.mk hc5
  have He2 := Aside0.mk e2
  clear hB2 hc5 hW2 hs
  go_loopw [13] (fun v13 wr => ∃ k : Nat, k ≤ l0.length ∧ v13 = .int .i64 (k : Int) ∧ wr = W2.alloc (.cells (mayA (l0.take k)) 131)) (fun v13 _ => l0.length - (RowKit.intOf v13).toNat)
  case atStart => exact ⟨0, Nat.zero_le _, rfl, by rw [List.take_zero, mayA_nil]; first | rfl | (congr 2; kernel_rfl)⟩
  case round =>
    obtain ⟨k, hk, rfl, rfl⟩ := hrel
    by_cases hkl : k < l0.length
    · have hk1 : decide ((k : Int) < (l0.length : Int)) = true := decide_eq_true (by omega)
      have hC := Kd.C_below (HR.out) (below_alloc HB2.out (.cells (mayA (l0.take k)) 131))
      have hmax := Kd.C_max hC
      have hw1 : wrap64 ((k : Int) + 1) = ((k + 1 : Nat) : Int) := by unfold wrap64; omega
      obtain ⟨ad, rfl, hx⟩ := Kd.at_int hC (k : Int) (by omega) (by omega)
      have hxk : rd l0 (k : Int) = l0[k] := by simp [rd, List.getD_eq_getElem?_getD, List.getElem?_eq_getElem hkl]
      rw [hxk, Int.toNat_natCast] at hx
      have htk : l0.take (k + 1) = l0.take k ++ [l0[k]] := List.take_succ_eq_append_getElem hkl
      have Htk := Aside0.mk htk
      obtain ⟨x, hy⟩ : ∃ x, x = l0[k] := ⟨_, rfl⟩
      rw [← hy] at hx Htk
      clear htk hy hC hxk
      have hsz := mayA_size (l0.take k)
      by_cases h0 : 0 ≤ x
      · have d0 : decide (0 ≤ x) = true := decide_eq_true h0
        by_cases h10 : x < 10
        · have d10 : decide (x < 10) = true := decide_eq_true h10
          obtain ⟨n, rfl⟩ := Int.eq_ofNat_of_zero_le h0
          have hn : n < 10 := by omega
          have hsn := mayA_snoc (l0.take k) hn
          have hat := mayA_at (l0.take k) hn
          have Hsn := Aside0.mk hsn
          clear hsn
          go_wp2
          go_roundw
          case rel => exact ⟨k + 1, by omega, by first | rfl | go_num, by rw [Htk.out, ← Hsn.out]⟩
          case measure => simp [RowKit.intOf]; omega
        · have d10 : decide (x < 10) = false := decide_eq_false h10
          have hsk := Aside0.mk (mayA_skip (l0.take k) (x := x) (Or.inr (by omega)))
          go_wp2
          go_roundw
          case rel => exact ⟨k + 1, by omega, by first | rfl | go_num, by rw [Htk.out, hsk.out]⟩
          case measure => simp [RowKit.intOf]; omega
      · have d0 : decide (0 ≤ x) = false := decide_eq_false h0
        have hsk := Aside0.mk (mayA_skip (l0.take k) (x := x) (Or.inl (by omega)))
        go_wp2
        go_roundw
        case rel => exact ⟨k + 1, by omega, by first | rfl | go_num, by rw [Htk.out, hsk.out]⟩
        case measure => simp [RowKit.intOf]; omega
    · obtain rfl : k = l0.length := by omega
      have hk1 : decide ((l0.length : Int) < (l0.length : Int)) = false := decide_eq_false (by omega)
      rw [List.take_length]
      go_wp2
      obtain ⟨W3, hW3⟩ : ∃ W3, W3 = W2.alloc (.cells (mayA l0) 131) := ⟨_, rfl⟩
      rw [← hW3]
      have hB3 : Below w.heap.size w W3 := by rw [hW3]; exact below_alloc HB2.out _
      have hc6 : ∀ c, c < 10 → W3.cell? ⟨W2.heap.size, c, none⟩ = some (.bool (decide ((c : Int) ∈ l0))) := fun c hc => by
        have h := blk_cell (w := W3) (g := W2.heap.size) (t := 131) (cs := mayA l0) (by rw [hW3]; exact heap_alloc_last W2 _) c
        rw [h, mayA_at _ hc]
      have hc5 : ∀ c, c < 256 → W3.cell? ⟨w.heap.size + 1, c, none⟩ = some (.int .i64 (cls c : Nat)) := fun c hc => by
        rw [hW3]; exact Lib.cell?_alloc_some _ (Hc5.out c hc)
      have HB3 := Aside0.mk hB3
      have Hc6 := Aside0.mk hc6
      have Hd5 := Aside0.mk hc5
      clear hB3 hc6 hc5 hW3 hk1 hk hkl
      go_loopw [28] (fun v28 wr => ∃ k : Nat, k ≤ a0.size ∧ v28 = .int .i64 (k : Int) ∧ wr = W3 ∧ Aside0 (((bs a0).take k).all (fun c => decide ((cls c : Int) ∈ l0)) = true)) (fun v28 _ => a0.size - (RowKit.intOf v28).toNat)
      case atStart => exact ⟨0, Nat.zero_le _, rfl, rfl, ⟨rfl⟩⟩
      case round =>
        obtain ⟨k, hk, rfl, rfl, hA⟩ := hrel
        by_cases hkl : k < a0.size
        · have hk1 : decide ((k : Int) < (a0.size : Int)) = true := decide_eq_true (by omega)
          have hq : decide (k < a0.size) = true := decide_eq_true hkl
          have hdr : (bs a0).drop k = (bs a0)[k]'(by rw [bs_length]; exact hkl) :: (bs a0).drop (k + 1) := List.drop_eq_getElem_cons _
          have hbt := (bt_drop hdr).2.1
          have hc := (bt_drop hdr).2.2.2
          have htk : (bs a0).take (k + 1) = (bs a0).take k ++ [(bs a0)[k]'(by rw [bs_length]; exact hkl)] := List.take_succ_eq_append_getElem _
          have hmem : (bs a0)[k]'(by rw [bs_length]; exact hkl) ∈ bs a0 := List.getElem_mem _
          have hS : (a0.size : Int) ≤ 4398046511104 := by have := HS.out; omega
          obtain ⟨c, hcc⟩ : ∃ c, c = (bs a0)[k]'(by rw [bs_length]; exact hkl) := ⟨_, rfl⟩
          rw [← hcc] at hbt hc htk hmem
          have hx9 : ∀ h : k < a0.size, ((a0[k]'h).toNat : Int) = (c : Int) := fun h => by rw [← hbt]; exact bt_at a0 k h
          have hx8 : ∀ h : k < a0.size, (a0[k]'h).toNat = c := fun h => by have := hx9 h; omega
          have h5 := Hd5.out c hc
          have h6 := Hc6.out (cls c) (cls_lt c hc)
          have hc1 : (c : Int) < 256 := by omega
          have hc2 : (cls c : Int) < 10 := by have := cls_lt c hc; omega
          have Htk := Aside0.mk htk
          have Hmem := Aside0.mk hmem
          clear htk hmem hcc hbt hdr
          generalize hdm : decide ((cls c : Int) ∈ l0) = d at h6
          have Hdm := Aside0.mk hdm
          clear hdm
          cases d
          · have hrf : r = false := by
              rw [← Hr.out, List.all_eq_false]
              exact ⟨c, Hmem.out, by rw [Hdm.out]; decide⟩
            have Hrf := Aside0.mk hrf
            clear hrf
            go_wp2
            go_ret
            exact ⟨by rw [Hrf.out]; rfl, HB3.out⟩
          · go_wp2
            go_roundw
            case rel => exact ⟨k + 1, hkl, by go_num, by first | trivial | rfl, ⟨by rw [Htk.out, List.all_append, hA.out]; simp [Hdm.out]⟩⟩
            case measure => simp [RowKit.intOf]; omega
        · obtain rfl : k = a0.size := by omega
          have hk1 : decide ((a0.size : Int) < (a0.size : Int)) = false := decide_eq_false (by omega)
          have hrt : r = true := by
            have h := hA.out
            rw [List.take_of_length_le (by rw [bs_length]; exact Nat.le_refl _)] at h
            rw [← Hr.out, h]
          have Hrt := Aside0.mk hrt
          clear hrt
          go_wp2
          go_ret
          exact ⟨by rw [Hrt.out]; rfl, HB3.out⟩
end Go.Proofs.YtohdmmafjpjmfaaGreatDoor.QB.D
end
section
set_option linter.unusedVariables false
namespace Gw
abbrev VP := B × B × B × List B
def vpre (a b c : B) (pre : Option B) : Option VP := match pre with
  | none => some (a, b, c, [])
  | some p => if (parts 46 p).all isWord then some (a, b, c, parts 46 p) else none
def vcore (core : B) (pre : Option B) : Option VP := match parts 46 core with
  | [a, b, c] => if isNum a && isNum b && isNum c then vpre a b c pre else none
  | _ => none
def vparts : B → Option VP
  | 118 :: r => vcore (cutDash r).1 (cutDash r).2
  | _ => none
theorem vcore_some (core : B) (pre : Option B) : (vcore core pre).isSome = (coreOk 3 core && preOk pre) := by
  unfold vcore coreOk vpre
  rcases hp : parts 46 core with _ | ⟨a, _ | ⟨b, _ | ⟨c, _ | ⟨d, l⟩⟩⟩⟩
  · rfl
  · rfl
  · rfl
  · simp only [List.length_cons, List.length_nil, List.all_cons, List.all_nil, Bool.and_true]
    cases isNum a <;> cases isNum b <;> cases isNum c <;> try rfl
    cases pre with
    | none => rfl
    | some p =>
      simp only [preOk]
      cases (parts 46 p).all isWord <;> rfl
  · simp
theorem vparts_some (s : B) : (vparts s).isSome = isVersion s := by
  unfold vparts isVersion
  split
  · exact vcore_some _ _
  · rename_i h
    first
      | rfl
      | (split
         · exact absurd rfl (h _)
         · rfl)
end Gw
end
section
set_option linter.unusedVariables false
namespace Gw
def orI (x y : Int) : Int := if x = 0 then y else x
structure TO {α : Type} (P : α → Prop) (c : α → α → Int) : Prop where
  tri : ∀ a b, c a b = -1 ∨ c a b = 0 ∨ c a b = 1
  sym : ∀ a b, P a → P b → c b a = - c a b
  eq : ∀ a b, P a → P b → (c a b = 0 ↔ a = b)
  tr : ∀ a b d, P a → P b → P d → c a b < 0 → c b d < 0 → c a d < 0
def cmpN (n m : Nat) : Int := if n < m then -1 else if m < n then 1 else 0
def lexC : List Nat → List Nat → Int
  | [], [] => 0
  | [], _ :: _ => -1
  | _ :: _, [] => 1
  | a :: x, b :: y => if a < b then -1 else if b < a then 1 else lexC x y
def numC (a b : B) : Int := orI (cmpN a.length b.length) (lexC a b)
def wordC (a b : B) : Int := if isNum a then (if isNum b then numC a b else -1) else if isNum b then 1 else lexC a b
def wordsC : List B → List B → Int
  | [], [] => 0
  | [], _ :: _ => -1
  | _ :: _, [] => 1
  | a :: x, b :: y => orI (wordC a b) (wordsC x y)
def preC (x y : List B) : Int := if x = [] ∨ y = [] then cmpN y.length x.length else wordsC x y
def flagC (x y : List B) : Int := if x = [] then (if y = [] then 0 else 1) else if y = [] then -1 else 0
def verC (x y : VP) : Int := orI (numC x.1 y.1) (orI (numC x.2.1 y.2.1) (orI (numC x.2.2.1 y.2.2.1) (orI (flagC x.2.2.2 y.2.2.2) (wordsC x.2.2.2 y.2.2.2))))
theorem orI_tri {x y : Int} (hx : x = -1 ∨ x = 0 ∨ x = 1) (hy : y = -1 ∨ y = 0 ∨ y = 1) : orI x y = -1 ∨ orI x y = 0 ∨ orI x y = 1 := by
  unfold orI; split <;> assumption
theorem cmpN_to : TO (fun _ : Nat => True) cmpN := by
  refine ⟨fun a b => ?_, fun a b _ _ => ?_, fun a b _ _ => ?_, fun a b d _ _ _ => ?_⟩ <;> unfold cmpN <;> (repeat' split) <;> omega
theorem lexC_tri : ∀ a b, lexC a b = -1 ∨ lexC a b = 0 ∨ lexC a b = 1
  | [], [] => by simp [lexC]
  | [], _ :: _ => by simp [lexC]
  | _ :: _, [] => by simp [lexC]
  | a :: x, b :: y => by
    have := lexC_tri x y
    unfold lexC
    repeat' split
    all_goals first | omega | exact this
theorem lexC_sym : ∀ a b, lexC b a = - lexC a b
  | [], [] => by simp [lexC]
  | [], _ :: _ => by simp [lexC]
  | _ :: _, [] => by simp [lexC]
  | a :: x, b :: y => by
    have := lexC_sym x y
    unfold lexC
    repeat' split
    all_goals first | omega | exact this
theorem lexC_eq : ∀ a b, lexC a b = 0 ↔ a = b
  | [], [] => by simp [lexC]
  | [], _ :: _ => by simp [lexC]
  | _ :: _, [] => by simp [lexC]
  | a :: x, b :: y => by
    have := lexC_eq x y
    unfold lexC
    rw [List.cons.injEq]
    repeat' split
    all_goals first | (simp; omega) | (rw [this]; constructor <;> intro h <;> first | exact h.2 | exact ⟨by omega, h⟩)
theorem lexC_tr : ∀ a b d, lexC a b < 0 → lexC b d < 0 → lexC a d < 0
  | [], [], _, h, _ => by simp [lexC] at h
  | [], _ :: _, [], _, h => by simp [lexC] at h
  | [], _ :: _, _ :: _, _, _ => by simp [lexC]
  | _ :: _, [], _, h, _ => by simp [lexC] at h
  | _ :: _, _ :: _, [], _, h => by simp [lexC] at h
  | a :: x, b :: y, d :: z, h1, h2 => by
    unfold lexC at *
    repeat' split
    all_goals (try omega)
    have hab : ¬ a < b := fun h => by
      rw [if_pos h] at h1
      split at h2
      · omega
      · split at h2 <;> omega
    have hba : ¬ b < a := fun h => by rw [if_neg hab, if_pos h] at h1; omega
    rw [if_neg hab, if_neg hba] at h1
    have hbd : ¬ b < d := by omega
    have hdb : ¬ d < b := by omega
    rw [if_neg hbd, if_neg hdb] at h2
    exact lexC_tr x y z h1 h2
theorem lexC_to : TO (fun _ : B => True) lexC := ⟨lexC_tri, fun a b _ _ => lexC_sym a b, fun a b _ _ => lexC_eq a b, fun a b d _ _ _ => lexC_tr a b d⟩
theorem TO.or {α : Type} {P : α → Prop} {c1 c2 : α → α → Int} (t1 : ∀ a b, c1 a b = -1 ∨ c1 a b = 0 ∨ c1 a b = 1) (s1 : ∀ a b, P a → P b → c1 b a = - c1 a b)
    (z1 : ∀ a b d, P a → P b → P d → c1 a b ≤ 0 → c1 b d ≤ 0 → c1 a d ≤ 0 ∧ (c1 a d = 0 → c1 a b = 0 ∧ c1 b d = 0))
    (t2 : ∀ a b, c2 a b = -1 ∨ c2 a b = 0 ∨ c2 a b = 1) (s2 : ∀ a b, P a → P b → c1 a b = 0 → c2 b a = - c2 a b)
    (e : ∀ a b, P a → P b → (c1 a b = 0 ∧ c2 a b = 0 ↔ a = b))
    (r2 : ∀ a b d, P a → P b → P d → c1 a b = 0 → c1 b d = 0 → c2 a b < 0 → c2 b d < 0 → c2 a d < 0) : TO P (fun a b => orI (c1 a b) (c2 a b)) := by
  refine ⟨fun a b => orI_tri (t1 a b) (t2 a b), fun a b ha hb => ?_, fun a b ha hb => ?_, fun a b d ha hb hd h1 h2 => ?_⟩
  · have := s1 a b ha hb
    have h2 := s2 a b ha hb
    show orI (c1 b a) (c2 b a) = - orI (c1 a b) (c2 a b)
    unfold orI
    split <;> split <;> first | omega | (rename_i h; exact h2 (by omega))
  · rw [← e a b ha hb]
    show orI (c1 a b) (c2 a b) = 0 ↔ _
    unfold orI
    split <;> rename_i h
    · exact ⟨fun h2 => ⟨h, h2⟩, fun h2 => h2.2⟩
    · exact ⟨fun h2 => absurd h2 h, fun h2 => absurd h2.1 h⟩
  · have h1' : orI (c1 a b) (c2 a b) < 0 := h1
    have h2' : orI (c1 b d) (c2 b d) < 0 := h2
    show orI (c1 a d) (c2 a d) < 0
    have k1 : c1 a b ≤ 0 := by unfold orI at h1'; split at h1' <;> omega
    have k2 : c1 b d ≤ 0 := by unfold orI at h2'; split at h2' <;> omega
    have z := z1 a b d ha hb hd k1 k2
    unfold orI
    split <;> rename_i h
    · have zz := z.2 h
      unfold orI at h1' h2'
      rw [if_pos zz.1] at h1'
      rw [if_pos zz.2] at h2'
      exact r2 a b d ha hb hd zz.1 zz.2 h1' h2'
    · omega
theorem TO.le {α : Type} {P : α → Prop} {c : α → α → Int} (h : TO P c) : ∀ a b d, P a → P b → P d → c a b ≤ 0 → c b d ≤ 0 → c a d ≤ 0 ∧ (c a d = 0 → c a b = 0 ∧ c b d = 0) := by
  intro a b d ha hb hd h1 h2
  by_cases e1 : c a b = 0
  · have := (h.eq a b ha hb).1 e1
    subst this
    exact ⟨h2, fun h3 => ⟨e1, h3⟩⟩
  · by_cases e2 : c b d = 0
    · have := (h.eq b d hb hd).1 e2
      subst this
      exact ⟨h1, fun h3 => ⟨h3, e2⟩⟩
    · have := h.tr a b d ha hb hd (by omega) (by omega)
      exact ⟨by omega, fun h3 => by omega⟩
theorem TO.keys {α β γ : Type} {P : α → Prop} {Q : β → Prop} {R : γ → Prop} {c : β → β → Int} {d : γ → γ → Int} (f : α → β) (g : α → γ) (hc : TO Q c) (hd : TO R d) (hf : ∀ a, P a → Q (f a)) (hg : ∀ a, P a → R (g a)) (inj : ∀ a b, f a = f b → g a = g b → a = b) : TO P (fun a b => orI (c (f a) (f b)) (d (g a) (g b))) := by
  refine TO.or (fun a b => hc.tri _ _) (fun a b ha hb => hc.sym _ _ (hf a ha) (hf b hb)) (fun a b d ha hb hd => hc.le _ _ _ (hf a ha) (hf b hb) (hf d hd)) (fun a b => hd.tri _ _) (fun a b ha hb _ => hd.sym _ _ (hg a ha) (hg b hb)) (fun a b ha hb => ?_) (fun a b d' ha hb hd' _ _ => hd.tr _ _ _ (hg a ha) (hg b hb) (hg d' hd'))
  rw [hc.eq _ _ (hf a ha) (hf b hb), hd.eq _ _ (hg a ha) (hg b hb)]
  exact ⟨fun h => inj a b h.1 h.2, fun h => by subst h; exact ⟨rfl, rfl⟩⟩
theorem numC_to : TO (fun _ : B => True) numC := by
  refine TO.or (c1 := fun a b : B => cmpN a.length b.length) (fun a b => cmpN_to.tri _ _) (fun a b _ _ => cmpN_to.sym _ _ trivial trivial) (fun a b d _ _ _ => cmpN_to.le _ _ _ trivial trivial trivial) lexC_tri (fun a b _ _ _ => lexC_sym a b) (fun a b _ _ => ?_) (fun a b d _ _ _ _ _ => lexC_tr a b d)
  rw [lexC_eq]
  exact ⟨fun h => h.2, fun h => by subst h; exact ⟨(cmpN_to.eq _ _ trivial trivial).2 rfl, rfl⟩⟩
theorem wordC_to : TO (fun _ : B => True) wordC := by
  refine ⟨fun a b => ?_, fun a b _ _ => ?_, fun a b _ _ => ?_, fun a b d _ _ _ => ?_⟩
  · have h1 := numC_to.tri a b
    have h2 := lexC_tri a b
    unfold wordC
    repeat' split
    all_goals first | assumption | omega
  · have h1 := numC_to.sym a b trivial trivial
    have h2 := lexC_sym a b
    unfold wordC
    cases isNum a <;> cases isNum b <;> simp_all
  · have h1 := numC_to.eq a b trivial trivial
    have h2 := lexC_eq a b
    unfold wordC
    by_cases ha : isNum a = true <;> by_cases hb : isNum b = true <;> simp only [ha, hb, if_true, if_false, Bool.false_eq_true] <;> first | exact h1 | exact h2 | skip
    · exact ⟨fun h => absurd h (by decide), fun h => by subst h; exact absurd ha hb⟩
    · exact ⟨fun h => absurd h (by decide), fun h => by subst h; exact absurd hb ha⟩
  · have h1 := numC_to.tr a b d trivial trivial trivial
    have h2 := lexC_tr a b d
    unfold wordC
    cases isNum a <;> cases isNum b <;> cases isNum d <;> simp <;> assumption
theorem wordsC_to : TO (fun _ : List B => True) wordsC := by
  have tri : ∀ a b, wordsC a b = -1 ∨ wordsC a b = 0 ∨ wordsC a b = 1 := by
    intro a
    induction a with
    | nil => intro b; cases b <;> simp [wordsC]
    | cons x a ih => intro b; cases b with
      | nil => simp [wordsC]
      | cons y b => exact orI_tri (wordC_to.tri _ _) (ih b)
  refine ⟨tri, fun a => ?_, fun a => ?_, fun a => ?_⟩
  · induction a with
    | nil => intro b _ _; cases b <;> simp [wordsC]
    | cons x a ih =>
      intro b _ _
      cases b with
      | nil => simp [wordsC]
      | cons y b =>
        have h1 := wordC_to.sym x y trivial trivial
        have h2 := ih b trivial trivial
        simp only [wordsC]
        unfold orI
        split <;> split <;> omega
  · induction a with
    | nil => intro b _ _; cases b <;> simp [wordsC]
    | cons x a ih =>
      intro b _ _
      cases b with
      | nil => simp [wordsC]
      | cons y b =>
        have h1 := wordC_to.eq x y trivial trivial
        have h2 := ih b trivial trivial
        simp only [wordsC, List.cons.injEq]
        unfold orI
        split <;> rename_i h
        · rw [h2]; exact ⟨fun h3 => ⟨h1.1 h, h3⟩, fun h3 => h3.2⟩
        · exact ⟨fun h3 => absurd h3 h, fun h3 => absurd (h1.2 h3.1) h⟩
  · induction a with
    | nil =>
      intro b d _ _ _ h1 h2
      cases b with
      | nil => simp [wordsC] at h1
      | cons y b => cases d with
        | nil => simp [wordsC] at h2
        | cons => simp [wordsC]
    | cons x a ih =>
      intro b d _ _ _ h1 h2
      cases b with
      | nil => simp [wordsC] at h1
      | cons y b => cases d with
        | nil => simp [wordsC] at h2
        | cons z d =>
          have h3 := ih b d trivial trivial trivial
          simp only [wordsC] at h1 h2 ⊢
          have k1 : wordC x y ≤ 0 := by unfold orI at h1; split at h1 <;> omega
          have k2 : wordC y z ≤ 0 := by unfold orI at h2; split at h2 <;> omega
          have z := wordC_to.le x y z trivial trivial trivial k1 k2
          unfold orI at *
          split
          · rename_i h
            rw [if_pos (z.2 h).1] at h1
            rw [if_pos (z.2 h).2] at h2
            exact h3 h1 h2
          · omega
theorem pre_to : TO (fun _ : List B => True) (fun x y => orI (flagC x y) (wordsC x y)) := by
  refine TO.or (fun a b => ?_) (fun a b _ _ => ?_) (fun a b d _ _ _ => ?_) wordsC_to.tri (fun a b _ _ _ => wordsC_to.sym a b trivial trivial) (fun a b _ _ => ?_) (fun a b d _ _ _ _ _ => wordsC_to.tr a b d trivial trivial trivial)
  · unfold flagC; repeat' split
    all_goals omega
  · unfold flagC; repeat' split
    all_goals omega
  · unfold flagC; repeat' split
    all_goals omega
  · rw [wordsC_to.eq _ _ trivial trivial]
    exact ⟨fun h => h.2, fun h => by subst h; refine ⟨?_, rfl⟩; unfold flagC; split <;> rfl⟩
theorem verC_to : TO (fun _ : VP => True) verC :=
  TO.keys (fun x : VP => x.1) (fun x : VP => x.2) numC_to
    (TO.keys (P := fun _ => True) (fun x : B × B × List B => x.1) (fun x => x.2) numC_to
      (TO.keys (P := fun _ => True) (fun x : B × List B => x.1) (fun x => x.2) numC_to pre_to (fun _ _ => trivial) (fun _ _ => trivial) (fun a b h1 h2 => Prod.ext h1 h2))
      (fun _ _ => trivial) (fun _ _ => trivial) (fun a b h1 h2 => Prod.ext h1 h2))
    (fun _ _ => trivial) (fun _ _ => trivial) (fun a b h1 h2 => Prod.ext h1 h2)
theorem preC_eq (x y : List B) : preC x y = orI (flagC x y) (wordsC x y) := by
  unfold preC flagC orI
  cases x <;> cases y <;> simp [wordsC, cmpN]
end Gw
end
section
namespace Go.Proofs.YtohdmmafjpjmfaaGreatDoor.Q
open Go Go.RowKit Go.Proofs.YtohdmmafjpjmfaaGreatDoorW.PrintWords Go.Proofs.YtohdmmafjpjmfaaGreatDoorW.PrintLast Go.Proofs.YtohdmmafjpjmfaaGreatDoorW.PrintMore Gw
set_option linter.unusedVariables false
set_option linter.unusedSimpArgs false
theorem less_lex : ∀ x y : List UInt8, Op.bytesLess x y = decide (lexC (x.map UInt8.toNat) (y.map UInt8.toNat) = -1)
  | [], [] => rfl
  | [], _ :: _ => rfl
  | _ :: _, [] => by simp [Op.bytesLess, lexC]
  | a :: x, b :: y => by
    have ih := less_lex x y
    simp only [Op.bytesLess, List.map_cons, lexC, ih]
    by_cases h1 : a.toNat < b.toNat
    · have : a < b := h1
      simp [h1, this]
    · have h1' : ¬ a < b := h1
      by_cases h2 : b.toNat < a.toNat
      · have h3 : a ≠ b := fun e => by subst e; omega
        simp [h1, h1', h2, h3]
      · have h3 : a = b := UInt8.toNat_inj.1 (by omega)
        subst h3
        simp
theorem str_less (a b : ByteArray) : Op.bytesLess a.toList b.toList = decide (lexC (bs a) (bs b) = -1) := by
  rw [less_lex, ByteArray.toList_eq, ByteArray.toList_eq]; rfl
theorem str_eq (a b : ByteArray) : (a.toList == b.toList) = decide (a = b) := by
  rw [ByteArray.toList_eq, ByteArray.toList_eq]
  by_cases h : a = b
  · subst h; simp
  · rw [decide_eq_false h, beq_eq_false_iff_ne]
    intro e
    apply h
    cases a; cases b; simp only [ByteArray.mk.injEq]; exact Array.toList_inj.1 e
theorem less_asymm {x y : List UInt8} (h : Op.bytesLess x y = true) : Op.bytesLess y x = false := by
  rw [less_lex] at h ⊢
  have := of_decide_eq_true h
  rw [lexC_sym, this]
  rfl
theorem run_gtr_str (P : Program) (w : World) (t : TypeId) (a b : ByteArray) : Sem.run P (binOp .gtr t (.string a) (.string b)) w = .ok (.bool (Op.bytesLess b.toList a.toList)) w := by
  have e : (!(Op.bytesLess a.toList b.toList || a.toList == b.toList)) = Op.bytesLess b.toList a.toList := by
    cases h1 : Op.bytesLess a.toList b.toList
    · cases h2 : Op.bytesLess b.toList a.toList
      · rw [bytes_eq h1 h2]; rfl
      · rw [bytes_ne h2]; rfl
    · rw [less_asymm h1]; rfl
  rw [← e]
  rfl
end Go.Proofs.YtohdmmafjpjmfaaGreatDoor.Q
end
section
set_option linter.unusedVariables false
namespace Gw
def glueS (sep : Nat) : List B → B
  | [] => []
  | [p] => p
  | p :: q :: r => p ++ sep :: glueS sep (q :: r)
theorem glue_parts (sep : Nat) : ∀ s, glueS sep (parts sep s) = s
  | [] => rfl
  | c :: r => by
    have ih := glue_parts sep r
    obtain ⟨p, ps, hp⟩ := parts_cons sep r
    by_cases h : c = sep
    · subst h
      rw [parts_sep, hp]
      rw [hp] at ih
      simp [glueS, ih]
    · rw [parts_other h hp]
      rw [hp] at ih
      cases ps with
      | nil => simp [glueS] at ih ⊢; exact ih
      | cons q qs => simp [glueS] at ih ⊢; exact ih
theorem parts_inj {sep : Nat} {s t : B} (h : parts sep s = parts sep t) : s = t := by rw [← glue_parts sep s, h, glue_parts]
theorem cut_back : ∀ s, s = (cutDash s).1 ++ (match (cutDash s).2 with | none => [] | some r => 45 :: r)
  | [] => rfl
  | c :: r => by
    have ih := cut_back r
    unfold cutDash
    split
    · rename_i h; subst h; simp
    · show c :: r = (c :: (cutDash r).1) ++ _
      rw [List.cons_append]
      exact congrArg (List.cons c) ih
theorem vcore_inj {c c' : B} {p p' : Option B} {v : VP} (h : vcore c p = some v) (h' : vcore c' p' = some v) : c = c' ∧ p = p' := by
  have key : ∀ {c : B} {p : Option B}, vcore c p = some v → parts 46 c = [v.1, v.2.1, v.2.2.1] ∧ (match p with | none => v.2.2.2 = [] | some r => v.2.2.2 = parts 46 r) := by
    intro c p h
    unfold vcore at h
    split at h
    · rename_i a b d hp
      split at h
      · unfold vpre at h
        split at h
        · injection h with h
          subst h
          exact ⟨hp, rfl⟩
        · split at h
          · injection h with h
            subst h
            exact ⟨hp, rfl⟩
          · cases h
      · cases h
    · cases h
  obtain ⟨h1, h2⟩ := key h
  obtain ⟨h3, h4⟩ := key h'
  refine ⟨parts_inj (h1.trans h3.symm), ?_⟩
  cases p with
  | none =>
    cases p' with
    | none => rfl
    | some r => exact absurd (h4.symm.trans h2) (parts_ne _ _)
  | some r =>
    cases p' with
    | none => exact absurd (h2.symm.trans h4) (parts_ne _ _)
    | some r' => rw [parts_inj (h2.symm.trans h4)]
theorem vparts_inj {s t : B} {v : VP} (h : vparts s = some v) (h' : vparts t = some v) : s = t := by
  unfold vparts at h h'
  split at h
  · split at h'
    · rename_i r _ r'
      obtain ⟨h1, h2⟩ := vcore_inj h h'
      have e1 := cut_back r
      have e2 := cut_back r'
      rw [h1, h2] at e1
      rw [e1.trans e2.symm]
    · cases h'
  · cases h
def vOf (s : B) : VP := (vparts s).getD ([], [], [], [])
abbrev NP := B × B
def isNode (n : NP) : Bool := isPath n.1 && isVersion n.2
def nodC (a b : NP) : Int := orI (lexC a.1 b.1) (verC (vOf a.2) (vOf b.2))
theorem vOf_inj {s t : B} (hs : isVersion s = true) (ht : isVersion t = true) (h : vOf s = vOf t) : s = t := by
  rw [← vparts_some] at hs ht
  obtain ⟨v, hv⟩ := Option.isSome_iff_exists.1 hs
  obtain ⟨u, hu⟩ := Option.isSome_iff_exists.1 ht
  unfold vOf at h
  rw [hv, hu] at h
  simp only [Option.getD_some] at h
  subst h
  exact vparts_inj hv hu
theorem nodC_to : TO (fun n : NP => isVersion n.2 = true) nodC := by
  refine TO.or (fun a b => lexC_tri _ _) (fun a b _ _ => lexC_sym _ _) (fun a b d _ _ _ => lexC_to.le _ _ _ trivial trivial trivial) (fun a b => verC_to.tri _ _) (fun a b _ _ _ => verC_to.sym _ _ trivial trivial) (fun a b ha hb => ?_) (fun a b d _ _ _ _ _ => verC_to.tr _ _ _ trivial trivial trivial)
  rw [lexC_eq, verC_to.eq _ _ trivial trivial]
  exact ⟨fun h => Prod.ext h.1 (vOf_inj ha hb h.2), fun h => by subst h; exact ⟨rfl, rfl⟩⟩
end Gw
end
section
namespace Go.Proofs.YtohdmmafjpjmfaaGreatDoor.Q
open Go Go.RowKit Go.Proofs.YtohdmmafjpjmfaaGreatDoorW.PrintWords Go.Proofs.YtohdmmafjpjmfaaGreatDoorW.PrintLast Go.Proofs.YtohdmmafjpjmfaaGreatDoorW.PrintMore
section
variable {P : Program} {ops : Array Oper} {Q : Exit → Act → World → Prop} {md : Region.Mode} {S : World → Prop} {ds : List Nat} {T : Bool × List (List Nat × List Nat)}
theorem pz_ {v : Value} (i : Nat) (N : Tmp) {oi : Oper} {fuel : Nat} {l : Array Bool} {a a' : Act} {w : World} (hT : rtab md ops = T) (h : wpAnyLast P md ops Q S ds fuel (l.setIfInBounds i true) a' w)
    (hi : ops[i]? = some oi := by rfl) (hN : oi.dst = some N := by rfl) (hc : anyT T l.toList (l.setIfInBounds i true).toList i = true := by kernel_rfl)
    (hQ : ∀ c a w, Q (.panic c) (a.put oi.dst v) w → Q (.panic c) a w := by exact fun _ _ _ h => h) (hw : Region.wanted oi (yielded ops a.tmps) = true := by rfl)
    (hy : ∀ w, (execOp a.eval oi).run P w = .ok (.value v) w := by (intro w'; go_simp; first | done | with_reducible rfl))
    (ha : a.put (some N) v = a' := by (simp only [Act.put, List.setIfInBounds_toArray, List.set_cons_zero, List.set_cons_succ, i64_w, i32_w]; rfl)) : wpAnyLast P md ops Q S ds (fuel + 1) l a w :=
  pure_ (i := i) _ hi hN (any_of hT hc) hQ (Or.inl ⟨hw, hy⟩) ha h
theorem pu_ (i : Nat) (N : Tmp) {oi : Oper} {fuel : Nat} {l : Array Bool} {a a' : Act} {w : World} (hT : rtab md ops = T) (h : wpAnyLast P md ops Q S ds fuel (l.setIfInBounds i true) a' w)
    (hi : ops[i]? = some oi := by rfl) (hN : oi.dst = some N := by rfl) (hc : anyT T l.toList (l.setIfInBounds i true).toList i = true := by kernel_rfl)
    (hQ : ∀ c a w, Q (.panic c) (a.put oi.dst undef) w → Q (.panic c) a w := by exact fun _ _ _ h => h) (hw : Region.wanted oi (yielded ops a.tmps) = false := by rfl)
    (ha : a.put (some N) undef = a' := by (simp only [Act.put, List.setIfInBounds_toArray, List.set_cons_zero, List.set_cons_succ, i64_w, i32_w]; rfl)) : wpAnyLast P md ops Q S ds (fuel + 1) l a w :=
  pure_ (i := i) _ hi hN (any_of hT hc) hQ (Or.inr ⟨hw, rfl⟩) ha h
theorem tz_ {v : Value} (i : Nat) (N : Tmp) {oi : Oper} {fuel : Nat} {l : Array Bool} {a a' : Act} {w : World} {B : List Nat} (hT : rtab md ops = T) (hB : waitsOk T.2 B = true) (hS : S w) (h : wpAnyLast P md ops Q S ds fuel (l.setIfInBounds i true) a' w)
    (hi : ops[i]? = some oi := by rfl) (hN : oi.dst = some N := by rfl) (hc : takeW T B ds l.toList (l.setIfInBounds i true).toList i = true := by kernel_rfl)
    (hQ : ∀ c a w, Q (.panic c) (a.put oi.dst v) w → Q (.panic c) a w := by exact fun _ _ _ h => h) (hw : Region.wanted oi (yielded ops a.tmps) = true := by rfl)
    (hy : ∀ w, S w → (execOp a.eval oi).run P w = .ok (.value v) w := by (intro w' hs; (try dsimp only at hs); go_simp; first | done | with_reducible rfl))
    (ha : a.put (some N) v = a' := by (simp only [Act.put, List.setIfInBounds_toArray, List.set_cons_zero, List.set_cons_succ, i64_w, i32_w]; rfl)) : wpAnyLast P md ops Q S ds (fuel + 1) l a w :=
  take_ (i := i) _ hi hN (take_ofW hT hB hc) hQ (Or.inl ⟨hw, hy⟩) hS ha h
theorem nz_ {d : Option Tmp} {v : Value} (N : Tmp) {fuel : Nat} {l : Array Bool} {a a' : Act} {w : World} (h : wpAnyLast P md ops Q S ds fuel l a' w) (hd : d = some N := by rfl)
    (ha : a.put (some N) v = a' := by (simp only [Act.put, List.setIfInBounds_toArray, List.set_cons_zero, List.set_cons_succ, i64_w, i32_w]; rfl)) : wpAnyLast P md ops Q S ds fuel l (a.put d v) w :=
  norm_ (by rw [hd]; exact ha) h
end
end Go.Proofs.YtohdmmafjpjmfaaGreatDoor.Q
end
section
namespace Go.Proofs.YtohdmmafjpjmfaaGreatDoor.Q
open Go.RowKit Go.Proofs.YtohdmmafjpjmfaaGreatDoorW.PrintWords Go.Proofs.YtohdmmafjpjmfaaGreatDoorW.PrintLast Go.Proofs.YtohdmmafjpjmfaaGreatDoorW.PrintMore
attribute [local go_sem] max2_int min2_int max_two min_two max_three min_three max_four min_four   -- for this text's walks alone
set_option linter.unusedVariables false
set_option linter.unusedSimpArgs false
def errW : Option Int → Value
  | none => .nilIface
  | some c => .iface 0 (.int .i64 c)
theorem errW_none : errW none = .nilIface := rfl
theorem errW_some (c : Int) : errW (some c) = .iface 0 (.int .i64 c) := rfl
theorem info34 : (Tryz.prog.info? 34).map (fun i => (i.zero, i.size, i.bytes)) = some (some (.agg #[(.string ⟨#[]⟩), (.string ⟨#[]⟩)]), 2, 32) := by kernel_rfl
theorem info48 : (Tryz.prog.info? 48).map (fun i => (i.zero, i.size, i.bytes)) = some (some (.agg #[(.string ⟨#[]⟩), (.string ⟨#[]⟩), (.int .i64 0)]), 3, 40) := by kernel_rfl
structure S34 where
  f0 : ByteArray
  f1 : ByteArray
def z34 : S34 := ⟨(⟨#[]⟩ : ByteArray), (⟨#[]⟩ : ByteArray)⟩
def k34 : Kd S34 := Kd.iso (Kd.pair Kd.string Kd.string) (fun x : S34 => (x.f0, x.f1))
theorem k34_open {w : World} {x : S34} {cs : List Value} (h : k34.K w x cs) : cs = [.string x.f0, .string x.f1] := by
  obtain ⟨_, _, rfl, rfl, rfl⟩ := h
  exact rfl
theorem k34_openM {w : World} {base : Nat} {ok : Nat → Prop} {x : S34} {cs : List Value} (h : k34.M w base ok x cs) : cs = [.string x.f0, .string x.f1] := by
  obtain ⟨_, _, rfl, rfl, rfl⟩ := h
  exact rfl
theorem k34_mk (w : World) (x : S34)  : k34.K w x [.string x.f0, .string x.f1] := ⟨[.string x.f0], [.string x.f1], rfl, rfl, rfl⟩
theorem k34_mkM (w : World) (base : Nat) (ok : Nat → Prop) (x : S34)  : k34.M w base ok x [.string x.f0, .string x.f1] := ⟨[.string x.f0], [.string x.f1], rfl, rfl, rfl⟩
def rd_T34 (xs : List S34) (i : Int) : S34 := xs.getD i.toNat z34
theorem at_T34 {w : World} {A : Option Addr} {n : Nat} {xs : List S34} (h : Kd.C k34 w A n xs) (i : Int) (h0 : 0 ≤ i) (h1 : i < n) : ∃ ad , A = some ad ∧ w.cell? (ad.add (i.toNat * 2)) = some (.string (rd_T34 xs i).f0) ∧ w.cell? ⟨(ad.add (i.toNat * 2)).block, (ad.add (i.toNat * 2)).off + 1, none⟩ = some (.string (rd_T34 xs i).f1) := by
  obtain ⟨ad, c, e, _, hK, hc0⟩ := Kd.C_get h z34 i h0 h1
  have hc : ∀ j u, c[j]? = some u → w.cell? (ad.add (i.toNat * 2 + j)) = some u := hc0
  obtain rfl := k34_open hK
  exact ⟨ad, e, hc 0 _ rfl, by rw [← add_field _ _ 1 (by omega)]; exact hc 1 _ rfl⟩
structure S48 where
  f0 : S34
  f1 : Int
def z48 : S48 := ⟨z34, (0 : Int)⟩
def k48 : Kd S48 := Kd.iso (Kd.pair k34 (Kd.int .i64)) (fun x : S48 => (x.f0, x.f1))
theorem k48_open {w : World} {x : S48} {cs : List Value} (h : k48.K w x cs) : cs = [.string x.f0.f0, .string x.f0.f1, .int .i64 x.f1] := by
  obtain ⟨_, _, rfl, s0, rfl⟩ := h
  obtain rfl := k34_open s0
  exact rfl
theorem k48_mk (w : World) (x : S48)  : k48.K w x [.string x.f0.f0, .string x.f0.f1, .int .i64 x.f1] := ⟨[.string x.f0.f0, .string x.f0.f1], [.int .i64 x.f1], rfl, (k34_mk w x.f0 ), rfl⟩
theorem k48_mkM (w : World) (base : Nat) (ok : Nat → Prop) (x : S48)  : k48.M w base ok x [.string x.f0.f0, .string x.f0.f1, .int .i64 x.f1] := ⟨[.string x.f0.f0, .string x.f0.f1], [.int .i64 x.f1], rfl, (k34_mkM w base ok x.f0 ), rfl⟩
def rd_T48 (xs : List S48) (i : Int) : S48 := xs.getD i.toNat z48
theorem at_T48 {w : World} {A : Option Addr} {n : Nat} {xs : List S48} (h : Kd.C k48 w A n xs) (i : Int) (h0 : 0 ≤ i) (h1 : i < n) : ∃ ad , A = some ad ∧ w.cell? (ad.add (i.toNat * 3)) = some (.string (rd_T48 xs i).f0.f0) ∧ w.cell? ⟨(ad.add (i.toNat * 3)).block, (ad.add (i.toNat * 3)).off + 1, none⟩ = some (.string (rd_T48 xs i).f0.f1) ∧ w.cell? ⟨(ad.add (i.toNat * 3)).block, (ad.add (i.toNat * 3)).off + 2, none⟩ = some (.int .i64 (rd_T48 xs i).f1) := by
  obtain ⟨ad, c, e, _, hK, hc0⟩ := Kd.C_get h z48 i h0 h1
  have hc : ∀ j u, c[j]? = some u → w.cell? (ad.add (i.toNat * 3 + j)) = some u := hc0
  obtain rfl := k48_open hK
  exact ⟨ad, e, hc 0 _ rfl, by rw [← add_field _ _ 1 (by omega)]; exact hc 1 _ rfl, by rw [← add_field _ _ 2 (by omega)]; exact hc 2 _ rfl⟩
end Go.Proofs.YtohdmmafjpjmfaaGreatDoor.Q
end
