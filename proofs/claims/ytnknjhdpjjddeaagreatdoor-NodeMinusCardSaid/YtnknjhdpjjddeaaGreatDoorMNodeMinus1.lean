/- Part 1 of this claim: several texts one behind the other: DOct, DOct2, DElem, DFcmpisNaNint, DFcmpCompareint, DFnumberMay, DFnumberCmp, DFversionnumbers, DFversionwords, DVers. What each shows stands in its theorems; conditions: sizes of texts and lists, as the functions' definitions say. -/
import Derived.Test.YtnknjhdpjjddeaaGreatDoorVNodeMinus
import Derived.Test.YtnknjhdpjjddeaaGreatDoorMNodeMinus0
import Derived.Test.YtnknjhdpjjddeaaGreatDoorProg
import Derived.WalkKit
import Derived.ProofKit
import Derived.RegionTactic
import Derived.BigRegion
import Derived.ChangeAlike
import Derived.Shelf.SlicesQ.Load
import Derived.Laws.Cells
import Derived.Deep.WholeRow
import Derived.Laws.Rows
import Derived.Laws.Tables
section
namespace Go.Proofs.YtnknjhdpjjddeaaGreatDoor.QB.D
open Go.Proofs.YtnknjhdpjjddeaaGreatDoor.Q
open Go.RowKit Go.Lib Go.Proofs.YtnknjhdpjjddeaaGreatDoorW.PrintWords Go.Proofs.YtnknjhdpjjddeaaGreatDoorW.PrintLast Go.Proofs.YtnknjhdpjjddeaaGreatDoorW.PrintMore
set_option linter.unusedVariables false
set_option linter.unusedSimpArgs false
/-! The classes' octets, as classes() lists them. -/
abbrev Cat1 : ByteArray := ⟨#[48, 49, 50, 51, 52, 53, 54, 55, 56, 57]⟩
abbrev Cat2 : ByteArray := ⟨#[97, 98, 99, 100, 101, 102, 103, 104, 105, 106, 107, 108, 109, 110, 111, 112, 113, 114, 115, 116, 117, 118, 119, 120, 121, 122, 65, 66, 67, 68, 69, 70, 71, 72, 73, 74, 75, 76, 77, 78, 79, 80, 81, 82, 83, 84, 85, 86, 87, 88, 89, 90]⟩
abbrev Cat3 : ByteArray := ⟨#[45, 46, 95, 126]⟩
abbrev Cat4 : ByteArray := ⟨#[47]⟩
abbrev Cat5 : ByteArray := ⟨#[32, 9]⟩
abbrev Cat6 : ByteArray := ⟨#[10]⟩
abbrev Cat7 : ByteArray := ⟨#[34]⟩
abbrev Cat8 : ByteArray := ⟨#[40]⟩
abbrev Cat9 : ByteArray := ⟨#[41]⟩
def catS : Nat → ByteArray
  | 1 => Cat1
  | 2 => Cat2
  | 3 => Cat3
  | 4 => Cat4
  | 5 => Cat5
  | 6 => Cat6
  | 7 => Cat7
  | 8 => Cat8
  | 9 => Cat9
  | _ => ⟨#[]⟩
def putAll (c : Nat) (a : Array Value) (l : List UInt8) : Array Value := l.foldl (fun a x => a.setIfInBounds x.toNat (.int .i64 (c : Int))) a
/-- The table behind the first i classes. -/
def tabA : Nat → Array Value
  | 0 => Array.replicate 256 (.int .i64 0)
  | i + 1 => putAll i (tabA i) (catS i).data.toList
theorem putAll_snoc (c : Nat) (a : Array Value) (l : List UInt8) (x : UInt8) : putAll c a (l ++ [x]) = (putAll c a l).setIfInBounds x.toNat (.int .i64 (c : Int)) := by simp [putAll]
theorem putAll_size (c : Nat) (l : List UInt8) : ∀ a : Array Value, (putAll c a l).size = a.size := by
  induction l with
  | nil => intro a; rfl
  | cons x r ih => intro a; show (putAll c (a.setIfInBounds x.toNat _) r).size = _; rw [ih]; simp
theorem tabA_size : ∀ i, (tabA i).size = 256
  | 0 => by simp [tabA]
  | i + 1 => by rw [tabA, putAll_size]; exact tabA_size i
def clsV : Array Value := tabA 10
theorem cat_idx (i : Nat) (hi : i < 10) (w : World) : (Instr.index 117 (.agg #[.string ⟨#[]⟩, .string Cat1, .string Cat2, .string Cat3, .string Cat4, .string Cat5, .string Cat6, .string Cat7, .string Cat8, .string Cat9]) (.int .i64 (i : Int))).run Tryz.prog w = .ok (.string (catS i)) w := by
  have h0 : ∀ w, (Instr.index 117 (.agg #[.string ⟨#[]⟩, .string Cat1, .string Cat2, .string Cat3, .string Cat4, .string Cat5, .string Cat6, .string Cat7, .string Cat8, .string Cat9]) (.int .i64 0)).run Tryz.prog w = .ok (.string (catS 0)) w := fun _ => by kernel_rfl
  have h1 : ∀ w, (Instr.index 117 (.agg #[.string ⟨#[]⟩, .string Cat1, .string Cat2, .string Cat3, .string Cat4, .string Cat5, .string Cat6, .string Cat7, .string Cat8, .string Cat9]) (.int .i64 1)).run Tryz.prog w = .ok (.string (catS 1)) w := fun _ => by kernel_rfl
  have h2 : ∀ w, (Instr.index 117 (.agg #[.string ⟨#[]⟩, .string Cat1, .string Cat2, .string Cat3, .string Cat4, .string Cat5, .string Cat6, .string Cat7, .string Cat8, .string Cat9]) (.int .i64 2)).run Tryz.prog w = .ok (.string (catS 2)) w := fun _ => by kernel_rfl
  have h3 : ∀ w, (Instr.index 117 (.agg #[.string ⟨#[]⟩, .string Cat1, .string Cat2, .string Cat3, .string Cat4, .string Cat5, .string Cat6, .string Cat7, .string Cat8, .string Cat9]) (.int .i64 3)).run Tryz.prog w = .ok (.string (catS 3)) w := fun _ => by kernel_rfl
  have h4 : ∀ w, (Instr.index 117 (.agg #[.string ⟨#[]⟩, .string Cat1, .string Cat2, .string Cat3, .string Cat4, .string Cat5, .string Cat6, .string Cat7, .string Cat8, .string Cat9]) (.int .i64 4)).run Tryz.prog w = .ok (.string (catS 4)) w := fun _ => by kernel_rfl
  have h5 : ∀ w, (Instr.index 117 (.agg #[.string ⟨#[]⟩, .string Cat1, .string Cat2, .string Cat3, .string Cat4, .string Cat5, .string Cat6, .string Cat7, .string Cat8, .string Cat9]) (.int .i64 5)).run Tryz.prog w = .ok (.string (catS 5)) w := fun _ => by kernel_rfl
  have h6 : ∀ w, (Instr.index 117 (.agg #[.string ⟨#[]⟩, .string Cat1, .string Cat2, .string Cat3, .string Cat4, .string Cat5, .string Cat6, .string Cat7, .string Cat8, .string Cat9]) (.int .i64 6)).run Tryz.prog w = .ok (.string (catS 6)) w := fun _ => by kernel_rfl
  have h7 : ∀ w, (Instr.index 117 (.agg #[.string ⟨#[]⟩, .string Cat1, .string Cat2, .string Cat3, .string Cat4, .string Cat5, .string Cat6, .string Cat7, .string Cat8, .string Cat9]) (.int .i64 7)).run Tryz.prog w = .ok (.string (catS 7)) w := fun _ => by kernel_rfl
  have h8 : ∀ w, (Instr.index 117 (.agg #[.string ⟨#[]⟩, .string Cat1, .string Cat2, .string Cat3, .string Cat4, .string Cat5, .string Cat6, .string Cat7, .string Cat8, .string Cat9]) (.int .i64 8)).run Tryz.prog w = .ok (.string (catS 8)) w := fun _ => by kernel_rfl
  have h9 : ∀ w, (Instr.index 117 (.agg #[.string ⟨#[]⟩, .string Cat1, .string Cat2, .string Cat3, .string Cat4, .string Cat5, .string Cat6, .string Cat7, .string Cat8, .string Cat9]) (.int .i64 9)).run Tryz.prog w = .ok (.string (catS 9)) w := fun _ => by kernel_rfl
  match i, hi with
  | 0, _ => exact h0 w
  | 1, _ => exact h1 w
  | 2, _ => exact h2 w
  | 3, _ => exact h3 w
  | 4, _ => exact h4 w
  | 5, _ => exact h5 w
  | 6, _ => exact h6 w
  | 7, _ => exact h7 w
  | 8, _ => exact h8 w
  | 9, _ => exact h9 w
theorem cat_size (i : Nat) : (catS i).size ≤ 52 := by
  unfold catS
  split <;> decide
theorem put_take (i k : Nat) (h : k < (catS i).size) (hi : i < 10) : putAll i (tabA i) ((catS i).data.toList.take (k + 1)) = (putAll i (tabA i) ((catS i).data.toList.take k)).setIfInBounds ((catS i)[k]).toNat (.int .i64 (i : Int)) := by
  rw [List.take_succ_eq_append_getElem (by simpa using h), putAll_snoc]
  rfl
set_option maxHeartbeats 2000000 in
set_option maxRecDepth 100000 in
theorem classes_calls (w : World) : Calls Tryz.prog 99 #[] w fun e w' => e = .returned (.agg clsV) ∧ w' = w.alloc (.cells clsV 113) := by
  go_enter Tryz.func99, Tryz.ntmps99
  go_wp2
  go_loopw [5] (fun v5 wr => ∃ i : Nat, i ≤ 10 ∧ v5 = .int .i64 (i : Int) ∧ wr = w.alloc (.cells (tabA i) 113)) (fun v5 _ => 10 - (RowKit.intOf v5).toNat)
  case atStart => exact ⟨0, by omega, rfl, rfl⟩
  case round =>
    obtain ⟨i, hi, rfl, rfl⟩ := hrel
    by_cases hil : i < 10
    · have hi1 : decide ((i : Int) < 10) = true := decide_eq_true (by omega)
      have hx := cat_idx i hil
      have hsz := cat_size i
      go_wp2
      go_loopw [11] (fun v11 wr => ∃ k : Nat, k ≤ (catS i).size ∧ v11 = .int .i64 (k : Int) ∧ wr = w.alloc (.cells (putAll i (tabA i) ((catS i).data.toList.take k)) 113)) (fun v11 _ => (catS i).size - (RowKit.intOf v11).toNat)
      case atStart => exact ⟨0, Nat.zero_le _, rfl, rfl⟩
      case round =>
        obtain ⟨k, hk, rfl, rfl⟩ := hrel
        by_cases hkl : k < (catS i).size
        · have hk1 : decide ((k : Int) < ((catS i).size : Int)) = true := decide_eq_true (by omega)
          have hk2 : decide (k < (catS i).size) = true := decide_eq_true hkl
          have hpt := put_take i k hkl hil
          have hps : (putAll i (tabA i) ((catS i).data.toList.take k)).size = 256 := by rw [putAll_size, tabA_size]
          have hb : ((catS i)[k].toNat : Int) < 256 := by have := (catS i)[k].toNat_lt; omega
          generalize hput : putAll i (tabA i) ((catS i).data.toList.take k) = P at hpt hps
          have hpc : P[(catS i)[k].toNat]? = some (P[(catS i)[k].toNat]'(by omega)) := Array.getElem?_eq_getElem _
          have Hpt := Aside0.mk hpt
          clear hpt hput
          go_wp2
          go_round
          case rel => exact ⟨k + 1, by omega, by go_num, by rw [Hpt.out]⟩
          case measure => simp [RowKit.intOf]; omega
        · obtain rfl : k = (catS i).size := by omega
          have hk1 : decide (((catS i).size : Int) < ((catS i).size : Int)) = false := decide_eq_false (by omega)
          rw [List.take_of_length_le (by simp)]
          go_wp2
          go_round
          case rel => exact ⟨i + 1, by omega, by go_num, rfl⟩
          case measure => simp [RowKit.intOf]; omega
    · obtain rfl : i = 10 := by omega
      have hpc : ∀ j (hj : j < 256), (tabA 10)[j]? = some ((tabA 10)[j]'(by rw [tabA_size]; exact hj)) := fun j hj => Array.getElem?_eq_getElem _
      clear hi hil
      show Code.wp _ _ _ _ (w.alloc (.cells clsV 113))
      clear hpc
      have hz : clsV.size = 256 := tabA_size 10
      have hs := run_storeCells_new (P := Tryz.prog) w 113 clsV clsV (by kernel_rfl) rfl (by kernel_rfl)
      obtain ⟨V, hV⟩ : ∃ V, V = clsV := ⟨_, rfl⟩
      rw [← hV] at hz hs ⊢
      have HV := Aside0.mk hV
      clear hV
      go_wp2
      refine wp_load_row 113 (.tmp 0) rfl w.heap.size rfl 113 V (0, 0) (.array 256 3) (heap_alloc_last w _) (by kernel_rfl) rfl (by rw [hz]; kernel_rfl) ?_
      go_wp2
      refine bodyPost_ret (v := .agg V) ?_ rfl ⟨by rw [HV.out], by rw [HV.out]⟩
      exact results_cell_row rfl _ _ w.heap.size 113 V (0, 0) (.array 256 3) rfl (heap_alloc_last w _) (by kernel_rfl) rfl (by rw [hz]; kernel_rfl)
end Go.Proofs.YtnknjhdpjjddeaaGreatDoor.QB.D
end

section
namespace Go.Proofs.YtnknjhdpjjddeaaGreatDoor.QB.D
open Go.Proofs.YtnknjhdpjjddeaaGreatDoor.Q
open Go.RowKit Go.Lib Go.Proofs.YtnknjhdpjjddeaaGreatDoorW.PrintWords Go.Proofs.YtnknjhdpjjddeaaGreatDoorW.PrintLast Go.Proofs.YtnknjhdpjjddeaaGreatDoorW.PrintMore Gw
set_option linter.unusedVariables false
set_option linter.unusedSimpArgs false
theorem clsV_eq : clsV = ((List.range 256).map fun c => Value.int .i64 (cls c : Nat)).toArray := by kernel_rfl
theorem clsV_at {c : Nat} (h : c < 256) : clsV[c]? = some (.int .i64 (cls c : Nat)) := by
  rw [clsV_eq]; simp [h]
theorem cls_lt : ∀ c < 256, cls c < 10 := by decide +kernel
theorem cls_idx {c : Nat} (h : c < 256) (w : World) : (Instr.index 113 (.agg clsV) (.int .u8 (c : Int))).run Tryz.prog w = .ok (.int .i64 (cls c : Nat)) w := by
  have hu : Tryz.prog.underlying 113 = some (.array 256 3) := by kernel_rfl
  have h1 : (c : Int) < 256 := by omega
  simp [Instr.index, run_underlying hu, asIntOf, h1, h, clsV_at h, Sem.run_bind, go_sem]
set_option maxHeartbeats 1000000 in
theorem Class_calls (c : Nat) (h : c < 256) (w : World) : Calls Tryz.prog 98 #[.int .u8 (c : Int)] w fun e w' => e = .returned (.int .i64 (cls c : Nat)) ∧ Below w.heap.size w w' := by
  have hi := cls_idx h
  go_enter Tryz.func98, Tryz.ntmps98
  go_wp2_with (go_at_call 99; refine (classes_calls _).mono ?_; rintro e w' ⟨rfl, rfl⟩)
  go_ret
  exact ⟨rfl, below_alloc (Below.refl _ _) _⟩
def octet_In.f (a0 : Int) (l0 : List Int) : Option Bool := if 0 ≤ a0 ∧ a0 < 256 then some (decide ((cls a0.toNat : Int) ∈ l0)) else none
set_option maxHeartbeats 1000000 in
theorem In_calls (c : Nat) (h : c < 256) (A0 : Option Addr) (c0 : Nat) (l0 : List Int) (w : World) (hr0 : Kd.C (Kd.int .i64) w A0 l0.length l0) : Calls Tryz.prog 90 #[.int .u8 (c : Int), .slice A0 l0.length c0] w fun e w' => e = .returned (.bool (decide ((cls c : Int) ∈ l0))) ∧ Below w.heap.size w w' := by
  have HR := Aside0.mk hr0
  clear hr0
  go_enter Tryz.func90, Tryz.ntmps90
  go_wp2_with (go_at_call 98; refine (Class_calls c h _).mono ?_; rintro e w1 ⟨rfl, hb⟩)
  have HB := Aside0.mk hb
  clear hb
  go_loopw [12] (fun v12 wr => ∃ k : Nat, k ≤ l0.length ∧ v12 = .int .i64 (k : Int) ∧ wr = w1 ∧ Aside0 (∀ x ∈ l0.take k, x ≠ (cls c : Int))) (fun v12 _ => l0.length - (RowKit.intOf v12).toNat)
  case atStart => exact ⟨0, Nat.zero_le _, rfl, rfl, ⟨fun x hx => by cases hx⟩⟩
  case round =>
    obtain ⟨k, hk, rfl, rfl, hA⟩ := hrel
    by_cases hkl : k < l0.length
    · have hk1 : decide ((k : Int) < (l0.length : Int)) = true := decide_eq_true (by omega)
      have hC := Kd.C_below HR.out HB.out
      have hmax := Kd.C_max hC
      have hw1 : wrap64 ((k : Int) + 1) = ((k + 1 : Nat) : Int) := by unfold wrap64; omega
      obtain ⟨ad, rfl, hx⟩ := Kd.at_int hC (k : Int) (by omega) (by omega)
      have hxk : rd l0 (k : Int) = l0[k] := by simp [rd, List.getD_eq_getElem?_getD, List.getElem?_eq_getElem hkl]
      rw [hxk, Int.toNat_natCast] at hx
      have htk : l0.take (k + 1) = l0.take k ++ [l0[k]] := List.take_succ_eq_append_getElem hkl
      have hmem : l0[k] ∈ l0 := List.getElem_mem hkl
      have Hmem := Aside0.mk hmem
      have Htk := Aside0.mk htk
      obtain ⟨x, hy⟩ : ∃ x, x = l0[k] := ⟨_, rfl⟩
      rw [← hy] at hx Htk Hmem
      clear hmem htk hy hC hxk
      by_cases he : x = (cls c : Int)
      · have e1 : (x == (cls c : Int)) = true := beq_iff_eq.2 he
        have hd : decide ((cls c : Int) ∈ l0) = true := decide_eq_true (he ▸ Hmem.out)
        have Hd := Aside0.mk hd
        clear he hd
        go_wp2
        go_ret
        exact ⟨by rw [Hd.out]; rfl, HB.out⟩
      · have e1 : (x == (cls c : Int)) = false := beq_eq_false_iff_ne.2 he
        have He := Aside0.mk he
        clear he
        go_wp2
        go_roundw
        case rel => exact ⟨k + 1, by omega, by first | rfl | go_num, by first | trivial | rfl, ⟨fun y hy => by
          rw [Htk.out, List.mem_append] at hy
          rcases hy with hy | hy
          · exact hA.out y hy
          · rw [List.mem_singleton.1 hy]; exact He.out⟩⟩
        case measure => simp [RowKit.intOf]; omega
    · obtain rfl : k = l0.length := by omega
      have hk1 : decide ((l0.length : Int) < (l0.length : Int)) = false := decide_eq_false (by omega)
      have hd : decide ((cls c : Int) ∈ l0) = false := decide_eq_false (fun hm => by
        have := hA.out _ (by rw [List.take_length]; exact hm)
        exact this rfl)
      have Hd := Aside0.mk hd
      clear hd
      go_wp2
      go_ret
      exact ⟨by rw [Hd.out]; rfl, HB.out⟩
theorem octet_In.calls (a0 : Int) (A0 : Option Addr) (c0 : Nat) (l0 : List Int) (r : Bool) (w : World) (hr0 : Kd.C (Kd.int .i64) w A0 l0.length l0) (hc0 : l0.length ≤ c0) (h : octet_In.f a0 l0 = some r) :
    Calls Tryz.prog 90 #[.int .u8 a0, .slice A0 l0.length c0] w fun e w' => e = .returned (.bool r) ∧ Below w.heap.size w w' := by
  unfold octet_In.f at h
  by_cases ha : 0 ≤ a0 ∧ a0 < 256
  · rw [if_pos ha] at h
    obtain rfl := Option.some.inj h
    obtain ⟨c, rfl⟩ := Int.eq_ofNat_of_zero_le ha.1
    exact In_calls c (by omega) A0 c0 l0 w hr0
  · rw [if_neg ha] at h; cases h
def mayA (l : List Int) : Array Value := ((List.range 10).map fun (j : Nat) => Value.bool (decide ((j : Int) ∈ l))).toArray
theorem mayA_nil : mayA [] = Array.replicate 10 (.bool false) := by kernel_rfl
theorem mayA_size (l : List Int) : (mayA l).size = 10 := by simp [mayA]
theorem mayA_at (l : List Int) {j : Nat} (h : j < 10) : (mayA l)[j]? = some (.bool (decide ((j : Int) ∈ l))) := by simp [mayA, h]
theorem mayA_snoc (l : List Int) {x : Nat} (h : x < 10) : (mayA l).setIfInBounds x (.bool true) = mayA (l ++ [(x : Int)]) := by
  apply Array.ext_getElem?
  intro j
  rw [Array.getElem?_setIfInBounds, mayA_size]
  by_cases hj : j < 10
  · rw [mayA_at _ hj, mayA_at _ hj]
    by_cases e : x = j
    · subst e; simp [h]
    · rw [if_neg e]
      have : ¬ (j : Int) = (x : Int) := by omega
      simp [this]
  · have h1 : (mayA l)[j]? = none := Array.getElem?_eq_none (by rw [mayA_size]; omega)
    have h2 : (mayA (l ++ [(x : Int)]))[j]? = none := Array.getElem?_eq_none (by rw [mayA_size]; omega)
    rw [h1, h2, if_neg (by omega)]
theorem mayA_skip (l : List Int) {x : Int} (h : x < 0 ∨ 10 ≤ x) : mayA (l ++ [x]) = mayA l := by
  apply Array.ext_getElem?
  intro j
  by_cases hj : j < 10
  · rw [mayA_at _ hj, mayA_at _ hj]
    have : ¬ (j : Int) = x := by omega
    simp [this]
  · rw [Array.getElem?_eq_none (by rw [mayA_size]; omega), Array.getElem?_eq_none (by rw [mayA_size]; omega)]
def octet_All.f (a0 : ByteArray) (l0 : List Int) : Option Bool := if Small a0 then some ((bs a0).all fun c => decide ((cls c : Int) ∈ l0)) else none
set_option maxHeartbeats 2000000 in
set_option maxRecDepth 100000 in
theorem octet_All.calls (a0 : ByteArray) (A0 : Option Addr) (c0 : Nat) (l0 : List Int) (r : Bool) (w : World) (hr0 : Kd.C (Kd.int .i64) w A0 l0.length l0) (hc0 : l0.length ≤ c0) (h : octet_All.f a0 l0 = some r) :
    Calls Tryz.prog 92 #[.string a0, .slice A0 l0.length c0] w fun e w' => e = .returned (.bool r) ∧ Below w.heap.size w w' := by
  unfold octet_All.f at h
  by_cases hs : Small a0
  case neg => rw [if_neg hs] at h; cases h
  rw [if_pos hs] at h
  have Hr := Aside0.mk (Option.some.inj h)
  have HS := Aside0.mk hs
  clear hs
  have HR := Aside0.mk hr0
  clear hr0 h hc0
  have hs : Sem.run Tryz.prog (storeCells ⟨w.heap.size + 1, 0, none⟩ clsV.toList) ((w.alloc (.cells clsV 113)).alloc (.cells Tryz.zeroCells113 113)) = .ok () ((w.alloc (.cells clsV 113)).alloc (.cells clsV 113)) := by
    have h := run_storeCells_new (P := Tryz.prog) (w.alloc (.cells clsV 113)) 113 Tryz.zeroCells113 clsV (by kernel_rfl) (by kernel_rfl) (by kernel_rfl)
    have e : (w.alloc (.cells clsV 113)).heap.size = w.heap.size + 1 := by simp
    rw [e] at h
    exact h
  go_enter Tryz.func92, Tryz.ntmps92
  go_wp2_with (go_at_call 99; refine (classes_calls _).mono ?_; rintro e w' ⟨rfl, rfl⟩)
  obtain ⟨W2, hW2⟩ : ∃ W2, W2 = (w.alloc (.cells clsV 113)).alloc (.cells clsV 113) := ⟨_, rfl⟩
  have e2 : w.heap.size + 1 + 1 = W2.heap.size := by rw [hW2]; simp
  have hB2 : Below w.heap.size w W2 := by rw [hW2]; exact below_alloc (below_alloc (Below.refl _ _) _) _
  have hc5 : ∀ c, c < 256 → W2.cell? ⟨w.heap.size + 1, c, none⟩ = some (.int .i64 (cls c : Nat)) := fun c hc => by
    have h := blk_cell (w := W2) (g := w.heap.size + 1) (t := 113) (cs := clsV) (by rw [hW2]; exact heap_alloc2_new w _ _) c
    rw [h, clsV_at hc]
  rw [← hW2, e2]
  have HB2 := Aside0.mk hB2
  have Hc5 := Aside0.mk hc5
  have He2 := Aside0.mk e2
  clear hB2 hc5 hW2 hs
  go_loopw [13] (fun v13 wr => ∃ k : Nat, k ≤ l0.length ∧ v13 = .int .i64 (k : Int) ∧ wr = W2.alloc (.cells (mayA (l0.take k)) 115)) (fun v13 _ => l0.length - (RowKit.intOf v13).toNat)
  case atStart => exact ⟨0, Nat.zero_le _, rfl, by rw [List.take_zero, mayA_nil]; first | rfl | (congr 2; kernel_rfl)⟩
  case round =>
    obtain ⟨k, hk, rfl, rfl⟩ := hrel
    by_cases hkl : k < l0.length
    · have hk1 : decide ((k : Int) < (l0.length : Int)) = true := decide_eq_true (by omega)
      have hC := Kd.C_below (HR.out) (below_alloc HB2.out (.cells (mayA (l0.take k)) 115))
      have hmax := Kd.C_max hC
      have hw1 : wrap64 ((k : Int) + 1) = ((k + 1 : Nat) : Int) := by unfold wrap64; omega
      obtain ⟨ad, rfl, hx⟩ := Kd.at_int hC (k : Int) (by omega) (by omega)
      have hxk : rd l0 (k : Int) = l0[k] := by simp [rd, List.getD_eq_getElem?_getD, List.getElem?_eq_getElem hkl]
      rw [hxk, Int.toNat_natCast] at hx
      have htk : l0.take (k + 1) = l0.take k ++ [l0[k]] := List.take_succ_eq_append_getElem hkl
      have Htk := Aside0.mk htk
      obtain ⟨x, hy⟩ : ∃ x, x = l0[k] := ⟨_, rfl⟩
      rw [← hy] at hx Htk
      clear htk hy hC hxk
      have hsz := mayA_size (l0.take k)
      by_cases h0 : 0 ≤ x
      · have d0 : decide (0 ≤ x) = true := decide_eq_true h0
        by_cases h10 : x < 10
        · have d10 : decide (x < 10) = true := decide_eq_true h10
          obtain ⟨n, rfl⟩ := Int.eq_ofNat_of_zero_le h0
          have hn : n < 10 := by omega
          have hsn := mayA_snoc (l0.take k) hn
          have hat := mayA_at (l0.take k) hn
          have Hsn := Aside0.mk hsn
          clear hsn
          go_wp2
          go_roundw
          case rel => exact ⟨k + 1, by omega, by first | rfl | go_num, by rw [Htk.out, ← Hsn.out]⟩
          case measure => simp [RowKit.intOf]; omega
        · have d10 : decide (x < 10) = false := decide_eq_false h10
          have hsk := Aside0.mk (mayA_skip (l0.take k) (x := x) (Or.inr (by omega)))
          go_wp2
          go_roundw
          case rel => exact ⟨k + 1, by omega, by first | rfl | go_num, by rw [Htk.out, hsk.out]⟩
          case measure => simp [RowKit.intOf]; omega
      · have d0 : decide (0 ≤ x) = false := decide_eq_false h0
        have hsk := Aside0.mk (mayA_skip (l0.take k) (x := x) (Or.inl (by omega)))
        go_wp2
        go_roundw
        case rel => exact ⟨k + 1, by omega, by first | rfl | go_num, by rw [Htk.out, hsk.out]⟩
        case measure => simp [RowKit.intOf]; omega
    · obtain rfl : k = l0.length := by omega
      have hk1 : decide ((l0.length : Int) < (l0.length : Int)) = false := decide_eq_false (by omega)
      rw [List.take_length]
      go_wp2
      obtain ⟨W3, hW3⟩ : ∃ W3, W3 = W2.alloc (.cells (mayA l0) 115) := ⟨_, rfl⟩
      rw [← hW3]
      have hB3 : Below w.heap.size w W3 := by rw [hW3]; exact below_alloc HB2.out _
      have hc6 : ∀ c, c < 10 → W3.cell? ⟨W2.heap.size, c, none⟩ = some (.bool (decide ((c : Int) ∈ l0))) := fun c hc => by
        have h := blk_cell (w := W3) (g := W2.heap.size) (t := 115) (cs := mayA l0) (by rw [hW3]; exact heap_alloc_last W2 _) c
        rw [h, mayA_at _ hc]
      have hc5 : ∀ c, c < 256 → W3.cell? ⟨w.heap.size + 1, c, none⟩ = some (.int .i64 (cls c : Nat)) := fun c hc => by
        rw [hW3]; exact Lib.cell?_alloc_some _ (Hc5.out c hc)
      have HB3 := Aside0.mk hB3
      have Hc6 := Aside0.mk hc6
      have Hd5 := Aside0.mk hc5
      clear hB3 hc6 hc5 hW3 hk1 hk hkl
      go_loopw [28] (fun v28 wr => ∃ k : Nat, k ≤ a0.size ∧ v28 = .int .i64 (k : Int) ∧ wr = W3 ∧ Aside0 (((bs a0).take k).all (fun c => decide ((cls c : Int) ∈ l0)) = true)) (fun v28 _ => a0.size - (RowKit.intOf v28).toNat)
      case atStart => exact ⟨0, Nat.zero_le _, rfl, rfl, ⟨rfl⟩⟩
      case round =>
        obtain ⟨k, hk, rfl, rfl, hA⟩ := hrel
        by_cases hkl : k < a0.size
        · have hk1 : decide ((k : Int) < (a0.size : Int)) = true := decide_eq_true (by omega)
          have hq : decide (k < a0.size) = true := decide_eq_true hkl
          have hdr : (bs a0).drop k = (bs a0)[k]'(by rw [bs_length]; exact hkl) :: (bs a0).drop (k + 1) := List.drop_eq_getElem_cons _
          have hbt := (bt_drop hdr).2.1
          have hc := (bt_drop hdr).2.2.2
          have htk : (bs a0).take (k + 1) = (bs a0).take k ++ [(bs a0)[k]'(by rw [bs_length]; exact hkl)] := List.take_succ_eq_append_getElem _
          have hmem : (bs a0)[k]'(by rw [bs_length]; exact hkl) ∈ bs a0 := List.getElem_mem _
          have hS : (a0.size : Int) ≤ 4398046511104 := by have := HS.out; omega
          obtain ⟨c, hcc⟩ : ∃ c, c = (bs a0)[k]'(by rw [bs_length]; exact hkl) := ⟨_, rfl⟩
          rw [← hcc] at hbt hc htk hmem
          have hx9 : ∀ h : k < a0.size, ((a0[k]'h).toNat : Int) = (c : Int) := fun h => by rw [← hbt]; exact bt_at a0 k h
          have hx8 : ∀ h : k < a0.size, (a0[k]'h).toNat = c := fun h => by have := hx9 h; omega
          have h5 := Hd5.out c hc
          have h6 := Hc6.out (cls c) (cls_lt c hc)
          have hc1 : (c : Int) < 256 := by omega
          have hc2 : (cls c : Int) < 10 := by have := cls_lt c hc; omega
          have Htk := Aside0.mk htk
          have Hmem := Aside0.mk hmem
          clear htk hmem hcc hbt hdr
          generalize hdm : decide ((cls c : Int) ∈ l0) = d at h6
          have Hdm := Aside0.mk hdm
          clear hdm
          cases d
          · have hrf : r = false := by
              rw [← Hr.out, List.all_eq_false]
              exact ⟨c, Hmem.out, by rw [Hdm.out]; decide⟩
            have Hrf := Aside0.mk hrf
            clear hrf
            go_wp2
            go_ret
            exact ⟨by rw [Hrf.out]; rfl, HB3.out⟩
          · go_wp2
            go_roundw
            case rel => exact ⟨k + 1, hkl, by go_num, by first | trivial | rfl, ⟨by rw [Htk.out, List.all_append, hA.out]; simp [Hdm.out]⟩⟩
            case measure => simp [RowKit.intOf]; omega
        · obtain rfl : k = a0.size := by omega
          have hk1 : decide ((a0.size : Int) < (a0.size : Int)) = false := decide_eq_false (by omega)
          have hrt : r = true := by
            have h := hA.out
            rw [List.take_of_length_le (by rw [bs_length]; exact Nat.le_refl _)] at h
            rw [← Hr.out, h]
          have Hrt := Aside0.mk hrt
          clear hrt
          go_wp2
          go_ret
          exact ⟨by rw [Hrt.out]; rfl, HB3.out⟩
end Go.Proofs.YtnknjhdpjjddeaaGreatDoor.QB.D
end

section
namespace Go.Proofs.YtnknjhdpjjddeaaGreatDoor.QB.D
open Go.Proofs.YtnknjhdpjjddeaaGreatDoor.Q
open Go.RowKit Go.Lib Go.Proofs.YtnknjhdpjjddeaaGreatDoorW.PrintWords Go.Proofs.YtnknjhdpjjddeaaGreatDoorW.PrintLast Go.Proofs.YtnknjhdpjjddeaaGreatDoorW.PrintMore Gw
set_option linter.unusedVariables false
set_option linter.unusedSimpArgs false
def elc (c : Nat) : Bool := inner c || c == 46
theorem elem_eq (s : List Nat) : isElem s = (!s.isEmpty && s.head? != some 46 && s.getLast? != some 46 && s.all elc) := by
  cases s with
  | nil => rfl
  | cons c r =>
    simp only [isElem, List.isEmpty_cons, Bool.not_false, Bool.true_and, List.head?_cons]
    congr 1
theorem in_elc : ∀ c < 256, decide ((cls c : Int) ∈ ([1, 2, 3] : List Int)) = elc c := by decide +kernel
theorem elc_low : ∀ c < 256, 128 ≤ c → elc c = false := by decide +kernel
theorem row_ints (w : World) (l : List Int) (t : TypeId) (hl : l.length ≤ 1000) : Kd.C (Kd.int .i64) (w.alloc (.cells (l.map (Value.int .i64)).toArray t)) (some ⟨w.heap.size, 0, none⟩) l.length l := by
  refine Kd.C_of_reads (d := (0 : Int)) ⟨rfl, by omega, fun _ => ⟨_, rfl, fun j hj => ?_⟩⟩
  rw [add_plain, blk_cell (heap_alloc_last w _)]
  simp [List.getD_eq_getElem?_getD, List.getElem?_eq_getElem hj]
theorem below_alloc' {B : Nat} {a w : World} (h : Below B a w) (o : Obj) (hB : B ≤ w.heap.size := by omega) : Below B a (w.alloc o) := h.trans (((Below.refl _ _).alloc (Nat.le_refl _) o).mono hB)
set_option maxHeartbeats 4000000 in
set_option maxRecDepth 1000000 in
theorem element_calls (s : ByteArray) (hs : Tiny s) (w : World) : Calls Tryz.prog 73 #[.string s] w fun e w' => e = .returned (.bool (isElem (bs s))) ∧ Below w.heap.size w w' := by
  have Hs := Aside0.mk hs
  clear hs
  go_enter Tryz.func73, Tryz.ntmps73
  go_wp2
  go_loopw [3, 4, 5] (fun v3 _ _ wr => ∃ i : Nat, i ≤ s.size ∧ v3 = .int .i32 ((((bs s).take i).getLastD 46 : Nat) : Int) ∧ wr.heap[w.heap.size]? = some (.stringIter s i) ∧ Aside0 (Below w.heap.size w wr) ∧ Aside0 (((bs s).take i).all elc = true ∧ ((bs s).take i).head? ≠ some 46)) (fun _ _ _ wr => s.size - wr.iterPos w.heap.size)
  case atStart => exact ⟨0, Nat.zero_le _, rfl, World.iter_heap _ _ _, ⟨below_alloc (Below.refl _ _) _⟩, ⟨rfl, by simp⟩⟩
  case round =>
    obtain ⟨i, hi, rfl, hit, HB, HA⟩ := hrel
    have hpos : wr.iterPos w.heap.size = i := by simp [World.iterPos, hit]
    by_cases hlt : i < s.size
    · have hdr : (bs s).drop i = (bs s)[i]'(by rw [bs_length]; exact hlt) :: (bs s).drop (i + 1) := List.drop_eq_getElem_cons _
      have hbt := (bt_drop hdr).2.1
      have hc := (bt_drop hdr).2.2.2
      have htk : (bs s).take (i + 1) = (bs s).take i ++ [(bs s)[i]'(by rw [bs_length]; exact hlt)] := List.take_succ_eq_append_getElem _
      have hmem : (bs s)[i]'(by rw [bs_length]; exact hlt) ∈ bs s := List.getElem_mem _
      obtain ⟨c, hcc⟩ : ∃ c, c = (bs s)[i]'(by rw [bs_length]; exact hlt) := ⟨_, rfl⟩
      rw [← hcc] at hbt hc htk hmem
      have hx9 : ((s[i]'hlt).toNat : Int) = (c : Int) := by rw [← hbt]; exact bt_at s i hlt
      have hx8 : (s[i]'hlt).toNat = c := by omega
      clear hx9
      have Htk := Aside0.mk htk
      have Hmem := Aside0.mk hmem
      have Hpos := Aside0.mk hpos
      have hn9 := fun ty => run_next_any_at (P := Tryz.prog) wr w.heap.size s i ty hit hlt
      by_cases h128 : c < 128
      · have hde := decode_ascii s i hlt (by rw [hx8]; exact h128)
        rw [hx8] at hde
        rw [hde] at hn9
        have hit2 := iterAt_heap wr w.heap.size s i (i + 1) hit
        have hb2 := below_iterAt HB.out (Nat.le_refl _) s (i + 1) (k := w.heap.size)
        simp only [] at hn9
        generalize wr.iterAt w.heap.size s (i + 1) = w2 at hn9 hit2 hb2
        have HB2 := Aside0.mk hb2
        have Hit2 := Aside0.mk hit2
        have hg : decide ((127 : Int) < (c : Int)) = false := decide_eq_false (by omega)
        have hcv : IntKind.u8.wrap (c : Int) = (c : Int) := by
          have h : ∀ n < 256, IntKind.u8.wrap ((n : Nat) : Int) = (n : Int) := by decide +kernel
          exact h c hc
        have hin := fun w => In_calls c hc (some ⟨(w : World).heap.size, 0, none⟩) 3 [1, 2, 3] (w.alloc (.cells #[.int .i64 1, .int .i64 2, .int .i64 3] 3)) (row_ints w [1, 2, 3] 3 (by decide))
        have hie := in_elc c hc
        rw [hie] at hin
        generalize hel : elc c = el at hin
        have Hel := Aside0.mk hel
        have hsz : w.heap.size < w2.heap.size := (Array.getElem?_eq_some_iff.1 Hit2.out).1
        clear hit HB hb2 hit2 hpos hbt hcc htk hmem hdr hde hx8 hie hel
        cases el
        · have hno : isElem (bs s) = false := by
            rw [elem_eq]
            have : (bs s).all elc = false := by rw [List.all_eq_false]; exact ⟨c, Hmem.out, by rw [Hel.out]; decide⟩
            rw [this, Bool.and_false]
          have Hno := Aside0.mk hno
          clear hno
          go_wp2_with (go_at_call 90; refine (hin _).mono ?_; rintro e w3 ⟨rfl, hb3⟩; have HB3 : Aside0 (Below w.heap.size w w3) := ⟨(below_alloc' HB2.out _).trans (hb3.mono (by simp; omega))⟩; clear hb3)
          go_ret
          exact ⟨by rw [Hno.out]; rfl, HB3.out⟩
        · by_cases h0 : i = 0 ∧ c = 46
          · obtain ⟨rfl, rfl⟩ := h0
            have hno : isElem (bs s) = false := by
              have h1 : (bs s).head? = some 46 := by
                have := Htk.out
                cases hb : bs s with
                | nil => rw [hb] at this; simp at this
                | cons x r => rw [hb] at this; simp at this; rw [this]; rfl
              rw [elem_eq, h1]; simp
            have Hno := Aside0.mk hno
            clear hno
            go_wp2_with (go_at_call 90; refine (hin _).mono ?_; rintro e w3 ⟨rfl, hb3⟩; have HB3 : Aside0 (Below w.heap.size w w3) := ⟨(below_alloc' HB2.out _).trans (hb3.mono (by simp; omega))⟩; clear hb3)
            go_ret
            exact ⟨by rw [Hno.out]; rfl, HB3.out⟩
          · have hl1 : ((bs s).take (i + 1)).getLastD 46 = c := by rw [Htk.out]; simp
            have hA1 : ((bs s).take (i + 1)).all elc = true := by rw [Htk.out, List.all_append, HA.out.1]; simp [Hel.out]
            have hA2 : ((bs s).take (i + 1)).head? ≠ some 46 := by
              rw [Htk.out]
              cases hb : (bs s).take i with
              | nil =>
                have hi0 : i = 0 := by
                  have := congrArg List.length hb
                  rw [List.length_take, bs_length, List.length_nil] at this; omega
                have : c ≠ 46 := fun e => h0 ⟨hi0, e⟩
                simpa using this
              | cons x r =>
                have := HA.out.2
                rw [hb] at this
                simpa using this
            have Hl1 := Aside0.mk hl1
            have HA1 := Aside0.mk hA1
            have HA2 := Aside0.mk hA2
            have H0 := Aside0.mk h0
            clear hl1 hA1 hA2 h0
            by_cases hi0 : i = 0
            · subst hi0
              have hc46 : ((c : Int) == 46) = false := beq_eq_false_iff_ne.2 (fun e => H0.out ⟨rfl, by omega⟩)
              go_wp2_with (go_at_call 90; refine (hin _).mono ?_; rintro e w3 ⟨rfl, hb3⟩; have HB3 : Aside0 (Below w.heap.size w w3) := ⟨(below_alloc' HB2.out _).trans (hb3.mono (by simp; omega))⟩; have Hit3 : Aside0 (w3.heap[w.heap.size]? = some (.stringIter s (0 + 1))) := ⟨(hb3.block _ (by simp; omega)).trans (((below_alloc (Below.refl _ _) _).block _ hsz).trans Hit2.out)⟩; clear hb3)
              have hpos3 : w3.iterPos w.heap.size = 0 + 1 := by simp [World.iterPos, Hit3.out]
              go_roundw
              case rel => exact ⟨0 + 1, by omega, by rw [Hl1.out], Hit3.out, HB3, ⟨HA1.out, HA2.out⟩⟩
              case measure => rw [Hpos.out, hpos3]; omega
            · have hi1 : ((i : Int) == 0) = false := beq_eq_false_iff_ne.2 (by omega)
              go_wp2_with (go_at_call 90; refine (hin _).mono ?_; rintro e w3 ⟨rfl, hb3⟩; have HB3 : Aside0 (Below w.heap.size w w3) := ⟨(below_alloc' HB2.out _).trans (hb3.mono (by simp; omega))⟩; have Hit3 : Aside0 (w3.heap[w.heap.size]? = some (.stringIter s (i + 1))) := ⟨(hb3.block _ (by simp; omega)).trans (((below_alloc (Below.refl _ _) _).block _ hsz).trans Hit2.out)⟩; clear hb3)
              have hpos3 : w3.iterPos w.heap.size = i + 1 := by simp [World.iterPos, Hit3.out]
              go_roundw
              case rel => exact ⟨i + 1, by omega, by rw [Hl1.out], Hit3.out, HB3, ⟨HA1.out, HA2.out⟩⟩
              case measure => rw [Hpos.out, hpos3]; omega
      · have hde := (decode_high s i hlt (by rw [hx8]; omega)).1
        have hb2 := below_iterAt HB.out (Nat.le_refl _) s (i + (Utf8.decode s i).2) (k := w.heap.size)
        generalize (Utf8.decode s i).2 = d at hn9 hb2
        generalize wr.iterAt w.heap.size s (i + d) = w2 at hn9 hb2
        have hg : decide ((127 : Int) < ((Utf8.decode s i).1 : Int)) = true := decide_eq_true (by omega)
        generalize ((Utf8.decode s i).1 : Int) = x at hn9 hg
        have HB2 := Aside0.mk hb2
        have hno : isElem (bs s) = false := by
          rw [elem_eq]
          have : (bs s).all elc = false := by rw [List.all_eq_false]; exact ⟨c, Hmem.out, by rw [elc_low c hc (by omega)]; decide⟩
          rw [this, Bool.and_false]
        have Hno := Aside0.mk hno
        clear hno hit HB hb2 hpos hbt hcc htk hmem hdr hde hx8
        go_wp2
        go_ret
        exact ⟨by rw [Hno.out]; rfl, HB2.out⟩
    · obtain rfl : i = s.size := by omega
      have hn9 := fun ty => run_next_end_at (P := Tryz.prog) wr w.heap.size s s.size ty hit hlt
      rw [List.take_of_length_le (by rw [bs_length]; exact Nat.le_refl _)] at HA ⊢
      have hfin : isElem (bs s) = (((((bs s).getLastD 46 : Nat) : Int)) != 46) := by
        rw [elem_eq, HA.out.1, Bool.and_true]
        cases hb : bs s with
        | nil => rfl
        | cons x r =>
          have h2 := HA.out.2
          rw [hb] at h2
          have h3 : ((x :: r).head? != some 46) = true := by simpa using h2
          rw [h3]
          have h4 : (x :: r).getLastD 46 = (x :: r).getLast (by simp) := by simp [List.getLastD]
          rw [h4, List.getLast?_eq_some_getLast (by simp)]
          simp only [List.isEmpty_cons, Bool.not_false, Bool.true_and]
          rw [Bool.eq_iff_iff, bne_iff_ne, bne_iff_ne]
          constructor
          · intro h e; exact h (by congr 1; omega)
          · intro h e; injection e with e; exact h (by omega)
      have Hfin := Aside0.mk hfin
      clear hfin hpos hit
      go_wp2
      go_ret
      exact ⟨by rw [Hfin.out, List.getLastD_eq_getLast?]; rfl, HB.out⟩
def path_element.f (a0 : ByteArray) : Option Bool := if Tiny a0 then some (isElem (bs a0)) else none
theorem path_element.calls (a0 : ByteArray) (r : Bool) (w : World) (h : path_element.f a0 = some r) : Calls Tryz.prog 73 #[.string a0] w fun e w' => e = .returned (.bool r) ∧ Below w.heap.size w w' := by
  unfold path_element.f at h
  by_cases hs : Tiny a0
  · rw [if_pos hs] at h
    obtain rfl := Option.some.inj h
    exact element_calls a0 hs w
  · rw [if_neg hs] at h; cases h
end Go.Proofs.YtnknjhdpjjddeaaGreatDoor.QB.D
end

section
namespace Go.Proofs.YtnknjhdpjjddeaaGreatDoor.QB.D
open Go.Proofs.YtnknjhdpjjddeaaGreatDoor.Q
open Go.RowKit Go.Proofs.YtnknjhdpjjddeaaGreatDoorW.PrintWords Go.Proofs.YtnknjhdpjjddeaaGreatDoorW.PrintLast Go.Proofs.YtnknjhdpjjddeaaGreatDoorW.PrintMore
attribute [local go_sem] max2_int min2_int max_two min_two max_three min_three max_four min_four   -- for this text's walks alone
set_option linter.unusedVariables false
set_option linter.unusedSimpArgs false

/-! ### cmp_isNaN_int: function 83 -/
def cmp_isNaN_int.f (a0 : Int) : Option (Bool) := some (a0 != a0)
set_option maxHeartbeats 8000000 in
set_option maxRecDepth 100000 in
theorem cmp_isNaN_int.calls (a0 : Int) (r : Bool) (w : World) (h : cmp_isNaN_int.f a0 = some r) :
    Calls Tryz.prog 83 #[.int .i64 a0] w fun e w' => e = .returned (.bool r) ∧ Drawn0 w w' := by
  have H : (some (a0 != a0)) = some r := h
  clear h
  obtain rfl := Option.some.inj H
  go_enter Tryz.func83, Tryz.ntmps83
  go_wp2
  go_ret
  exact ⟨by first | rfl | (simp; done) | (simp [*]; done), by repeat (first | exact Drawn0.refl _ | apply Drawn0.step)⟩

end Go.Proofs.YtnknjhdpjjddeaaGreatDoor.QB.D
end

section
namespace Go.Proofs.YtnknjhdpjjddeaaGreatDoor.QB.D
open Go.Proofs.YtnknjhdpjjddeaaGreatDoor.Q
open Go.RowKit Go.Proofs.YtnknjhdpjjddeaaGreatDoorW.PrintWords Go.Proofs.YtnknjhdpjjddeaaGreatDoorW.PrintLast Go.Proofs.YtnknjhdpjjddeaaGreatDoorW.PrintMore
attribute [local go_sem] max2_int min2_int max_two min_two max_three min_three max_four min_four   -- for this text's walks alone
set_option linter.unusedVariables false
set_option linter.unusedSimpArgs false

/-! ### cmp_Compare_int: function 66 -/
def cmp_Compare_int.f (a0 : Int) (a1 : Int) : Option (Int) := (cmp_isNaN_int.f a0).bind fun t139 => ((cmp_isNaN_int.f a1).bind fun t140 => (if t139 = true then (if t140 = true then (some 0) else (some (-1))) else (if t140 = true then (some 1) else (if a0 < a1 then (some (-1)) else (if a0 > a1 then (some 1) else (some 0))))))
set_option maxHeartbeats 8000000 in
set_option maxRecDepth 100000 in
theorem cmp_Compare_int.calls (a0 : Int) (a1 : Int) (r : Int) (w : World) (h : cmp_Compare_int.f a0 a1 = some r) :
    Calls Tryz.prog 66 #[.int .i64 a0, .int .i64 a1] w fun e w' => e = .returned (.int .i64 r) ∧ Drawn0 w w' := by
  have H : ((cmp_isNaN_int.f a0).bind fun t139 => ((cmp_isNaN_int.f a1).bind fun t140 => (if t139 = true then (if t140 = true then (some 0) else (some (-1))) else (if t140 = true then (some 1) else (if a0 < a1 then (some (-1)) else (if a0 > a1 then (some 1) else (some 0))))))) = some r := h
  clear h
  replace H := Option.bind_eq_some_iff.mp H
  obtain ⟨t139, A30, H⟩ := H
  replace H : ((cmp_isNaN_int.f a1).bind fun t140 => (if t139 = true then (if t140 = true then (some 0) else (some (-1))) else (if t140 = true then (some 1) else (if a0 < a1 then (some (-1)) else (if a0 > a1 then (some 1) else (some 0)))))) = some r := H
  have A3 := Aside0.mk A30
  clear A30
  replace H := Option.bind_eq_some_iff.mp H
  obtain ⟨t140, A40, H⟩ := H
  replace H : (if t139 = true then (if t140 = true then (some 0) else (some (-1))) else (if t140 = true then (some 1) else (if a0 < a1 then (some (-1)) else (if a0 > a1 then (some 1) else (some 0))))) = some r := H
  have A4 := Aside0.mk A40
  clear A40
  by_cases c5 : t139 = true
  · subst c5
    have H1 : (if t140 = true then (some 0) else (some (-1))) = some r := by rw [if_pos rfl] at H; exact H
    clear H
    have H := H1
    clear H1
    by_cases c6 : t140 = true
    · subst c6
      have H1 : (some 0) = some r := by rw [if_pos rfl] at H; exact H
      clear H
      have H := H1
      clear H1
      obtain rfl := Option.some.inj H
      go_enter Tryz.func66, Tryz.ntmps66
      go_wp2_with (first | ((with_reducible refine gate_callee (f := 83) rfl ?_); refine goesL_ (some 8) rfl rfl Tryz.func83 (by kernel_rfl) rfl #[.int .i64 a0] rfl (by (try simp only [List.map_toArray, List.map_cons, List.map_nil]); first | done | rfl | (simp only [List.length_drop, List.length_take]; rfl)) ?_; (with_reducible refine (cmp_isNaN_int.calls a0 true _ A3.out).mono ?_); rintro e w' ⟨rfl, ⟨nd, rfl⟩⟩; refine ⟨_, rfl, ?_⟩) | ((with_reducible refine gate_callee (f := 83) rfl ?_); refine goesL_ (some 10) rfl rfl Tryz.func83 (by kernel_rfl) rfl #[.int .i64 a1] rfl (by (try simp only [List.map_toArray, List.map_cons, List.map_nil]); first | done | rfl | (simp only [List.length_drop, List.length_take]; rfl)) ?_; (with_reducible refine (cmp_isNaN_int.calls a1 true _ A4.out).mono ?_); rintro e w' ⟨rfl, ⟨nd, rfl⟩⟩; refine ⟨_, rfl, ?_⟩))
      go_ret
      exact ⟨by first | rfl | (simp; done) | (simp [*]; done), by repeat (first | exact Drawn0.refl _ | apply Drawn0.step)⟩
    · replace c6 := Bool.eq_false_iff.mpr c6
      subst c6
      have H1 : (some (-1)) = some r := by rw [if_neg (show ¬ (false = true) by decide)] at H; exact H
      clear H
      have H := H1
      clear H1
      obtain rfl := Option.some.inj H
      go_enter Tryz.func66, Tryz.ntmps66
      go_wp2_with (first | ((with_reducible refine gate_callee (f := 83) rfl ?_); refine goesL_ (some 8) rfl rfl Tryz.func83 (by kernel_rfl) rfl #[.int .i64 a0] rfl (by (try simp only [List.map_toArray, List.map_cons, List.map_nil]); first | done | rfl | (simp only [List.length_drop, List.length_take]; rfl)) ?_; (with_reducible refine (cmp_isNaN_int.calls a0 true _ A3.out).mono ?_); rintro e w' ⟨rfl, ⟨nd, rfl⟩⟩; refine ⟨_, rfl, ?_⟩) | ((with_reducible refine gate_callee (f := 83) rfl ?_); refine goesL_ (some 10) rfl rfl Tryz.func83 (by kernel_rfl) rfl #[.int .i64 a1] rfl (by (try simp only [List.map_toArray, List.map_cons, List.map_nil]); first | done | rfl | (simp only [List.length_drop, List.length_take]; rfl)) ?_; (with_reducible refine (cmp_isNaN_int.calls a1 false _ A4.out).mono ?_); rintro e w' ⟨rfl, ⟨nd, rfl⟩⟩; refine ⟨_, rfl, ?_⟩))
      go_ret
      exact ⟨by first | rfl | (simp; done) | (simp [*]; done), by repeat (first | exact Drawn0.refl _ | apply Drawn0.step)⟩
  · replace c5 := Bool.eq_false_iff.mpr c5
    subst c5
    have H1 : (if t140 = true then (some 1) else (if a0 < a1 then (some (-1)) else (if a0 > a1 then (some 1) else (some 0)))) = some r := by rw [if_neg (show ¬ (false = true) by decide)] at H; exact H
    clear H
    have H := H1
    clear H1
    by_cases c7 : t140 = true
    · subst c7
      have H1 : (some 1) = some r := by rw [if_pos rfl] at H; exact H
      clear H
      have H := H1
      clear H1
      obtain rfl := Option.some.inj H
      go_enter Tryz.func66, Tryz.ntmps66
      go_wp2_with (first | ((with_reducible refine gate_callee (f := 83) rfl ?_); refine goesL_ (some 8) rfl rfl Tryz.func83 (by kernel_rfl) rfl #[.int .i64 a0] rfl (by (try simp only [List.map_toArray, List.map_cons, List.map_nil]); first | done | rfl | (simp only [List.length_drop, List.length_take]; rfl)) ?_; (with_reducible refine (cmp_isNaN_int.calls a0 false _ A3.out).mono ?_); rintro e w' ⟨rfl, ⟨nd, rfl⟩⟩; refine ⟨_, rfl, ?_⟩) | ((with_reducible refine gate_callee (f := 83) rfl ?_); refine goesL_ (some 10) rfl rfl Tryz.func83 (by kernel_rfl) rfl #[.int .i64 a1] rfl (by (try simp only [List.map_toArray, List.map_cons, List.map_nil]); first | done | rfl | (simp only [List.length_drop, List.length_take]; rfl)) ?_; (with_reducible refine (cmp_isNaN_int.calls a1 true _ A4.out).mono ?_); rintro e w' ⟨rfl, ⟨nd, rfl⟩⟩; refine ⟨_, rfl, ?_⟩))
      go_ret
      exact ⟨by first | rfl | (simp; done) | (simp [*]; done), by repeat (first | exact Drawn0.refl _ | apply Drawn0.step)⟩
    · replace c7 := Bool.eq_false_iff.mpr c7
      subst c7
      have H1 : (if a0 < a1 then (some (-1)) else (if a0 > a1 then (some 1) else (some 0))) = some r := by rw [if_neg (show ¬ (false = true) by decide)] at H; exact H
      clear H
      have H := H1
      clear H1
      by_cases c8 : a0 < a1
      · rw [if_pos c8] at H
        have c8b0 : decide (a0 < a1) = true := decide_eq_true c8
        clear c8
        obtain rfl := Option.some.inj H
        go_enter Tryz.func66, Tryz.ntmps66
        go_wp2_with (first | ((with_reducible refine gate_callee (f := 83) rfl ?_); refine goesL_ (some 8) rfl rfl Tryz.func83 (by kernel_rfl) rfl #[.int .i64 a0] rfl (by (try simp only [List.map_toArray, List.map_cons, List.map_nil]); first | done | rfl | (simp only [List.length_drop, List.length_take]; rfl)) ?_; (with_reducible refine (cmp_isNaN_int.calls a0 false _ A3.out).mono ?_); rintro e w' ⟨rfl, ⟨nd, rfl⟩⟩; refine ⟨_, rfl, ?_⟩) | ((with_reducible refine gate_callee (f := 83) rfl ?_); refine goesL_ (some 10) rfl rfl Tryz.func83 (by kernel_rfl) rfl #[.int .i64 a1] rfl (by (try simp only [List.map_toArray, List.map_cons, List.map_nil]); first | done | rfl | (simp only [List.length_drop, List.length_take]; rfl)) ?_; (with_reducible refine (cmp_isNaN_int.calls a1 false _ A4.out).mono ?_); rintro e w' ⟨rfl, ⟨nd, rfl⟩⟩; refine ⟨_, rfl, ?_⟩))
        go_ret
        exact ⟨by first | rfl | (simp; done) | (simp [*]; done), by repeat (first | exact Drawn0.refl _ | apply Drawn0.step)⟩
      · rw [if_neg c8] at H
        have c8b0 : decide (a0 < a1) = false := decide_eq_false c8
        clear c8
        by_cases c9 : a0 > a1
        · rw [if_pos c9] at H
          have c9b0 : decide (a1 < a0) = true := decide_eq_true c9
          clear c9
          obtain rfl := Option.some.inj H
          go_enter Tryz.func66, Tryz.ntmps66
          go_wp2_with (first | ((with_reducible refine gate_callee (f := 83) rfl ?_); refine goesL_ (some 8) rfl rfl Tryz.func83 (by kernel_rfl) rfl #[.int .i64 a0] rfl (by (try simp only [List.map_toArray, List.map_cons, List.map_nil]); first | done | rfl | (simp only [List.length_drop, List.length_take]; rfl)) ?_; (with_reducible refine (cmp_isNaN_int.calls a0 false _ A3.out).mono ?_); rintro e w' ⟨rfl, ⟨nd, rfl⟩⟩; refine ⟨_, rfl, ?_⟩) | ((with_reducible refine gate_callee (f := 83) rfl ?_); refine goesL_ (some 10) rfl rfl Tryz.func83 (by kernel_rfl) rfl #[.int .i64 a1] rfl (by (try simp only [List.map_toArray, List.map_cons, List.map_nil]); first | done | rfl | (simp only [List.length_drop, List.length_take]; rfl)) ?_; (with_reducible refine (cmp_isNaN_int.calls a1 false _ A4.out).mono ?_); rintro e w' ⟨rfl, ⟨nd, rfl⟩⟩; refine ⟨_, rfl, ?_⟩))
          go_ret
          exact ⟨by first | rfl | (simp; done) | (simp [*]; done), by repeat (first | exact Drawn0.refl _ | apply Drawn0.step)⟩
        · rw [if_neg c9] at H
          have c9b0 : decide (a1 < a0) = false := decide_eq_false c9
          clear c9
          obtain rfl := Option.some.inj H
          go_enter Tryz.func66, Tryz.ntmps66
          go_wp2_with (first | ((with_reducible refine gate_callee (f := 83) rfl ?_); refine goesL_ (some 8) rfl rfl Tryz.func83 (by kernel_rfl) rfl #[.int .i64 a0] rfl (by (try simp only [List.map_toArray, List.map_cons, List.map_nil]); first | done | rfl | (simp only [List.length_drop, List.length_take]; rfl)) ?_; (with_reducible refine (cmp_isNaN_int.calls a0 false _ A3.out).mono ?_); rintro e w' ⟨rfl, ⟨nd, rfl⟩⟩; refine ⟨_, rfl, ?_⟩) | ((with_reducible refine gate_callee (f := 83) rfl ?_); refine goesL_ (some 10) rfl rfl Tryz.func83 (by kernel_rfl) rfl #[.int .i64 a1] rfl (by (try simp only [List.map_toArray, List.map_cons, List.map_nil]); first | done | rfl | (simp only [List.length_drop, List.length_take]; rfl)) ?_; (with_reducible refine (cmp_isNaN_int.calls a1 false _ A4.out).mono ?_); rintro e w' ⟨rfl, ⟨nd, rfl⟩⟩; refine ⟨_, rfl, ?_⟩))
          go_ret
          exact ⟨by first | rfl | (simp; done) | (simp [*]; done), by repeat (first | exact Drawn0.refl _ | apply Drawn0.step)⟩

end Go.Proofs.YtnknjhdpjjddeaaGreatDoor.QB.D
end

section
namespace Go.Proofs.YtnknjhdpjjddeaaGreatDoor.QB.D
open Go.Proofs.YtnknjhdpjjddeaaGreatDoor.Q
open Go.RowKit Go.Proofs.YtnknjhdpjjddeaaGreatDoorW.PrintWords Go.Proofs.YtnknjhdpjjddeaaGreatDoorW.PrintLast Go.Proofs.YtnknjhdpjjddeaaGreatDoorW.PrintMore
attribute [local go_sem] max2_int min2_int max_two min_two max_three min_three max_four min_four   -- for this text's walks alone
set_option linter.unusedVariables false
set_option linter.unusedSimpArgs false

/-! ### number_May: function 75 -/
def number_May.f (a0 : ByteArray) : Option (Bool) := if a0.toList = ([] : List UInt8) then (some false) else ((octet_All.f a0 (([1] : List Int))).bind fun t123 => (if t123 = true then (if 0 < (a0.size : Int) then (if (bt a0 0) = 48 then (some ((a0.size : Int) == 1)) else (some true)) else (none)) else (some false)))
set_option maxHeartbeats 8000000 in
set_option maxRecDepth 100000 in
theorem number_May.calls (a0 : ByteArray) (r : Bool) (w : World) (h : number_May.f a0 = some r) :
    Calls Tryz.prog 75 #[.string a0] w fun e w' => e = .returned (.bool r) ∧ Below w.heap.size w w' := by
  have HB := Aside0.mk (Below.refl w.heap.size w)
  have H : (if a0.toList = ([] : List UInt8) then (some false) else ((octet_All.f a0 (([1] : List Int))).bind fun t123 => (if t123 = true then (if 0 < (a0.size : Int) then (if (bt a0 0) = 48 then (some ((a0.size : Int) == 1)) else (some true)) else (none)) else (some false)))) = some r := h
  clear h
  by_cases c2 : a0.toList = ([] : List UInt8)
  · rw [if_pos c2] at H
    have c2b0 : (a0.toList == ([] : List UInt8)) = true := beq_iff_eq.mpr c2
    have c2b1 : (a0.toList != ([] : List UInt8)) = false := bne_eq_false_iff_eq.mpr c2
    clear c2
    obtain rfl := Option.some.inj H
    go_enter Tryz.func75, Tryz.ntmps75
    go_wp2
    go_ret
    exact ⟨by first | rfl | (simp [errW_none, errW_some] <;> rfl) | (simp [*, errW_none, errW_some] <;> rfl), by repeat (first | (with_reducible first | exact HB.out | apply below_alloc | apply pw_below_drewN | apply below_drew1) | exact HB.out)⟩
  · rw [if_neg c2] at H
    have c2b0 : (a0.toList == ([] : List UInt8)) = false := beq_eq_false_iff_ne.mpr c2
    have c2b1 : (a0.toList != ([] : List UInt8)) = true := bne_iff_ne.mpr c2
    obtain ⟨y120, hy120⟩ : ∃ y_ : List Int, y_ = (([1] : List Int)) := ⟨_, rfl⟩
    replace H : ((octet_All.f a0 y120).bind fun t123 => (if t123 = true then (if 0 < (a0.size : Int) then (if (bt a0 0) = 48 then (some ((a0.size : Int) == 1)) else (some true)) else (none)) else (some false))) = some r := by first | (rw [hy120]; with_reducible exact H) | (have H2_ := (Option.bind_some _ _).symm.trans H; rw [hy120]; with_reducible exact H2_) | (have H2_ := (Option.bind_some _ _).symm.trans H; with_reducible exact H2_) | with_reducible exact H | (rw [hy120]; exact H) | exact H
    have Ny120 := Aside0.mk hy120
    clear hy120
    replace H := Option.bind_eq_some_iff.mp H
    obtain ⟨t123, A30, H⟩ := H
    replace H : (if t123 = true then (if 0 < (a0.size : Int) then (if (bt a0 0) = 48 then (some ((a0.size : Int) == 1)) else (some true)) else (none)) else (some false)) = some r := H
    have A3 := Aside0.mk A30
    clear A30
    by_cases c4 : t123 = true
    · subst c4
      have H1 : (if 0 < (a0.size : Int) then (if (bt a0 0) = 48 then (some ((a0.size : Int) == 1)) else (some true)) else (none)) = some r := by rw [if_pos rfl] at H; exact H
      clear H
      have H := H1
      clear H1
      by_cases c5 : 0 < (a0.size : Int)
      · rw [if_pos c5] at H
        have c5b0 : decide (0 < (a0.size : Int)) = true := decide_eq_true c5
        have c5b1 : decide (0 < a0.size) = true := decide_eq_true (by omega)
        clear c5
        by_cases c7 : (bt a0 0) = 48
        · rw [if_pos c7] at H
          have c7b0 : ((bt a0 0) == 48) = true := beq_iff_eq.mpr c7
          have c7b1 : ((bt a0 0) != 48) = false := bne_eq_false_iff_eq.mpr c7
          clear c7
          obtain rfl := Option.some.inj H
          go_enter Tryz.func75, Tryz.ntmps75
          go_wp2_with (first | ((with_reducible refine gate_dst (N := 7) rfl ?_); (try (refine gate_guard (by rfl) ?_; dsimp only)); refine Kd.R_lit (Kd.int .i64) _ 3 ?hg (N := 7) ?hd (xs := ([1] : List Int)) (inner := [.int .i64 1]) (ok := fun _ => True) (okp := fun _ => True) ?hr ?hp (fun _ hk => hk) trivial (Below.refl _ _) (Nat.le_refl _) (by simp) ?_; (case hd => rfl); (case hg => rfl); (case hr => first | (go_simp; done) | (go_simp; rfl)); (case hp => exact (Reps.one (show Kd.M (Kd.int .i64) _ _ _ 1 [.int .i64 1] from rfl) (Reps.none _ _))); intro v121 w8 ho9 hb hg_ hnew_; clear hg_ hnew_; (first | rw [← Ny120.out] at ho9 | (simp only [Int.reduceToNat] at ho9; rw [← Ny120.out] at ho9)); have n0_ := Aside0.mk (Kd.R_lower ho9 (below_size (by repeat (first | (with_reducible first | exact HB.out | apply below_alloc | apply pw_below_drewN | apply below_drew1) | exact HB.out)))); have n1_ := Aside0.mk (below_step (by repeat (first | (with_reducible first | exact HB.out | apply below_alloc | apply pw_below_drewN | apply below_drew1) | exact HB.out)) hb); clear HB; have HO122 := n0_; have HB := n1_; clear n0_ n1_; clear hb ho9; obtain ⟨Ao10, co10, eo10⟩ := Kd.R_slice HO122.out; subst eo10) | (go_at_call 92; (with_reducible refine (octet_All.calls a0 _ _ y120 true _ ?side1 ?side2 A3.out).mono ?_); (case side1 => repeat (first | exact (Kd.R_reads' HO122.out).2.2 | (with_reducible refine Kd.C_alloc ?_ _) | (with_reducible refine Kd.C_drewN ?_ _) | (with_reducible refine Kd.C_drew ?_))); (case side2 => exact (Kd.R_reads' HO122.out).2.1); rintro e w11 ⟨rfl, hb⟩; have n0_ := Aside0.mk (Kd.R_below (by (with_reducible repeat (first | apply Kd.R_alloc | apply Kd.R_drewN | apply Kd.R_drew)); exact HO122.out) hb); have n1_ := Aside0.mk (below_step (by repeat (first | (with_reducible first | exact HB.out | apply below_alloc | apply pw_below_drewN | apply below_drew1) | exact HB.out)) hb); clear HO122; clear HB; have HO122 := n0_; have HB := n1_; clear n0_ n1_; (try clear hb); (try clear hb2); (try clear hk); (try clear hi); have p6 : 0 ≤ (0 : Int) := (by omega); have q6 : 0 < a0.size := (by have : (0 : Int) < (a0.size : Int) := of_decide_eq_true (by first | (with_reducible assumption) | assumption); omega); have hx6 : ∀ h : 0 < a0.size, ((a0[0]'h).toNat : Int) = bt a0 0 := bt_at a0 0; clear p6; have qi6 : (0 < (a0.size : Int)) = True := eq_true (of_decide_eq_true (by first | (with_reducible assumption) | assumption)); replace q6 := eq_true q6))
          go_ret
          exact ⟨by first | rfl | (simp [errW_none, errW_some] <;> rfl) | (simp [*, errW_none, errW_some] <;> rfl), by repeat (first | (with_reducible first | exact HB.out | apply below_alloc | apply pw_below_drewN | apply below_drew1) | exact HB.out)⟩
        · rw [if_neg c7] at H
          have c7b0 : ((bt a0 0) == 48) = false := beq_eq_false_iff_ne.mpr c7
          have c7b1 : ((bt a0 0) != 48) = true := bne_iff_ne.mpr c7
          obtain rfl := Option.some.inj H
          go_enter Tryz.func75, Tryz.ntmps75
          go_wp2_with (first | ((with_reducible refine gate_dst (N := 7) rfl ?_); (try (refine gate_guard (by rfl) ?_; dsimp only)); refine Kd.R_lit (Kd.int .i64) _ 3 ?hg (N := 7) ?hd (xs := ([1] : List Int)) (inner := [.int .i64 1]) (ok := fun _ => True) (okp := fun _ => True) ?hr ?hp (fun _ hk => hk) trivial (Below.refl _ _) (Nat.le_refl _) (by simp) ?_; (case hd => rfl); (case hg => rfl); (case hr => first | (go_simp; done) | (go_simp; rfl)); (case hp => exact (Reps.one (show Kd.M (Kd.int .i64) _ _ _ 1 [.int .i64 1] from rfl) (Reps.none _ _))); intro v121 w12 ho13 hb hg_ hnew_; clear hg_ hnew_; (first | rw [← Ny120.out] at ho13 | (simp only [Int.reduceToNat] at ho13; rw [← Ny120.out] at ho13)); have n0_ := Aside0.mk (Kd.R_lower ho13 (below_size (by repeat (first | (with_reducible first | exact HB.out | apply below_alloc | apply pw_below_drewN | apply below_drew1) | exact HB.out)))); have n1_ := Aside0.mk (below_step (by repeat (first | (with_reducible first | exact HB.out | apply below_alloc | apply pw_below_drewN | apply below_drew1) | exact HB.out)) hb); clear HB; have HO122 := n0_; have HB := n1_; clear n0_ n1_; clear hb ho13; obtain ⟨Ao14, co14, eo14⟩ := Kd.R_slice HO122.out; subst eo14) | (go_at_call 92; (with_reducible refine (octet_All.calls a0 _ _ y120 true _ ?side1 ?side2 A3.out).mono ?_); (case side1 => repeat (first | exact (Kd.R_reads' HO122.out).2.2 | (with_reducible refine Kd.C_alloc ?_ _) | (with_reducible refine Kd.C_drewN ?_ _) | (with_reducible refine Kd.C_drew ?_))); (case side2 => exact (Kd.R_reads' HO122.out).2.1); rintro e w15 ⟨rfl, hb⟩; have n0_ := Aside0.mk (Kd.R_below (by (with_reducible repeat (first | apply Kd.R_alloc | apply Kd.R_drewN | apply Kd.R_drew)); exact HO122.out) hb); have n1_ := Aside0.mk (below_step (by repeat (first | (with_reducible first | exact HB.out | apply below_alloc | apply pw_below_drewN | apply below_drew1) | exact HB.out)) hb); clear HO122; clear HB; have HO122 := n0_; have HB := n1_; clear n0_ n1_; (try clear hb); (try clear hb2); (try clear hk); (try clear hi); have p6 : 0 ≤ (0 : Int) := (by omega); have q6 : 0 < a0.size := (by have : (0 : Int) < (a0.size : Int) := of_decide_eq_true (by first | (with_reducible assumption) | assumption); omega); have hx6 : ∀ h : 0 < a0.size, ((a0[0]'h).toNat : Int) = bt a0 0 := bt_at a0 0; clear p6; have qi6 : (0 < (a0.size : Int)) = True := eq_true (of_decide_eq_true (by first | (with_reducible assumption) | assumption)); replace q6 := eq_true q6))
          go_ret
          exact ⟨by first | rfl | (simp [errW_none, errW_some] <;> rfl) | (simp [*, errW_none, errW_some] <;> rfl), by repeat (first | (with_reducible first | exact HB.out | apply below_alloc | apply pw_below_drewN | apply below_drew1) | exact HB.out)⟩
      · rw [if_neg c5] at H
        exact absurd H (by simp)
    · replace c4 := Bool.eq_false_iff.mpr c4
      subst c4
      have H1 : (some false) = some r := by rw [if_neg (show ¬ (false = true) by decide)] at H; exact H
      clear H
      have H := H1
      clear H1
      obtain rfl := Option.some.inj H
      go_enter Tryz.func75, Tryz.ntmps75
      go_wp2_with (first | ((with_reducible refine gate_dst (N := 7) rfl ?_); (try (refine gate_guard (by rfl) ?_; dsimp only)); refine Kd.R_lit (Kd.int .i64) _ 3 ?hg (N := 7) ?hd (xs := ([1] : List Int)) (inner := [.int .i64 1]) (ok := fun _ => True) (okp := fun _ => True) ?hr ?hp (fun _ hk => hk) trivial (Below.refl _ _) (Nat.le_refl _) (by simp) ?_; (case hd => rfl); (case hg => rfl); (case hr => first | (go_simp; done) | (go_simp; rfl)); (case hp => exact (Reps.one (show Kd.M (Kd.int .i64) _ _ _ 1 [.int .i64 1] from rfl) (Reps.none _ _))); intro v121 w16 ho17 hb hg_ hnew_; clear hg_ hnew_; (first | rw [← Ny120.out] at ho17 | (simp only [Int.reduceToNat] at ho17; rw [← Ny120.out] at ho17)); have n0_ := Aside0.mk (Kd.R_lower ho17 (below_size (by repeat (first | (with_reducible first | exact HB.out | apply below_alloc | apply pw_below_drewN | apply below_drew1) | exact HB.out)))); have n1_ := Aside0.mk (below_step (by repeat (first | (with_reducible first | exact HB.out | apply below_alloc | apply pw_below_drewN | apply below_drew1) | exact HB.out)) hb); clear HB; have HO122 := n0_; have HB := n1_; clear n0_ n1_; clear hb ho17; obtain ⟨Ao18, co18, eo18⟩ := Kd.R_slice HO122.out; subst eo18) | (go_at_call 92; (with_reducible refine (octet_All.calls a0 _ _ y120 false _ ?side1 ?side2 A3.out).mono ?_); (case side1 => repeat (first | exact (Kd.R_reads' HO122.out).2.2 | (with_reducible refine Kd.C_alloc ?_ _) | (with_reducible refine Kd.C_drewN ?_ _) | (with_reducible refine Kd.C_drew ?_))); (case side2 => exact (Kd.R_reads' HO122.out).2.1); rintro e w19 ⟨rfl, hb⟩; have n0_ := Aside0.mk (Kd.R_below (by (with_reducible repeat (first | apply Kd.R_alloc | apply Kd.R_drewN | apply Kd.R_drew)); exact HO122.out) hb); have n1_ := Aside0.mk (below_step (by repeat (first | (with_reducible first | exact HB.out | apply below_alloc | apply pw_below_drewN | apply below_drew1) | exact HB.out)) hb); clear HO122; clear HB; have HO122 := n0_; have HB := n1_; clear n0_ n1_; (try clear hb); (try clear hb2); (try clear hk); (try clear hi)))
      go_ret
      exact ⟨by first | rfl | (simp [errW_none, errW_some] <;> rfl) | (simp [*, errW_none, errW_some] <;> rfl), by repeat (first | (with_reducible first | exact HB.out | apply below_alloc | apply pw_below_drewN | apply below_drew1) | exact HB.out)⟩

end Go.Proofs.YtnknjhdpjjddeaaGreatDoor.QB.D
end

section
namespace Go.Proofs.YtnknjhdpjjddeaaGreatDoor.QB.D
open Go.Proofs.YtnknjhdpjjddeaaGreatDoor.Q
open Go.RowKit Go.Proofs.YtnknjhdpjjddeaaGreatDoorW.PrintWords Go.Proofs.YtnknjhdpjjddeaaGreatDoorW.PrintLast Go.Proofs.YtnknjhdpjjddeaaGreatDoorW.PrintMore
attribute [local go_sem] max2_int min2_int max_two min_two max_three min_three max_four min_four   -- for this text's walks alone
set_option linter.unusedVariables false
set_option linter.unusedSimpArgs false

/-! ### number_Cmp: function 82 -/
def number_Cmp.j0 : Nat → ByteArray → ByteArray → Bool → Option (Int × Int)
  | 0, _, _, _ => none
  | k + 1, x0, x1, x13 => if x13 = true then (some (0, 1)) else ((cmp_Compare_int.f (x0.size : Int) (x1.size : Int)).bind fun t143 => ((octet_Cmp.f x0 x1).bind fun t144 => ((cmp_Or_int.f k (([t143, t144] : List Int))).bind fun t148 => (some (t148, 0)))))
def number_Cmp.f (k : Nat) (a0 : ByteArray) (a1 : ByteArray) : Option (Int × Int) := (number_May.f a0).bind fun t141 => (if t141 = true then ((number_May.f a1).bind fun t142 => (number_Cmp.j0 k a0 a1 (!t142))) else (number_Cmp.j0 k a0 a1 true))
theorem number_Cmp.mono_l : ∀ k, (∀ y0 y1 y2, LeO (number_Cmp.j0 k y0 y1 y2) (number_Cmp.j0 (k + 1) y0 y1 y2))
  | 0 => fun _ _ _ r h => by simp [number_Cmp.j0] at h
  | k + 1 => by
    have ih0 := number_Cmp.mono_l k
    · intro y0 y1 y2
      unfold number_Cmp.j0
      repeat' first
      | (with_reducible exact ih0 _ _ _)
      | (with_reducible exact cmp_Or_int.mono _ _)
      | (with_reducible exact LeO.refl _)
      | (with_reducible exact LeO.none _)
      | (with_reducible refine LeO.ite ?_ ?_)
      | (with_reducible refine LeO.bind ?_ (fun _ => ?_))
      | exact ih0 _ _ _
      | exact cmp_Or_int.mono _ _
      | exact LeO.none _
      | refine LeO.ite ?_ ?_
      | refine LeO.bind ?_ (fun _ => ?_)
theorem number_Cmp.mono : ∀ a0 a1 k, LeO (number_Cmp.f k a0 a1) (number_Cmp.f (k + 1) a0 a1) := by
  intro a0 a1 k
  have ih0 := number_Cmp.mono_l k
  unfold number_Cmp.f
  repeat' first
      | (with_reducible exact ih0 _ _ _)
      | (with_reducible exact cmp_Or_int.mono _ _)
      | (with_reducible exact LeO.refl _)
      | (with_reducible exact LeO.none _)
      | (with_reducible refine LeO.ite ?_ ?_)
      | (with_reducible refine LeO.bind ?_ (fun _ => ?_))
      | exact ih0 _ _ _
      | exact cmp_Or_int.mono _ _
      | exact LeO.none _
      | refine LeO.ite ?_ ?_
      | refine LeO.bind ?_ (fun _ => ?_)
set_option maxHeartbeats 8000000 in
set_option maxRecDepth 100000 in
theorem number_Cmp.calls (k : Nat) (a0 : ByteArray) (a1 : ByteArray) (r1 : Int) (r2 : Int) (w : World) (h : number_Cmp.f k a0 a1 = some (r1, r2)) :
    Calls Tryz.prog 82 #[.string a0, .string a1] w fun e w' => e = .returned (.tuple #[.int .i64 r1, .int .i64 r2]) ∧ Below w.heap.size w w' := by
  have HB := Aside0.mk (Below.refl w.heap.size w)
  have H : ((number_May.f a0).bind fun t141 => (if t141 = true then ((number_May.f a1).bind fun t142 => (number_Cmp.j0 k a0 a1 (!t142))) else (number_Cmp.j0 k a0 a1 true))) = some (r1, r2) := h
  clear h
  have HC3 := Aside0.mk H
  clear H
  go_enter Tryz.func82, Tryz.ntmps82
  go_upto_region 1 with (fail)
  go_cut [13] (fun v13 wc => ∃ (kq : Nat) (x13_2 : Bool), v13 = .bool x13_2 ∧ Aside0 (number_Cmp.j0 kq a0 a1 x13_2 = some (r1, r2)) ∧ Aside0 (kq ≤ k) ∧ Aside0 (Below w.heap.size w wc))
  case first =>
    have H := HC3.out
    clear HC3
    replace H := Option.bind_eq_some_iff.mp H
    obtain ⟨t141, A40, H⟩ := H
    replace H : (if t141 = true then ((number_May.f a1).bind fun t142 => (number_Cmp.j0 k a0 a1 (!t142))) else (number_Cmp.j0 k a0 a1 true)) = some (r1, r2) := H
    have A4 := Aside0.mk A40
    clear A40
    by_cases c5 : t141 = true
    · subst c5
      have H1 : ((number_May.f a1).bind fun t142 => (number_Cmp.j0 k a0 a1 (!t142))) = some (r1, r2) := by rw [if_pos rfl] at H; exact H
      clear H
      have H := H1
      clear H1
      replace H := Option.bind_eq_some_iff.mp H
      obtain ⟨t142, A60, H⟩ := H
      replace H : (number_Cmp.j0 k a0 a1 (!t142)) = some (r1, r2) := H
      have A6 := Aside0.mk A60
      clear A60
      have H' := Aside0.mk H
      clear H
      go_wp2_with (first | ((with_reducible refine gate_callee (f := 75) rfl ?_); refine goesL_ (some 7) rfl rfl Tryz.func75 (by kernel_rfl) rfl #[.string a0] rfl (by (try simp only [List.map_toArray, List.map_cons, List.map_nil]); first | done | rfl | (simp only [List.length_drop, List.length_take]; rfl)) ?_; (with_reducible refine (number_May.calls a0 true _ A4.out).mono ?_); rintro e w7 ⟨rfl, hb⟩; refine ⟨_, rfl, ?_⟩; have n0_ := Aside0.mk (below_step (by repeat (first | (with_reducible first | exact HB.out | apply below_alloc | apply pw_below_drewN | apply below_drew1) | exact HB.out)) hb); clear HB; have HB := n0_; clear n0_; (try clear hb); (try clear hb2); (try clear hk); (try clear hi)) | (go_at_call 75; (with_reducible refine (number_May.calls a1 t142 _ A6.out).mono ?_); rintro e w8 ⟨rfl, hb⟩; have n0_ := Aside0.mk (below_step (by repeat (first | (with_reducible first | exact HB.out | apply below_alloc | apply pw_below_drewN | apply below_drew1) | exact HB.out)) hb); clear HB; have HB := n0_; clear n0_; (try clear hb); (try clear hb2); (try clear hk); (try clear hi)))
      go_meet
      case rel => exact ⟨_, (!t142), (by first | rfl | (simp; done) | (simp [*]; done)), H', ⟨by first | omega | exact Nat.le_refl _⟩, ⟨by repeat (first | (with_reducible first | exact HB.out | apply below_alloc | apply pw_below_drewN | apply below_drew1) | exact HB.out)⟩⟩
    · replace c5 := Bool.eq_false_iff.mpr c5
      subst c5
      have H1 : (number_Cmp.j0 k a0 a1 true) = some (r1, r2) := by rw [if_neg (show ¬ (false = true) by decide)] at H; exact H
      clear H
      have H := H1
      clear H1
      have H' := Aside0.mk H
      clear H
      go_wp2_with (first | ((with_reducible refine gate_callee (f := 75) rfl ?_); refine goesL_ (some 7) rfl rfl Tryz.func75 (by kernel_rfl) rfl #[.string a0] rfl (by (try simp only [List.map_toArray, List.map_cons, List.map_nil]); first | done | rfl | (simp only [List.length_drop, List.length_take]; rfl)) ?_; (with_reducible refine (number_May.calls a0 false _ A4.out).mono ?_); rintro e w9 ⟨rfl, hb⟩; refine ⟨_, rfl, ?_⟩; have n0_ := Aside0.mk (below_step (by repeat (first | (with_reducible first | exact HB.out | apply below_alloc | apply pw_below_drewN | apply below_drew1) | exact HB.out)) hb); clear HB; have HB := n0_; clear n0_; (try clear hb); (try clear hb2); (try clear hk); (try clear hi)))
      go_meet
      case rel => exact ⟨_, (true), (by first | rfl | (simp; done) | (simp [*]; done)), H', ⟨by first | omega | exact Nat.le_refl _⟩, ⟨by repeat (first | (with_reducible first | exact HB.out | apply below_alloc | apply pw_below_drewN | apply below_drew1) | exact HB.out)⟩⟩
  case rest =>
    clear HC3
    try clear p2
    try clear c5
    try clear c7
    try clear c8
    obtain ⟨kq, x13_2, rfl, HA, HJ2, HB⟩ := hcut
    cases kq with
    | zero => exact absurd HA.out (by simp [number_Cmp.j0])
    | succ kj2 =>
      have H := HA.out
      clear HA
      simp only [number_Cmp.j0] at H
      by_cases c10 : x13_2 = true
      · subst c10
        have H1 : (some (0, 1)) = some (r1, r2) := by rw [if_pos rfl] at H; exact H
        clear H
        have H := H1
        clear H1
        simp only [Option.some.injEq, Prod.mk.injEq] at H
        obtain ⟨rfl, rfl⟩ := H
        go_wp2
        go_ret2
        exact ⟨by first | rfl | (simp [errW_none, errW_some] <;> rfl) | (simp [*, errW_none, errW_some] <;> rfl), by repeat (first | (with_reducible first | exact HB.out | apply below_alloc | apply pw_below_drewN | apply below_drew1) | exact HB.out)⟩
      · replace c10 := Bool.eq_false_iff.mpr c10
        subst c10
        have H1 : ((cmp_Compare_int.f (a0.size : Int) (a1.size : Int)).bind fun t143 => ((octet_Cmp.f a0 a1).bind fun t144 => ((cmp_Or_int.f kj2 (([t143, t144] : List Int))).bind fun t148 => (some (t148, 0))))) = some (r1, r2) := by rw [if_neg (show ¬ (false = true) by decide)] at H; exact H
        clear H
        have H := H1
        clear H1
        replace H := Option.bind_eq_some_iff.mp H
        obtain ⟨t143, A110, H⟩ := H
        replace H : ((octet_Cmp.f a0 a1).bind fun t144 => ((cmp_Or_int.f kj2 (([t143, t144] : List Int))).bind fun t148 => (some (t148, 0)))) = some (r1, r2) := H
        have A11 := Aside0.mk A110
        clear A110
        replace H := Option.bind_eq_some_iff.mp H
        obtain ⟨t144, A120, H⟩ := H
        replace H : ((cmp_Or_int.f kj2 (([t143, t144] : List Int))).bind fun t148 => (some (t148, 0))) = some (r1, r2) := H
        have A12 := Aside0.mk A120
        clear A120
        obtain ⟨y145, hy145⟩ : ∃ y_ : List Int, y_ = (([t143, t144] : List Int)) := ⟨_, rfl⟩
        replace H : ((cmp_Or_int.f kj2 y145).bind fun t148 => (some (t148, 0))) = some (r1, r2) := by first | (rw [hy145]; with_reducible exact H) | (have H2_ := (Option.bind_some _ _).symm.trans H; rw [hy145]; with_reducible exact H2_) | (have H2_ := (Option.bind_some _ _).symm.trans H; with_reducible exact H2_) | with_reducible exact H | (rw [hy145]; exact H) | exact H
        have Ny145 := Aside0.mk hy145
        clear hy145
        replace H := Option.bind_eq_some_iff.mp H
        obtain ⟨t148, A130, H⟩ := H
        replace H : (some (t148, 0)) = some (r1, r2) := H
        have A13 := Aside0.mk A130
        clear A130
        simp only [Option.some.injEq, Prod.mk.injEq] at H
        obtain ⟨rfl, rfl⟩ := H
        go_wp2_with (first | ((with_reducible refine gate_callee (f := 66) rfl ?_); refine goesL_ (some 18) rfl rfl Tryz.func66 (by kernel_rfl) rfl #[.int .i64 (a0.size : Int), .int .i64 (a1.size : Int)] rfl (by (try simp only [List.map_toArray, List.map_cons, List.map_nil]); first | done | rfl | (simp only [List.length_drop, List.length_take]; rfl)) ?_; (with_reducible refine (cmp_Compare_int.calls (a0.size : Int) (a1.size : Int) t143 _ A11.out).mono ?_); rintro e w' ⟨rfl, ⟨nd, rfl⟩⟩; refine ⟨_, rfl, ?_⟩) | ((with_reducible refine gate_callee (f := 45) rfl ?_); refine goesL_ (some 21) rfl rfl Tryz.func45 (by kernel_rfl) rfl #[.string a0, .string a1] rfl (by (try simp only [List.map_toArray, List.map_cons, List.map_nil]); first | done | rfl | (simp only [List.length_drop, List.length_take]; rfl)) ?_; (with_reducible refine (octet_Cmp.calls a0 a1 t144 _ A12.out).mono ?_); rintro e w' ⟨rfl, ⟨nd, rfl⟩⟩; refine ⟨_, rfl, ?_⟩) | ((with_reducible refine gate_dst (N := 22) rfl ?_); refine Kd.R_lit (Kd.int .i64) _ 3 ?hg (N := 22) ?hd (xs := ([t143, t144] : List Int)) (inner := [.int .i64 t143, .int .i64 t144]) (ok := fun _ => True) (okp := fun _ => True) ?hr ?hp (fun _ hk => hk) trivial (Below.refl _ _) (Nat.le_refl _) (by simp) ?_; (case hd => rfl); (case hg => rfl); (case hr => first | (go_simp; done) | (go_simp; rfl)); (case hp => exact (Reps.one (show Kd.M (Kd.int .i64) _ _ _ t143 [.int .i64 t143] from rfl) (Reps.one (show Kd.M (Kd.int .i64) _ _ _ t144 [.int .i64 t144] from rfl) (Reps.none _ _)))); intro v146 w14 ho15 hb hg_ hnew_; clear hg_ hnew_; (first | rw [← Ny145.out] at ho15 | (simp only [Int.reduceToNat] at ho15; rw [← Ny145.out] at ho15)); have n0_ := Aside0.mk (Kd.R_lower ho15 (below_size (by repeat (first | (with_reducible first | exact HB.out | apply below_alloc | apply pw_below_drewN | apply below_drew1) | exact HB.out)))); have n1_ := Aside0.mk (below_step (by repeat (first | (with_reducible first | exact HB.out | apply below_alloc | apply pw_below_drewN | apply below_drew1) | exact HB.out)) hb); clear HB; have HO147 := n0_; have HB := n1_; clear n0_ n1_; clear hb ho15; obtain ⟨Ao16, co16, eo16⟩ := Kd.R_slice HO147.out; subst eo16) | ((with_reducible refine gate_callee (f := 44) rfl ?_); refine goesL_ (some 23) rfl rfl Tryz.func44 (by kernel_rfl) rfl #[.slice Ao16 y145.length co16] rfl (by (try simp only [List.map_toArray, List.map_cons, List.map_nil]); first | done | rfl | (simp only [List.length_drop, List.length_take]; rfl)) ?_; (with_reducible refine (cmp_Or_int.calls kj2 _ _ y145 t148 _ ?side1 ?side2 A13.out).mono ?_); (case side1 => repeat (first | exact (Kd.R_reads' HO147.out).2.2 | (with_reducible refine Kd.C_alloc ?_ _) | (with_reducible refine Kd.C_drewN ?_ _) | (with_reducible refine Kd.C_drew ?_))); (case side2 => exact (Kd.R_reads' HO147.out).2.1); rintro e w' ⟨rfl, ⟨nd, rfl⟩⟩; refine ⟨_, rfl, ?_⟩))
        go_ret2
        exact ⟨by first | rfl | (simp [errW_none, errW_some] <;> rfl) | (simp [*, errW_none, errW_some] <;> rfl), by repeat (first | (with_reducible first | exact HB.out | apply below_alloc | apply pw_below_drewN | apply below_drew1) | exact HB.out)⟩

end Go.Proofs.YtnknjhdpjjddeaaGreatDoor.QB.D
end

section
namespace Go.Proofs.YtnknjhdpjjddeaaGreatDoor.QB.D
open Go.Proofs.YtnknjhdpjjddeaaGreatDoor.Q
open Go.RowKit Go.Proofs.YtnknjhdpjjddeaaGreatDoorW.PrintWords Go.Proofs.YtnknjhdpjjddeaaGreatDoorW.PrintLast Go.Proofs.YtnknjhdpjjddeaaGreatDoorW.PrintMore
attribute [local go_sem] max2_int min2_int max_two min_two max_three min_three max_four min_four   -- for this text's walks alone
set_option linter.unusedVariables false
set_option linter.unusedSimpArgs false

/-! ### version_numbers: function 65 -/
def version_numbers.f (k : Nat) (a0 : ByteArray) (a1 : ByteArray) : Option (Int) := (number_Cmp.f k a0 a1).bind fun bt149 => (some bt149.1)
theorem version_numbers.mono : ∀ a0 a1 k, LeO (version_numbers.f k a0 a1) (version_numbers.f (k + 1) a0 a1) := by
  intro a0 a1 k
  unfold version_numbers.f
  repeat' first
      | (with_reducible exact number_Cmp.mono _ _ _)
      | (with_reducible exact LeO.refl _)
      | (with_reducible exact LeO.none _)
      | (with_reducible refine LeO.ite ?_ ?_)
      | (with_reducible refine LeO.bind ?_ (fun _ => ?_))
      | exact number_Cmp.mono _ _ _
      | exact LeO.none _
      | refine LeO.ite ?_ ?_
      | refine LeO.bind ?_ (fun _ => ?_)
set_option maxHeartbeats 8000000 in
set_option maxRecDepth 100000 in
theorem version_numbers.calls (k : Nat) (a0 : ByteArray) (a1 : ByteArray) (r : Int) (w : World) (h : version_numbers.f k a0 a1 = some r) :
    Calls Tryz.prog 65 #[.string a0, .string a1] w fun e w' => e = .returned (.int .i64 r) ∧ Below w.heap.size w w' := by
  have HB := Aside0.mk (Below.refl w.heap.size w)
  have H : ((number_Cmp.f k a0 a1).bind fun bt149 => (some bt149.1)) = some r := h
  clear h
  replace H := Option.bind_eq_some_iff.mp H
  obtain ⟨⟨t149, t150⟩, A30, H⟩ := H
  replace H : (some t149) = some r := H
  have A3 := Aside0.mk A30
  clear A30
  obtain rfl := Option.some.inj H
  go_enter Tryz.func65, Tryz.ntmps65
  go_wp2_with (first | ((with_reducible refine gate_callee (f := 82) rfl ?_); refine goesL_ (some 10) rfl rfl Tryz.func82 (by kernel_rfl) rfl #[.string a0, .string a1] rfl (by (try simp only [List.map_toArray, List.map_cons, List.map_nil]); first | done | rfl | (simp only [List.length_drop, List.length_take]; rfl)) ?_; (with_reducible refine (number_Cmp.calls k a0 a1 t149 t150 _ A3.out).mono ?_); rintro e w4 ⟨rfl, hb⟩; refine ⟨_, rfl, ?_⟩; have n0_ := Aside0.mk (below_step (by repeat (first | (with_reducible first | exact HB.out | apply below_alloc | apply pw_below_drewN | apply below_drew1) | exact HB.out)) hb); clear HB; have HB := n0_; clear n0_; (try clear hb); (try clear hb2); (try clear hk); (try clear hi)))
  go_ret
  exact ⟨by first | rfl | (simp [errW_none, errW_some] <;> rfl) | (simp [*, errW_none, errW_some] <;> rfl), by repeat (first | (with_reducible first | exact HB.out | apply below_alloc | apply pw_below_drewN | apply below_drew1) | exact HB.out)⟩

end Go.Proofs.YtnknjhdpjjddeaaGreatDoor.QB.D
end

section
namespace Go.Proofs.YtnknjhdpjjddeaaGreatDoor.QB.D
open Go.Proofs.YtnknjhdpjjddeaaGreatDoor.Q
open Go.RowKit Go.Proofs.YtnknjhdpjjddeaaGreatDoorW.PrintWords Go.Proofs.YtnknjhdpjjddeaaGreatDoorW.PrintLast Go.Proofs.YtnknjhdpjjddeaaGreatDoorW.PrintMore
attribute [local go_sem] max2_int min2_int max_two min_two max_three min_three max_four min_four   -- for this text's walks alone
set_option linter.unusedVariables false
set_option linter.unusedSimpArgs false

/-! ### version_words: function 67 -/
def version_words.j0 : Nat → ByteArray → ByteArray → Bool → Bool → Bool → Option (Int)
  | 0, _, _, _, _, _ => none
  | k + 1, x0, x1, x5, x6, x11 => if x11 = true then ((version_numbers.f k x0 x1).bind fun t153 => (some t153)) else (if x5 = true then (some (-1)) else (if x6 = true then (some 1) else ((octet_Cmp.f x0 x1).bind fun t154 => (some t154))))
def version_words.f (k : Nat) (a0 : ByteArray) (a1 : ByteArray) : Option (Int) := (number_May.f a0).bind fun t151 => ((number_May.f a1).bind fun t152 => (if t151 = true then (version_words.j0 k a0 a1 t151 t152 t152) else (version_words.j0 k a0 a1 t151 t152 false)))
theorem version_words.mono_l : ∀ k, (∀ y0 y1 y2 y3 y4, LeO (version_words.j0 k y0 y1 y2 y3 y4) (version_words.j0 (k + 1) y0 y1 y2 y3 y4))
  | 0 => fun _ _ _ _ _ r h => by simp [version_words.j0] at h
  | k + 1 => by
    have ih0 := version_words.mono_l k
    · intro y0 y1 y2 y3 y4
      unfold version_words.j0
      repeat' first
      | (with_reducible exact ih0 _ _ _ _ _)
      | (with_reducible exact version_numbers.mono _ _ _)
      | (with_reducible exact LeO.refl _)
      | (with_reducible exact LeO.none _)
      | (with_reducible refine LeO.ite ?_ ?_)
      | (with_reducible refine LeO.bind ?_ (fun _ => ?_))
      | exact ih0 _ _ _ _ _
      | exact version_numbers.mono _ _ _
      | exact LeO.none _
      | refine LeO.ite ?_ ?_
      | refine LeO.bind ?_ (fun _ => ?_)
theorem version_words.mono : ∀ a0 a1 k, LeO (version_words.f k a0 a1) (version_words.f (k + 1) a0 a1) := by
  intro a0 a1 k
  have ih0 := version_words.mono_l k
  unfold version_words.f
  repeat' first
      | (with_reducible exact ih0 _ _ _ _ _)
      | (with_reducible exact version_numbers.mono _ _ _)
      | (with_reducible exact LeO.refl _)
      | (with_reducible exact LeO.none _)
      | (with_reducible refine LeO.ite ?_ ?_)
      | (with_reducible refine LeO.bind ?_ (fun _ => ?_))
      | exact ih0 _ _ _ _ _
      | exact version_numbers.mono _ _ _
      | exact LeO.none _
      | refine LeO.ite ?_ ?_
      | refine LeO.bind ?_ (fun _ => ?_)
set_option maxHeartbeats 8000000 in
set_option maxRecDepth 100000 in
theorem version_words.calls (k : Nat) (a0 : ByteArray) (a1 : ByteArray) (r : Int) (w : World) (h : version_words.f k a0 a1 = some r) :
    Calls Tryz.prog 67 #[.string a0, .string a1] w fun e w' => e = .returned (.int .i64 r) ∧ Below w.heap.size w w' := by
  have HB := Aside0.mk (Below.refl w.heap.size w)
  have H : ((number_May.f a0).bind fun t151 => ((number_May.f a1).bind fun t152 => (if t151 = true then (version_words.j0 k a0 a1 t151 t152 t152) else (version_words.j0 k a0 a1 t151 t152 false)))) = some r := h
  clear h
  replace H := Option.bind_eq_some_iff.mp H
  obtain ⟨t151, A30, H⟩ := H
  replace H : ((number_May.f a1).bind fun t152 => (if t151 = true then (version_words.j0 k a0 a1 t151 t152 t152) else (version_words.j0 k a0 a1 t151 t152 false))) = some r := H
  have A3 := Aside0.mk A30
  clear A30
  replace H := Option.bind_eq_some_iff.mp H
  obtain ⟨t152, A40, H⟩ := H
  replace H : (if t151 = true then (version_words.j0 k a0 a1 t151 t152 t152) else (version_words.j0 k a0 a1 t151 t152 false)) = some r := H
  have A4 := Aside0.mk A40
  clear A40
  have HC5 := Aside0.mk H
  clear H
  go_enter Tryz.func67, Tryz.ntmps67
  go_upto_region 2 with (first | ((with_reducible refine gate_callee (f := 75) rfl ?_); refine goesL_ (some 8) rfl rfl Tryz.func75 (by kernel_rfl) rfl #[.string a0] rfl (by (try simp only [List.map_toArray, List.map_cons, List.map_nil]); first | done | rfl | (simp only [List.length_drop, List.length_take]; rfl)) ?_; (with_reducible refine (number_May.calls a0 t151 _ A3.out).mono ?_); rintro e w6 ⟨rfl, hb⟩; refine ⟨_, rfl, ?_⟩; have n0_ := Aside0.mk (below_step (by repeat (first | (with_reducible first | exact HB.out | apply below_alloc | apply pw_below_drewN | apply below_drew1) | exact HB.out)) hb); clear HB; have HB := n0_; clear n0_; (try clear hb); (try clear hb2); (try clear hk); (try clear hi)) | ((with_reducible refine gate_callee (f := 75) rfl ?_); refine goesL_ (some 10) rfl rfl Tryz.func75 (by kernel_rfl) rfl #[.string a1] rfl (by (try simp only [List.map_toArray, List.map_cons, List.map_nil]); first | done | rfl | (simp only [List.length_drop, List.length_take]; rfl)) ?_; (with_reducible refine (number_May.calls a1 t152 _ A4.out).mono ?_); rintro e w7 ⟨rfl, hb⟩; refine ⟨_, rfl, ?_⟩; have n0_ := Aside0.mk (below_step (by repeat (first | (with_reducible first | exact HB.out | apply below_alloc | apply pw_below_drewN | apply below_drew1) | exact HB.out)) hb); clear HB; have HB := n0_; clear n0_; (try clear hb); (try clear hb2); (try clear hk); (try clear hi)))
  (try simp only [Act.put, List.setIfInBounds_toArray, List.set_cons_zero, List.set_cons_succ])
  go_cut [11] (fun v11 wc => ∃ (kq : Nat) (x11_4 : Bool), v11 = .bool x11_4 ∧ Aside0 (version_words.j0 kq a0 a1 t151 t152 x11_4 = some r) ∧ Aside0 (kq ≤ k) ∧ Aside0 (Below w.heap.size w wc))
  case first =>
    have H := HC5.out
    clear HC5
    by_cases c8 : t151 = true
    · subst c8
      have H1 : (version_words.j0 k a0 a1 true t152 t152) = some r := by rw [if_pos rfl] at H; exact H
      clear H
      have H := H1
      clear H1
      have H' := Aside0.mk H
      clear H
      go_wp2
      go_meet
      case rel => exact ⟨_, (t152), (by first | rfl | (simp; done) | (simp [*]; done)), H', ⟨by first | omega | exact Nat.le_refl _⟩, ⟨by repeat (first | (with_reducible first | exact HB.out | apply below_alloc | apply pw_below_drewN | apply below_drew1) | exact HB.out)⟩⟩
    · replace c8 := Bool.eq_false_iff.mpr c8
      subst c8
      have H1 : (version_words.j0 k a0 a1 false t152 false) = some r := by rw [if_neg (show ¬ (false = true) by decide)] at H; exact H
      clear H
      have H := H1
      clear H1
      have H' := Aside0.mk H
      clear H
      go_wp2
      go_meet
      case rel => exact ⟨_, (false), (by first | rfl | (simp; done) | (simp [*]; done)), H', ⟨by first | omega | exact Nat.le_refl _⟩, ⟨by repeat (first | (with_reducible first | exact HB.out | apply below_alloc | apply pw_below_drewN | apply below_drew1) | exact HB.out)⟩⟩
  case rest =>
    clear HC5
    try clear p2
    try clear c6
    try clear c7
    try clear c8
    obtain ⟨kq, x11_4, rfl, HA, HJ4, HB⟩ := hcut
    cases kq with
    | zero => exact absurd HA.out (by simp [version_words.j0])
    | succ kj4 =>
      have H := HA.out
      clear HA
      simp only [version_words.j0] at H
      by_cases c9 : x11_4 = true
      · subst c9
        have H1 : ((version_numbers.f kj4 a0 a1).bind fun t153 => (some t153)) = some r := by rw [if_pos rfl] at H; exact H
        clear H
        have H := H1
        clear H1
        replace H := Option.bind_eq_some_iff.mp H
        obtain ⟨t153, A100, H⟩ := H
        replace H : (some t153) = some r := H
        have A10 := Aside0.mk A100
        clear A100
        obtain rfl := Option.some.inj H
        go_wp2_with (first | ((with_reducible refine gate_callee (f := 65) rfl ?_); refine goesL_ (some 18) rfl rfl Tryz.func65 (by kernel_rfl) rfl #[.string a0, .string a1] rfl (by (try simp only [List.map_toArray, List.map_cons, List.map_nil]); first | done | rfl | (simp only [List.length_drop, List.length_take]; rfl)) ?_; (with_reducible refine (version_numbers.calls kj4 a0 a1 t153 _ A10.out).mono ?_); rintro e w11 ⟨rfl, hb⟩; refine ⟨_, rfl, ?_⟩; have n0_ := Aside0.mk (below_step (by repeat (first | (with_reducible first | exact HB.out | apply below_alloc | apply pw_below_drewN | apply below_drew1) | exact HB.out)) hb); clear HB; have HB := n0_; clear n0_; (try clear hb); (try clear hb2); (try clear hk); (try clear hi)))
        go_ret
        exact ⟨by first | rfl | (simp [errW_none, errW_some] <;> rfl) | (simp [*, errW_none, errW_some] <;> rfl), by repeat (first | (with_reducible first | exact HB.out | apply below_alloc | apply pw_below_drewN | apply below_drew1) | exact HB.out)⟩
      · replace c9 := Bool.eq_false_iff.mpr c9
        subst c9
        have H1 : (if t151 = true then (some (-1)) else (if t152 = true then (some 1) else ((octet_Cmp.f a0 a1).bind fun t154 => (some t154)))) = some r := by rw [if_neg (show ¬ (false = true) by decide)] at H; exact H
        clear H
        have H := H1
        clear H1
        by_cases c12 : t151 = true
        · subst c12
          have H1 : (some (-1)) = some r := by rw [if_pos rfl] at H; exact H
          clear H
          have H := H1
          clear H1
          obtain rfl := Option.some.inj H
          go_wp2
          go_ret
          exact ⟨by first | rfl | (simp [errW_none, errW_some] <;> rfl) | (simp [*, errW_none, errW_some] <;> rfl), by repeat (first | (with_reducible first | exact HB.out | apply below_alloc | apply pw_below_drewN | apply below_drew1) | exact HB.out)⟩
        · replace c12 := Bool.eq_false_iff.mpr c12
          subst c12
          have H1 : (if t152 = true then (some 1) else ((octet_Cmp.f a0 a1).bind fun t154 => (some t154))) = some r := by rw [if_neg (show ¬ (false = true) by decide)] at H; exact H
          clear H
          have H := H1
          clear H1
          by_cases c13 : t152 = true
          · subst c13
            have H1 : (some 1) = some r := by rw [if_pos rfl] at H; exact H
            clear H
            have H := H1
            clear H1
            obtain rfl := Option.some.inj H
            go_wp2
            go_ret
            exact ⟨by first | rfl | (simp [errW_none, errW_some] <;> rfl) | (simp [*, errW_none, errW_some] <;> rfl), by repeat (first | (with_reducible first | exact HB.out | apply below_alloc | apply pw_below_drewN | apply below_drew1) | exact HB.out)⟩
          · replace c13 := Bool.eq_false_iff.mpr c13
            subst c13
            have H1 : ((octet_Cmp.f a0 a1).bind fun t154 => (some t154)) = some r := by rw [if_neg (show ¬ (false = true) by decide)] at H; exact H
            clear H
            have H := H1
            clear H1
            replace H := Option.bind_eq_some_iff.mp H
            obtain ⟨t154, A140, H⟩ := H
            replace H : (some t154) = some r := H
            have A14 := Aside0.mk A140
            clear A140
            obtain rfl := Option.some.inj H
            go_wp2_with (first | ((with_reducible refine gate_callee (f := 45) rfl ?_); refine goesL_ (some 25) rfl rfl Tryz.func45 (by kernel_rfl) rfl #[.string a0, .string a1] rfl (by (try simp only [List.map_toArray, List.map_cons, List.map_nil]); first | done | rfl | (simp only [List.length_drop, List.length_take]; rfl)) ?_; (with_reducible refine (octet_Cmp.calls a0 a1 t154 _ A14.out).mono ?_); rintro e w' ⟨rfl, ⟨nd, rfl⟩⟩; refine ⟨_, rfl, ?_⟩))
            go_ret
            exact ⟨by first | rfl | (simp [errW_none, errW_some] <;> rfl) | (simp [*, errW_none, errW_some] <;> rfl), by repeat (first | (with_reducible first | exact HB.out | apply below_alloc | apply pw_below_drewN | apply below_drew1) | exact HB.out)⟩

end Go.Proofs.YtnknjhdpjjddeaaGreatDoor.QB.D
end

section
namespace Go.Proofs.YtnknjhdpjjddeaaGreatDoor.QB.D
open Go.Proofs.YtnknjhdpjjddeaaGreatDoor.Q
open Go.RowKit Go.Lib Go.Proofs.YtnknjhdpjjddeaaGreatDoorW.PrintWords Go.Proofs.YtnknjhdpjjddeaaGreatDoorW.PrintLast Go.Proofs.YtnknjhdpjjddeaaGreatDoorW.PrintMore Gw
set_option linter.unusedVariables false
set_option linter.unusedSimpArgs false
theorem in_dig : ∀ c < 256, decide ((cls c : Int) ∈ ([1] : List Int)) = dig c := by decide +kernel
theorem all_of {l : List Nat} (ho : ∀ c ∈ l, c < 256) {p q : Nat → Bool} (h : ∀ c < 256, p c = q c) : l.all p = l.all q := by
  rw [Bool.eq_iff_iff, List.all_eq_true, List.all_eq_true]
  exact ⟨fun g c hc => by rw [← h c (ho c hc)]; exact g c hc, fun g c hc => by rw [h c (ho c hc)]; exact g c hc⟩
theorem All_dig (s : ByteArray) (hs : Small s) : octet_All.f s [1] = some ((bs s).all dig) := by
  unfold octet_All.f
  rw [if_pos hs, all_of (bs_oct s) in_dig]
theorem All_elc (s : ByteArray) (hs : Small s) : octet_All.f s [1, 2, 3] = some ((bs s).all elc) := by
  unfold octet_All.f
  rw [if_pos hs, all_of (bs_oct s) in_elc]
theorem toList_nil (s : ByteArray) : (s.toList = ([] : List UInt8)) ↔ bs s = [] := by
  rw [ByteArray.toList_eq]
  simp [bs]
theorem number_May_tot (s : ByteArray) (hs : Small s) : number_May.f s = some (isNum (bs s)) := by
  unfold number_May.f
  by_cases he : bs s = []
  · rw [if_pos ((toList_nil s).2 he), he]; rfl
  · rw [if_neg (fun h => he ((toList_nil s).1 h)), All_dig s hs]
    simp only [Option.bind_some]
    obtain ⟨c, r, hb⟩ : ∃ c r, bs s = c :: r := by
      cases h : bs s with
      | nil => exact absurd h he
      | cons c r => exact ⟨c, r, rfl⟩
    have hsz : s.size = r.length + 1 := by rw [← bs_length, hb]; rfl
    have hd : (bs s).drop 0 = c :: r := by simpa using hb
    have hc := (bt_drop hd).2.1
    rw [show ((0 : Nat) : Int) = 0 from rfl] at hc
    by_cases ha : (bs s).all dig = true
    · rw [if_pos ha, if_pos (by omega), hc]
      unfold isNum
      rw [ha, hb]
      by_cases h48 : c = 48
      · rw [if_pos (by omega)]
        subst h48
        cases r with
        | nil => rw [hsz]; rfl
        | cons x r =>
          have : ((s.size : Int) == 1) = false := beq_eq_false_iff_ne.2 (by rw [hsz]; simp; omega)
          rw [this]; rfl
      · rw [if_neg (by omega)]
        simp [h48]
    · rw [if_neg ha]
      unfold isNum
      rw [Bool.eq_false_iff.2 ha]; rfl
theorem may_calls (s : ByteArray) (hs : Small s) (w : World) : Calls Tryz.prog 75 #[.string s] w fun e w' => e = .returned (.bool (isNum (bs s))) ∧ Below w.heap.size w w' := number_May.calls s _ w (number_May_tot s hs)
theorem wch_iff : ∀ c < 256, wch c = (elc c && !isDot c) := by decide +kernel
theorem wch_low : ∀ c < 256, 128 ≤ c → wch c = false := by decide +kernel
theorem word_no_dot {s : ByteArray} {b : Bool} (h : (∀ c ∈ bs s, c < 128) → b = (bs s).any isDot) (hb : b = true) : isWord (bs s) = false := by
  have hw : (bs s).all wch = false := by
    by_cases ha : ∀ c ∈ bs s, c < 128
    · have := h ha
      rw [hb] at this
      obtain ⟨c, hc, hd⟩ := List.any_eq_true.1 this.symm
      rw [List.all_eq_false]
      exact ⟨c, hc, by rw [wch_iff c (bs_oct s c hc), hd]; simp⟩
    · simp only [Classical.not_forall] at ha
      obtain ⟨c, hc, hd⟩ := ha
      rw [List.all_eq_false]
      exact ⟨c, hc, by rw [wch_low c (bs_oct s c hc) (by omega)]; simp⟩
  unfold isWord
  rw [hw]; simp
theorem word_no_elc {s : ByteArray} (h : (bs s).all elc = false) : isWord (bs s) = false := by
  have hw : (bs s).all wch = false := by
    obtain ⟨c, hc, hd⟩ := List.all_eq_false.1 h
    rw [List.all_eq_false]
    exact ⟨c, hc, by rw [wch_iff c (bs_oct s c hc), Bool.eq_false_iff.2 hd]; simp⟩
  unfold isWord
  rw [hw]; simp
theorem word_yes {s : ByteArray} {b : Bool} (h : (∀ c ∈ bs s, c < 128) → b = (bs s).any isDot) (hb : b = false) (he : (bs s).all elc = true) (hn : bs s ≠ []) : isWord (bs s) = (isNum (bs s) || !(bs s).all dig) := by
  have ha : ∀ c ∈ bs s, c < 128 := fun c hc => by
    have h1 := List.all_eq_true.1 he c hc
    rcases Nat.lt_or_ge c 128 with hl | hl
    · exact hl
    · rw [elc_low c (bs_oct s c hc) hl] at h1; cases h1
  have hd := h ha
  rw [hb] at hd
  have hw : (bs s).all wch = true := by
    rw [List.all_eq_true]
    intro c hc
    have h1 := List.any_eq_false.1 hd.symm c hc
    rw [wch_iff c (bs_oct s c hc), List.all_eq_true.1 he c hc, Bool.eq_false_iff.2 h1]; rfl
  unfold isWord
  rw [hw]
  have : (bs s).isEmpty = false := by cases hq : bs s with | nil => exact absurd hq hn | cons _ _ => rfl
  rw [this]
  cases isNum (bs s) <;> cases (bs s).all dig <;> rfl
set_option maxHeartbeats 4000000 in
set_option maxRecDepth 1000000 in
theorem vword_calls (s : ByteArray) (hs : Tiny s) (w : World) : Calls Tryz.prog 76 #[.string s] w fun e w' => e = .returned (.bool (isWord (bs s))) ∧ Below w.heap.size w w' := by
  have hsm := hs.small
  have hcd := contains_dots s hs
  have hal := fun w0 : World => octet_All.calls s (some ⟨w0.heap.size, 0, none⟩) 3 [1, 2, 3] _ (w0.alloc (.cells #[.int .i64 1, .int .i64 2, .int .i64 3] 3)) (row_ints w0 [1, 2, 3] 3 (by decide)) (by decide) (All_elc s hsm)
  have had := fun w0 : World => octet_All.calls s (some ⟨w0.heap.size, 0, none⟩) 1 [1] _ (w0.alloc (.cells #[.int .i64 1] 3)) (row_ints w0 [1] 3 (by decide)) (by decide) (All_dig s hsm)
  have hmy := may_calls s hsm
  by_cases he : bs s = []
  · have hl : (s.toList == ([] : List UInt8)) = true := by rw [beq_iff_eq]; exact (toList_nil s).2 he
    have hw : isWord (bs s) = false := by rw [he]; rfl
    have Hw := Aside0.mk hw
    clear hw hal had hmy hcd hs hsm he
    go_enter Tryz.func76, Tryz.ntmps76
    go_wp2
    go_ret
    exact ⟨by rw [Hw.out]; rfl, Below.refl _ _⟩
  · have hl : (s.toList == ([] : List UInt8)) = false := by rw [beq_eq_false_iff_ne]; exact fun h => he ((toList_nil s).1 h)
    go_enter Tryz.func76, Tryz.ntmps76
    go_wp2_with fail
    refine (hcd _).mono ?_
    rintro e w1 ⟨b, rfl, hb, hb1⟩
    cases b
    case true =>
      have hw := word_no_dot hb rfl
      have Hw := Aside0.mk hw
      clear hw hb hal had hmy hcd hs hsm he
      go_wp2
      go_ret
      exact ⟨by rw [Hw.out]; rfl, hb1⟩
    case false =>
      have HB1 := Aside0.mk hb1
      have Hb := Aside0.mk hb
      clear hb1 hb
      go_wp2_with fail
      refine (hal _).mono ?_
      rintro e w2 ⟨rfl, hb2⟩
      have hB2 : Below w.heap.size w w2 := (below_alloc' HB1.out _ HB1.out.size).trans (hb2.mono (by have := HB1.out.size; simp; omega))
      have HB2 := Aside0.mk hB2
      clear hb2 hB2
      cases hea : (bs s).all elc
      · have hw := word_no_elc hea
        have Hw := Aside0.mk hw
        clear hw Hb hea hal had hmy hcd hs hsm he
        go_wp2
        go_ret
        exact ⟨by rw [Hw.out]; rfl, HB2.out⟩
      · have hw := word_yes Hb.out rfl hea he
        generalize (bs s).all dig = d at hw had
        generalize isNum (bs s) = m at hw hmy
        have Hw := Aside0.mk hw
        clear hw Hb hea hcd hs hsm he
        go_wp2_with fail
        refine (hmy _).mono ?_
        rintro e w3 ⟨rfl, hb3⟩
        have hB3 : Below w.heap.size w w3 := HB2.out.trans (hb3.mono HB2.out.size)
        have HB3 := Aside0.mk hB3
        clear hb3 hB3
        cases m
        · go_wp2_with fail
          refine (had _).mono ?_
          rintro e w4 ⟨rfl, hb4⟩
          have hB4 : Below w.heap.size w w4 := (below_alloc' HB3.out _ HB3.out.size).trans (hb4.mono (by have := HB3.out.size; simp; omega))
          have HB4 := Aside0.mk hB4
          clear hb4 hB4
          go_wp2
          go_ret
          exact ⟨by rw [Hw.out]; rfl, HB4.out⟩
        · go_wp2
          go_ret
          exact ⟨by rw [Hw.out]; rfl, HB3.out⟩
end Go.Proofs.YtnknjhdpjjddeaaGreatDoor.QB.D
end
