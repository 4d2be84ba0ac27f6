/- Part 12 of this claim: several texts one behind the other: Split, Fgraftwoodref03May, SplitP, RVal, RCmp, EvB5, EvFew, EvTc, EvTd, EvTe. What each shows stands in its theorems; conditions: sizes of texts and lists, as the functions' definitions say. -/
import Derived.Test.YtffjkbbmnfnbaaaGreatDoorMTallyOrder6
import Derived.Test.YtffjkbbmnfnbaaaGreatDoorMTallyOrder7
import Derived.Test.YtffjkbbmnfnbaaaGreatDoorMTallyOrder9
import Derived.RegionTactic
import Derived.BigRegion
import Derived.ChangeAlike
import Derived.Test.YtffjkbbmnfnbaaaGreatDoorMTallyOrder8
import Derived.Test.YtffjkbbmnfnbaaaGreatDoorMTallyOrder11
import Derived.Deep.QuietTactic
import Derived.BigQuiet
import Derived.Deep.RegionHeld3
section
namespace Go.Proofs.YtffjkbbmnfnbaaaGreatDoor.Q
open Go.RowKit Go.Proofs.YtffjkbbmnfnbaaaGreatDoorW.PrintWords Go.Proofs.YtffjkbbmnfnbaaaGreatDoorW.PrintLast Go.Proofs.YtffjkbbmnfnbaaaGreatDoorW.PrintMore
attribute [local go_sem] max2_int min2_int max_two min_two max_three min_three max_four min_four   -- for this text's walks alone
set_option linter.unusedVariables false
set_option linter.unusedSimpArgs false
end Go.Proofs.YtffjkbbmnfnbaaaGreatDoor.Q
end
section
namespace Go.Proofs.YtffjkbbmnfnbaaaGreatDoor.Q
open Go.Proofs.YtffjkbbmnfnbaaaGreatDoor.QB.D
open Go Go.RowKit Go.Lib Go.Proofs.YtffjkbbmnfnbaaaGreatDoorW.PrintWords Go.Proofs.YtffjkbbmnfnbaaaGreatDoorW.PrintLast Go.Proofs.YtffjkbbmnfnbaaaGreatDoorW.PrintMore Gw Go.Proofs.YtffjkbbmnfnbaaaGreatDoor.QB.D
set_option linter.unusedVariables false
set_option linter.unusedSimpArgs false
def FSr (A : Option Addr) (xs : List ByteArray) (w : World) : Prop := ∀ i (hi : i < xs.length), ∃ g, A = some ⟨g, 0, none⟩ ∧ g < w.heap.size ∧ w.cell? ⟨g, i, none⟩ = some (.string (xs[i]))
theorem FSr.below {A : Option Addr} {xs : List ByteArray} {w w' : World} {b : Nat} (h : FSr A xs w) (hb : Below b w w') (hw : w.heap.size ≤ b) : FSr A xs w' := fun i hi => by
 obtain ⟨g, rfl, h1, h2⟩ := h i hi
 exact ⟨g, rfl, Nat.lt_of_lt_of_le h1 hb.size, (hb.cell (p := ⟨g, i, none⟩) (by simp; omega)).trans h2⟩
def graftwoodref03_Cmp.f (a0 a1 : ByteArray) : Option Int := if (Tiny a0 ∧ Tiny a1) ∧ isVersion (bs a0) = true ∧ isVersion (bs a1) = true then some (verC (vOf (bs a0)) (vOf (bs a1))) else none
end Go.Proofs.YtffjkbbmnfnbaaaGreatDoor.Q
end
section
namespace Go.Proofs.YtffjkbbmnfnbaaaGreatDoor.Q
open Go.Proofs.YtffjkbbmnfnbaaaGreatDoor.QB.D
open Go Go.RowKit Go.Lib Go.Proofs.YtffjkbbmnfnbaaaGreatDoorW.PrintWords Go.Ev
set_option linter.unusedVariables false
section
variable {F : Nat → Nat → Prop} {w : World} {f : FuncId} {fn : Func}
theorem pc_ag1 (hf : Tryz.prog.funcs[f]? = some fn) (hn : (fn.name == "runtime.NumGoroutine") = false) (hb : fn.body.isSome = true) (x : S36) (v : Value) (h : ∀ w, Calls Tryz.prog f #[.agg #[.string x.f0, .string x.f1]] w fun e w' => e = .returned v ∧ Below w.heap.size w w') : PC f [evN x] (.s v) :=
 pc_mk ⟨fn, hf, hn, hb⟩ (noXo_of rfl) fun w F vs hv => by
  match vs, hv with
  | [u], hv =>
   rw [evN_eq hv.1]
   exact (h w).mono fun e w' ⟨he, hb⟩ => ⟨v, he, hb, res_s v⟩
  | [], hv => exact hv.elim
  | _ :: _ :: _, hv => exact hv.2.elim
theorem pc_row {α : Type} {d : Kd α} {raw : α → List Value} {enc : α → PV} (hfl : Flat d raw enc) (hf : Tryz.prog.funcs[f]? = some fn) (hn : (fn.name == "runtime.NumGoroutine") = false) (hb : fn.body.isSome = true) {z : Nat} (hz : z = d.sz) (l : List α) (hl : l.length ≤ 9223372036854775807) (r : PV)
 (h : ∀ w A c, d.C w A l.length l → l.length ≤ c → Calls Tryz.prog f #[.slice A l.length c] w fun e w' => ∃ v, e = .returned v ∧ Below w.heap.size w w' ∧ ∀ F, Res F w.heap.size no0 w' r v) : PC f [.sl 0 z (l.map enc)] r :=
 pc_mk ⟨fn, hf, hn, hb⟩ (noXo_of rfl) fun w F vs hv => by
  match vs, hv with
  | [u], hv =>
   obtain ⟨A, c, rfl, hc, hC⟩ := hfl.toC hv.1 hz hl
   exact (h w A c hC hc).mono fun e w' ⟨v, he, hb, hr⟩ => ⟨v, he, hb, hr F⟩
  | [], hv => exact hv.elim
  | _ :: _ :: _, hv => exact hv.2.elim
end
theorem nodeMay_pc (x : S36) (hx : TinyN x) : PC 41 [evN x] (.s (.bool (mayN x))) :=
 pc_ag1 Tryz.func41 (by kernel_rfl) rfl x _ fun w => node_May.calls (x.f0.size + 2) _ _ _ w (node_May_val _ x hx (Nat.le_refl _))
section
variable {F : Nat → Nat → Prop} {w : World} {f : FuncId} {fn : Func}
theorem pc_str1 (hf : Tryz.prog.funcs[f]? = some fn) (hn : (fn.name == "runtime.NumGoroutine") = false) (hb : fn.body.isSome = true) (x : ByteArray) (v : Value) (h : ∀ w, Calls Tryz.prog f #[.string x] w fun e w' => e = .returned v ∧ Below w.heap.size w w') : PC f [.s (.string x)] (.s v) :=
 pc_mk ⟨fn, hf, hn, hb⟩ (noXo_of rfl) fun w F vs hv => by
  match vs, hv with
  | [u], hv =>
   rw [hv.1.s_eq]
   exact (h w).mono fun e w' ⟨he, hb⟩ => ⟨v, he, hb, res_s v⟩
  | [], hv => exact hv.elim
  | _ :: _ :: _, hv => exact hv.2.elim
theorem pc_str2 (hf : Tryz.prog.funcs[f]? = some fn) (hn : (fn.name == "runtime.NumGoroutine") = false) (hb : fn.body.isSome = true) (x y : ByteArray) (r : PV) (h : ∀ w, Calls Tryz.prog f #[.string x, .string y] w fun e w' => ∃ v, e = .returned v ∧ Below w.heap.size w w' ∧ ∀ F, Res F w.heap.size no0 w' r v) : PC f [.s (.string x), .s (.string y)] r :=
 pc_mk ⟨fn, hf, hn, hb⟩ (noXo_of rfl) fun w F vs hv => by
  match vs, hv with
  | [u, u'], hv =>
   rw [hv.1.s_eq, hv.2.1.s_eq]
   exact (h w).mono fun e w' ⟨v, he, hb, hr⟩ => ⟨v, he, hb, hr F⟩
  | [], hv => exact hv.elim
  | [_], hv => exact hv.2.elim
  | _ :: _ :: _ :: _, hv => exact hv.2.2.elim
end
end Go.Proofs.YtffjkbbmnfnbaaaGreatDoor.Q
end
section
namespace Go.Proofs.YtffjkbbmnfnbaaaGreatDoor.Q
open Go.Proofs.YtffjkbbmnfnbaaaGreatDoor.QB.D
open Go Go.RowKit Go.Lib Go.Proofs.YtffjkbbmnfnbaaaGreatDoorW.PrintWords Go.Ev
set_option linter.unusedVariables false
set_option maxRecDepth 100000
theorem few1_pc (s : ByteArray) : PC 10 [.s (.string s)] (.s (.string (few s))) := by
 refine pc_of tt_ok tt_follows Tryz.func10 rfl (by kernel_rfl) (by kernel_rfl) (Nat.le_of_ble_eq_true rfl) rfl ?_
 conv => whnf
 constructor
 ·intro h
  have h' : (s.size : Int) > 400 := by simpa using h
  conv => whnf
  refine ⟨⟨by decide, by decide, by show (400 : Int) ≤ s.size; omega⟩, ?_⟩
  conv => whnf
  unfold few
  rw [if_pos h'] <;> rfl
 ·intro h
  have h' : ¬ (s.size : Int) > 400 := by simpa using h
  conv => whnf
  unfold few
  rw [if_neg h']
theorem one5_pc (x : S36) : PC 24 [evN x] (evN (oneN x)) := by
 refine pc_of tt_ok tt_follows Tryz.func24 rfl (by kernel_rfl) (by kernel_rfl) (Nat.le_of_ble_eq_true rfl) rfl ?_
 conv => whnf
 refine ⟨_, few1_pc x.f0, ?_⟩
 conv => whnf
 refine ⟨_, few1_pc x.f1, ?_⟩
 conv => whnf
 refine ⟨by kernel_rfl, ?_⟩
 conv => whnf
 rfl
theorem len_le_of {n k : Nat} (h : n ≤ 100) (hk : k ≤ 100) : n + 1 ≤ maxLen ∧ (n + 1) * k ≤ 140737488355328 := by
 constructor
 ·unfold maxLen; omega
 ·have : (n + 1) * k ≤ 101 * 100 := Nat.mul_le_mul (by omega) hk
  omega
theorem few5_pc (l : List S36) : PC 9 [.sl 0 2 (l.map evN)] (.sl 4 2 ((fewN l).map evN)) := by
 refine pc_of tt_ok tt_follows Tryz.func9 rfl (by kernel_rfl) (by kernel_rfl) (Nat.le_of_ble_eq_true rfl) rfl ?_
 conv => whnf
 refine ⟨Nat, fun i => i ≤ l.length ∧ i ≤ 24, fun i => [(9, .sl 24 2 (((l.take i).map oneN).map evN)), (12, .s (.int .i64 i)), (68, .fr (((l.take i).map oneN).map evN).length 2)], [0, 6], fun i => l.length - i, 0, ⟨Nat.zero_le _, Nat.zero_le _⟩, ?_, fun i hi => ?_⟩
 ·exact ⟨⟨⟨rfl, Or.inr rfl, Or.inr (Or.inr rfl)⟩, Nat.le_refl _, rfl, trivial, Or.inl rfl, trivial, trivial⟩, ⟨rfl, trivial, rfl, trivial, trivial⟩⟩
 ·obtain ⟨h1, h2⟩ := hi
  conv => whnf
  constructor
  ·intro h
   have hil := ltm h
   conv => whnf
   constructor
   ·intro h
    have hi24 : i < 24 := by have := of_decide_eq_true h; omega
    conv => whnf
    refine ⟨_, idx_map evN l i hil, ?_⟩
    conv => whnf
    refine ⟨_, one5_pc l[i], ?_⟩
    conv => whnf
    refine ⟨by rw [List.length_map, List.length_map, List.length_take]; exact len_le_of (by omega) (by decide), ?_⟩
    conv => whnf
    refine ⟨rfl, ?_⟩
    conv => whnf
    refine ⟨i + 1, ⟨hil, hi24⟩, less1 hil, ⟨⟨⟨?_, Or.inl rfl, Or.inr (Or.inl rfl)⟩, Nat.le_refl _, incI hi24 (by decide), trivial, Or.inr ?_, trivial, trivial⟩, ⟨rfl, trivial, rfl, trivial, trivial⟩⟩⟩
    ·rw [take_succ_map, List.map_append] <;> rfl
    ·rw [take_succ_map _ _ _ hil, List.map_append] <;> rfl
   ·intro h
    have hi24 : ¬ i < 24 := by have := of_decide_eq_false h; omega
    conv => whnf
    refine ⟨?_, Or.inl rfl, Or.inr rfl⟩
    unfold fewN
    obtain rfl : i = 24 := by omega
    rfl
  ·intro h
   have hil := gem h h1
   conv => whnf
   refine ⟨?_, Or.inl rfl, Or.inr rfl⟩
   unfold fewN
   rw [List.take_of_length_le (by omega), List.take_of_length_le (by omega)]
end Go.Proofs.YtffjkbbmnfnbaaaGreatDoor.Q
end
section
namespace Go.Proofs.YtffjkbbmnfnbaaaGreatDoor.Q
open Go.Proofs.YtffjkbbmnfnbaaaGreatDoor.QB.D
open Go Go.RowKit Go.Lib Go.Proofs.YtffjkbbmnfnbaaaGreatDoorW.PrintWords Go.Ev Gw
set_option linter.unusedVariables false
set_option maxRecDepth 100000
theorem pathMay_pc (s : ByteArray) (hs : Tiny s) : PC 35 [evS s] (.s (.bool (isPath (bs s)))) :=
 pc_str1 Tryz.func35 (by kernel_rfl) rfl s _ fun w => path_May.calls (s.size + 2) _ _ w (path_May_val _ s hs (Nat.le_refl _))
theorem versionMay_pc (s : ByteArray) (hs : Tiny s) : PC 52 [evS s] (.s (.bool (isVersion (bs s)))) :=
 pc_str1 Tryz.func52 (by kernel_rfl) rfl s _ fun w => version_May.calls _ _ w (version_May_val s hs)
theorem octetCmp_pc (a b : ByteArray) : PC 51 [evS a, evS b] (.s (.int .i64 (lexC (bs a) (bs b)))) :=
 pc_str2 Tryz.func51 (by kernel_rfl) rfl a b _ fun w => (octet_Cmp.calls a b _ w (octcmp_val a b)).mono fun e w' h => ⟨_, h.1, (Go.Proofs.YtffjkbbmnfnbaaaGreatDoor.QB.drawn_below h.2).toBelow, fun F => res_s _⟩
theorem versionCmp_pc (a b : ByteArray) (ha : Tiny a) (hb : Tiny b) : PC 70 [evS a, evS b] (.tu [.s (.int .i64 (vcmpO (vparts (bs a)) (vparts (bs b))).1), .s (.int .i64 (vcmpO (vparts (bs a)) (vparts (bs b))).2)]) :=
 pc_str2 Tryz.func70 (by kernel_rfl) rfl a b _ fun w => (version_Cmp.calls a b _ _ w (by unfold version_Cmp.f; rw [if_pos ⟨ha, hb⟩])).mono fun e w' h => ⟨_, h.1, h.2, fun F => (res_s _).pair (fun ps e => by cases e)⟩
theorem torder_pc (a b : ByteArray) (ha : Tiny a) (hb : Tiny b) : PC 45 [evS a, evS b] (.s (.int .i64 (vcmpO (vparts (bs a)) (vparts (bs b))).1)) := by
 refine pc_of tt_ok tt_follows Tryz.func45 rfl (by kernel_rfl) (by kernel_rfl) (Nat.le_of_ble_eq_true rfl) rfl ?_
 conv => whnf
 refine ⟨_, versionCmp_pc a b ha hb, ?_⟩
 conv => whnf
theorem findF_pc (r : RW) (p : ByteArray) : PC 64 [evRw r, evS p] (.s (.int .i64 (lexC (bs r.p) (bs p)))) := by
 refine pc_of tt_ok tt_follows Tryz.func64 rfl (by kernel_rfl) (by kernel_rfl) (Nat.le_of_ble_eq_true rfl) rfl ?_
 conv => whnf
 refine ⟨_, octetCmp_pc r.p p, ?_⟩
 conv => whnf
end Go.Proofs.YtffjkbbmnfnbaaaGreatDoor.Q
end
section
namespace Go.Proofs.YtffjkbbmnfnbaaaGreatDoor.Q
open Go Go.RowKit Go.Lib Go.Proofs.YtffjkbbmnfnbaaaGreatDoorW.PrintWords Go.Ev
set_option linter.unusedVariables false
set_option maxRecDepth 100000
def bsI {α : Type} (c : α → Int) (l : List α) : Nat := l.findIdx fun x => decide (0 ≤ c x)
def bsF {α : Type} (c : α → Int) (l : List α) : Bool := match l[bsI c l]? with | some x => c x == 0 | none => false
structure BsI {α : Type} (c : α → Int) (l : List α) (x : Nat × Nat) : Prop where
 ij : x.1 ≤ x.2
 jn : x.2 ≤ l.length
 lo : ∀ k (hk : k < l.length), k < x.1 → c l[k] < 0
 hi : ∀ k (hk : k < l.length), x.2 ≤ k → 0 ≤ c l[k]
theorem BsI.fin {α : Type} {c : α → Int} {l : List α} {i : Nat} (h : BsI c l (i, i)) : bsI c l = i := by
 unfold bsI
 by_cases hi : i < l.length
 ·refine (List.findIdx_eq hi).2 ⟨decide_eq_true (h.hi i hi (Nat.le_refl _)), fun j hj => ?_⟩
  have := h.lo j (by omega) hj
  simpa using this
 ·have hin : i = l.length := by have := h.jn; omega
  subst hin
  refine List.findIdx_eq_length.2 fun x hx => ?_
  obtain ⟨k, hk, rfl⟩ := List.getElem_of_mem hx
  have := h.lo k hk hk
  simpa using this
theorem midI {i j : Nat} (h : i + j ≤ 4000000) : IntKind.i64.wrap ((IntKind.u64.wrap (IntKind.i64.wrap ((i : Int) + (j : Int)))).fdiv (2 ^ min (Int.toNat 1) IntKind.u64.bits)) = (((i + j) / 2 : Nat) : Int) := by
 have e1 : IntKind.i64.wrap ((i : Int) + (j : Int)) = (i : Int) + j := by rw [IntKind.wrap_i64]; omega
 have e2 : IntKind.u64.wrap ((i : Int) + (j : Int)) = (i : Int) + j := by
  simp only [IntKind.wrap, IntKind.bits, IntKind.signed]
  show ((i : Int) + j) % 18446744073709551616 = _
  omega
 have e3 : (2 ^ min (Int.toNat 1) IntKind.u64.bits : Int) = 2 := rfl
 rw [e1, e2, e3, Int.fdiv_eq_ediv_of_nonneg _ (by decide), IntKind.wrap_i64]
 omega
theorem bsearchS_pc (l : List ByteArray) (t : ByteArray) (hl : l.length ≤ 1000000) (f : FuncId) (c : ByteArray → Int) (hp : ∀ x ∈ l, PC f [evS x, evS t] (.s (.int .i64 (c x)))) (mono : ∀ i j (hi : i < l.length) (hj : j < l.length), i ≤ j → c l[j] < 0 → c l[i] < 0) :
 PC 44 [.sl 0 1 (l.map evS), evS t, .s (.func (.func f) #[] #[])] (.tu [.s (.int .i64 (bsI c l)), .s (.bool (bsF c l))]) := by
 have hlm : (l.map evS).length = l.length := List.length_map ..
 refine pc_of tt_ok tt_follows Tryz.func44 rfl (by kernel_rfl) (by kernel_rfl) (Nat.le_of_ble_eq_true rfl) rfl ?_
 conv => whnf
 refine ⟨Nat × Nat, BsI c l, fun x => [(27, .s (.int .i64 x.1)), (30, .s (.int .i64 x.2))], [0, 3, 6, 24], fun x => x.2 - x.1, (0, l.length), ⟨Nat.zero_le _, Nat.le_refl _, fun k _ h => absurd h (Nat.not_lt_zero _), fun k hk h => absurd hk (by omega)⟩, ?_, fun x hx => ?_⟩
 ·refine ⟨⟨rfl, trivial, ?_, trivial, trivial⟩, ?_⟩
  ·show PV.s (.int .i64 ((l.map evS).length : Nat)) = PV.s (.int .i64 (l.length : Nat))
   rw [hlm]
  ·repeat' (first | exact trivial | refine ⟨?_, ?_⟩ | (((conv => lhs; whnf) <;> (try (conv => rhs; whnf))) <;> exact rfl))
 obtain ⟨i, j⟩ := x
 have hij := hx.ij
 have hjn := hx.jn
 conv => whnf
 constructor
 ·intro h
  have hlt : i < j := by have : ((i : Int) < (j : Int)) := of_decide_eq_true h
                         omega
  have hm := midI (i := i) (j := j) (by simp only at hjn hij; omega)
  have hml : (i + j) / 2 < l.length := by simp only at hjn hij; omega
  conv => whnf
  refine ⟨by decide, ?_⟩
  conv => whnf
  refine ⟨evS l[(i + j) / 2], idx_mapI evS l ((i + j) / 2) hm hml, ?_⟩
  conv => whnf
  refine ⟨_, hp _ (List.getElem_mem hml), ?_⟩
  conv => whnf
  constructor
  ·intro hq
   have hq : c l[(i + j) / 2] < 0 := of_decide_eq_true hq
   conv => whnf
   refine ⟨((i + j) / 2 + 1, j), ⟨by show (i + j) / 2 + 1 ≤ j; omega, hjn, fun k hk h => ?_, hx.hi⟩, by show j - ((i + j) / 2 + 1) < j - i; omega, ⟨⟨?_, trivial, rfl, trivial, trivial⟩, ?_⟩⟩
   ·exact mono k ((i + j) / 2) hk hml (by simp only at h; omega) hq
   ·show PV.s (.int .i64 (IntKind.wrap .i64 (IntKind.wrap .i64 _ + 1))) = PV.s (.int .i64 (((i + j) / 2 + 1 : Nat) : Int))
    rw [hm, wrapI (by omega)]; rfl
   ·repeat' (first | exact trivial | refine ⟨?_, ?_⟩ | (((conv => lhs; whnf) <;> (try (conv => rhs; whnf))) <;> exact rfl))
  ·intro hq
   have hq : ¬ c l[(i + j) / 2] < 0 := of_decide_eq_false hq
   conv => whnf
   refine ⟨(i, (i + j) / 2), ⟨by show i ≤ (i + j) / 2; omega, by show (i + j) / 2 ≤ l.length; omega, hx.lo, fun k hk h => ?_⟩, by show (i + j) / 2 - i < j - i; omega, ⟨⟨rfl, trivial, ?_, trivial, trivial⟩, ?_⟩⟩
   ·have h : (i + j) / 2 ≤ k := h
    by_cases hn : c l[k] < 0
    ·exact absurd (mono ((i + j) / 2) k hml hk h hn) hq
    ·omega
   ·show PV.s (.int .i64 (IntKind.wrap .i64 _)) = PV.s (.int .i64 (((i + j) / 2 : Nat) : Int))
    rw [hm]
   ·repeat' (first | exact trivial | refine ⟨?_, ?_⟩ | (((conv => lhs; whnf) <;> (try (conv => rhs; whnf))) <;> exact rfl))
 ·intro h
  have hge : j = i := by have : ¬ ((i : Int) < (j : Int)) := of_decide_eq_false h
                         simp only at hij; omega
  subst hge
  have hb := hx.fin
  conv => whnf
  constructor
  ·intro h
   have hlt : j < l.length := by have : ((j : Int) < ((l.map evS).length : Int)) := of_decide_eq_true h
                                 omega
   conv => whnf
   refine ⟨evS l[j], idx_map evS l j hlt, ?_⟩
   conv => whnf
   refine ⟨_, hp _ (List.getElem_mem hlt), ?_⟩
   conv => whnf
   refine ⟨?_, ?_, trivial⟩
   ·show PV.s (.int .i64 (j : Nat)) = PV.s (.int .i64 (bsI c l : Nat))
    rw [hb]
   ·show PV.s (.bool (c l[j] == 0)) = PV.s (.bool (bsF c l))
    unfold bsF
    rw [hb, List.getElem?_eq_getElem hlt]
  ·intro h
   have hge : j = l.length := by have : ¬ ((j : Int) < ((l.map evS).length : Int)) := of_decide_eq_false h
                                 simp only at hjn; omega
   conv => whnf
   refine ⟨?_, ?_, trivial⟩
   ·show PV.s (.int .i64 (j : Nat)) = PV.s (.int .i64 (bsI c l : Nat))
    rw [hb]
   ·show PV.s (.bool false) = PV.s (.bool (bsF c l))
    unfold bsF
    rw [hb, List.getElem?_eq_none (by omega)]
theorem bsearchR_pc (l : List RW) (t : ByteArray) (hl : l.length ≤ 1000000) (f : FuncId) (c : RW → Int) (hp : ∀ x ∈ l, PC f [evRw x, evS t] (.s (.int .i64 (c x)))) (mono : ∀ i j (hi : i < l.length) (hj : j < l.length), i ≤ j → c l[j] < 0 → c l[i] < 0) :
 PC 63 [.sl 0 2 (l.map evRw), evS t, .s (.func (.func f) #[] #[])] (.tu [.s (.int .i64 (bsI c l)), .s (.bool (bsF c l))]) := by
 have hlm : (l.map evRw).length = l.length := List.length_map ..
 refine pc_of tt_ok tt_follows Tryz.func63 rfl (by kernel_rfl) (by kernel_rfl) (Nat.le_of_ble_eq_true rfl) rfl ?_
 conv => whnf
 refine ⟨Nat × Nat, BsI c l, fun x => [(27, .s (.int .i64 x.1)), (30, .s (.int .i64 x.2))], [0, 3, 6, 24], fun x => x.2 - x.1, (0, l.length), ⟨Nat.zero_le _, Nat.le_refl _, fun k _ h => absurd h (Nat.not_lt_zero _), fun k hk h => absurd hk (by omega)⟩, ?_, fun x hx => ?_⟩
 ·refine ⟨⟨rfl, trivial, ?_, trivial, trivial⟩, ?_⟩
  ·show PV.s (.int .i64 ((l.map evRw).length : Nat)) = PV.s (.int .i64 (l.length : Nat))
   rw [hlm]
  ·repeat' (first | exact trivial | refine ⟨?_, ?_⟩ | (((conv => lhs; whnf) <;> (try (conv => rhs; whnf))) <;> exact rfl))
 obtain ⟨i, j⟩ := x
 have hij := hx.ij
 have hjn := hx.jn
 conv => whnf
 constructor
 ·intro h
  have hlt : i < j := by have : ((i : Int) < (j : Int)) := of_decide_eq_true h
                         omega
  have hm := midI (i := i) (j := j) (by simp only at hjn hij; omega)
  have hml : (i + j) / 2 < l.length := by simp only at hjn hij; omega
  conv => whnf
  refine ⟨by decide, ?_⟩
  conv => whnf
  refine ⟨evRw l[(i + j) / 2], idx_mapI evRw l ((i + j) / 2) hm hml, ?_⟩
  conv => whnf
  refine ⟨_, hp _ (List.getElem_mem hml), ?_⟩
  conv => whnf
  constructor
  ·intro hq
   have hq : c l[(i + j) / 2] < 0 := of_decide_eq_true hq
   conv => whnf
   refine ⟨((i + j) / 2 + 1, j), ⟨by show (i + j) / 2 + 1 ≤ j; omega, hjn, fun k hk h => ?_, hx.hi⟩, by show j - ((i + j) / 2 + 1) < j - i; omega, ⟨⟨?_, trivial, rfl, trivial, trivial⟩, ?_⟩⟩
   ·exact mono k ((i + j) / 2) hk hml (by simp only at h; omega) hq
   ·show PV.s (.int .i64 (IntKind.wrap .i64 (IntKind.wrap .i64 _ + 1))) = PV.s (.int .i64 (((i + j) / 2 + 1 : Nat) : Int))
    rw [hm, wrapI (by omega)]; rfl
   ·repeat' (first | exact trivial | refine ⟨?_, ?_⟩ | (((conv => lhs; whnf) <;> (try (conv => rhs; whnf))) <;> exact rfl))
  ·intro hq
   have hq : ¬ c l[(i + j) / 2] < 0 := of_decide_eq_false hq
   conv => whnf
   refine ⟨(i, (i + j) / 2), ⟨by show i ≤ (i + j) / 2; omega, by show (i + j) / 2 ≤ l.length; omega, hx.lo, fun k hk h => ?_⟩, by show (i + j) / 2 - i < j - i; omega, ⟨⟨rfl, trivial, ?_, trivial, trivial⟩, ?_⟩⟩
   ·have h : (i + j) / 2 ≤ k := h
    by_cases hn : c l[k] < 0
    ·exact absurd (mono ((i + j) / 2) k hml hk h hn) hq
    ·omega
   ·show PV.s (.int .i64 (IntKind.wrap .i64 _)) = PV.s (.int .i64 (((i + j) / 2 : Nat) : Int))
    rw [hm]
   ·repeat' (first | exact trivial | refine ⟨?_, ?_⟩ | (((conv => lhs; whnf) <;> (try (conv => rhs; whnf))) <;> exact rfl))
 ·intro h
  have hge : j = i := by have : ¬ ((i : Int) < (j : Int)) := of_decide_eq_false h
                         simp only at hij; omega
  subst hge
  have hb := hx.fin
  conv => whnf
  constructor
  ·intro h
   have hlt : j < l.length := by have : ((j : Int) < ((l.map evRw).length : Int)) := of_decide_eq_true h
                                 omega
   conv => whnf
   refine ⟨evRw l[j], idx_map evRw l j hlt, ?_⟩
   conv => whnf
   refine ⟨_, hp _ (List.getElem_mem hlt), ?_⟩
   conv => whnf
   refine ⟨?_, ?_, trivial⟩
   ·show PV.s (.int .i64 (j : Nat)) = PV.s (.int .i64 (bsI c l : Nat))
    rw [hb]
   ·show PV.s (.bool (c l[j] == 0)) = PV.s (.bool (bsF c l))
    unfold bsF
    rw [hb, List.getElem?_eq_getElem hlt]
  ·intro h
   have hge : j = l.length := by have : ¬ ((j : Int) < ((l.map evRw).length : Int)) := of_decide_eq_false h
                                 simp only at hjn; omega
   conv => whnf
   refine ⟨?_, ?_, trivial⟩
   ·show PV.s (.int .i64 (j : Nat)) = PV.s (.int .i64 (bsI c l : Nat))
    rw [hb]
   ·show PV.s (.bool false) = PV.s (.bool (bsF c l))
    unfold bsF
    rw [hb, List.getElem?_eq_none (by omega)]
def fcmp (p : ByteArray) (r : RW) : Int := Gw.lexC (bs r.p) (bs p)
theorem find_pc (l : List RW) (p : ByteArray) (hl : l.length ≤ 1000000) (mono : ∀ i j (hi : i < l.length) (hj : j < l.length), i ≤ j → fcmp p l[j] < 0 → fcmp p l[i] < 0) :
 PC 36 [.sl 0 2 (l.map evRw), evS p] (.tu [.s (.int .i64 (bsI (fcmp p) l)), .s (.bool (bsF (fcmp p) l))]) := by
 refine pc_of tt_ok tt_follows Tryz.func36 rfl (by kernel_rfl) (by kernel_rfl) (Nat.le_of_ble_eq_true rfl) rfl ?_
 conv => whnf
 refine ⟨_, bsearchR_pc l p hl _ (fcmp p) (fun r _ => findF_pc r p) mono, ?_⟩
 conv => whnf
 exact ⟨rfl, rfl, trivial⟩
end Go.Proofs.YtffjkbbmnfnbaaaGreatDoor.Q
end
section
namespace Go.Proofs.YtffjkbbmnfnbaaaGreatDoor.Q
open Go.Proofs.YtffjkbbmnfnbaaaGreatDoor.QB.D
open Go Go.RowKit Go.Lib Go.Proofs.YtffjkbbmnfnbaaaGreatDoorW.PrintWords Go.Ev Gw
set_option linter.unusedVariables false
set_option maxRecDepth 100000
def vord (a b : ByteArray) : Int := (vcmpO (vparts (bs a)) (vparts (bs b))).1
def VOk (v : List ByteArray) (k : Nat) : Prop := ∀ h : k < v.length, isVersion (bs v[k]) = true ∧ (0 < k → vord (v[k - 1]'(by omega)) v[k] < 0)
def ROk (l : List RW) (i : Nat) : Prop := ∀ h : i < l.length, isPath (bs l[i].p) = true ∧ l[i].v ≠ [] ∧ (0 < i → lexC (bs (l[i - 1]'(by omega)).p) (bs l[i].p) < 0) ∧ ∀ k, VOk l[i].v k
def OkT (l : List RW) : Prop := ∀ i, ROk l i
open Classical in
noncomputable def chkT (l : List RW) : Int := if OkT l then 0 else 1
structure TinyR (l : List RW) : Prop where
 p : ∀ r ∈ l, Tiny r.p
 v : ∀ r ∈ l, ∀ s ∈ r.v, Tiny s
 n : ∀ r ∈ l, r.v.length ≤ 1000000
theorem chk_bad {l : List RW} (i : Nat) (h : ¬ ROk l i) : chkT l = 1 := if_neg fun e => h (e i)
theorem check_pc (l : List RW) (hl : l.length ≤ 1000000) (ht : TinyR l) : PC 27 [.sl 0 2 (l.map evRw)] (.s (.int .i64 (chkT l))) := by
 have hlm : (l.map evRw).length = l.length := List.length_map ..
 refine pc_of tt_ok tt_follows Tryz.func27 rfl (by kernel_rfl) (by kernel_rfl) (Nat.le_of_ble_eq_true rfl) rfl ?_
 conv => whnf
 refine ⟨Nat, fun i => i ≤ l.length ∧ ∀ j, j < i → ROk l j, fun i => [(27, .s (.int .i64 i))], [0, 21, 24], fun i => l.length - i, 0, ⟨Nat.zero_le _, fun j h => absurd h (Nat.not_lt_zero _)⟩, ?_, fun i hi => ?_⟩
 ·refine ⟨⟨rfl, trivial, trivial⟩, ?_⟩
  repeat' (first | exact trivial | refine ⟨?_, ?_⟩ | (((conv => lhs; whnf) <;> (try (conv => rhs; whnf))) <;> exact rfl))
 obtain ⟨h1, h2⟩ := hi
 conv => whnf
 constructor
 ·intro h
  have hil := ltm h
  have hm := List.getElem_mem hil
  conv => whnf
  refine ⟨_, idx_map evRw l i hil, ?_⟩
  conv => whnf
  refine ⟨_, pathMay_pc l[i].p (ht.p _ hm), ?_⟩
  conv => whnf
  have bad : ¬ ROk l i → PV.s (.int .i64 1) = PV.s (.int .i64 (chkT l)) := fun h => by rw [chk_bad i h]
  constructor
  ·intro hp
   have hp : isPath (bs l[i].p) = false := Eq.mp (Bool.not_eq_true' _) hp
   conv => whnf
   refine ⟨by kernel_rfl, ?_⟩
   conv => whnf
   conv => whnf
   exact bad fun h => by rw [(h hil).1] at hp; cases hp
  intro hp
  have hp : isPath (bs l[i].p) = true := by simpa using hp
  conv => whnf
  constructor
  ·intro hq
   have hq : (l[i].v.map evS).length = 0 := by
    have : (((l[i].v.map evS).length : Nat) : Int) = 0 := eq_of_beq hq
    omega
   conv => whnf
   refine ⟨by kernel_rfl, ?_⟩
   conv => whnf
   conv => whnf
   exact bad fun h => (h hil).2.1 (List.eq_nil_of_length_eq_zero (by simpa using hq))
  intro hq
  have hq : l[i].v ≠ [] := fun e => by rw [e] at hq; cases hq
  have hvn := ht.n _ hm
  have hvt := ht.v _ hm
  have hw1 : 0 < i → IntKind.i64.wrap ((i : Int) - 1) = ((i - 1 : Nat) : Int) := fun h => by rw [IntKind.wrap_i64]; omega
  conv => whnf
  constructor
  ·intro hg
   have hi0 : 0 < i := by have : (i : Int) > 0 := of_decide_eq_true hg
                          omega
   conv => whnf
   refine ⟨evRw l[i - 1], idx_mapI evRw l (i - 1) (hw1 hi0) (by omega), ?_⟩
   conv => whnf
   refine ⟨_, octetCmp_pc l[i - 1].p l[i].p, ?_⟩
   conv => whnf
   refine ⟨by kernel_rfl, ?_⟩
   conv => whnf
   constructor
   ·intro hq2
    have hq2 : lexC (bs l[i - 1].p) (bs l[i].p) ≥ 0 := of_decide_eq_true hq2
    conv => whnf
    exact bad fun h => by have := (h hil).2.2.1 hi0; omega
   intro hq2
   have hq2 : ¬ lexC (bs l[i - 1].p) (bs l[i].p) ≥ 0 := of_decide_eq_false hq2
   have hlt : 0 < i → lexC (bs (l[i - 1]'(by omega)).p) (bs l[i].p) < 0 := fun _ => by omega
   conv => whnf
   refine ⟨Nat, fun k => k ≤ l[i].v.length ∧ ∀ j, j < k → VOk l[i].v j, fun k => [(129, .s (.int .i64 k))], [0, 12, 13, 21, 24, 27, 123, 126], fun k => l[i].v.length - k, 0, ⟨Nat.zero_le _, fun j h => absurd h (Nat.not_lt_zero _)⟩, ?_, fun k hk => ?_⟩
   ·refine ⟨⟨rfl, trivial, trivial⟩, ?_⟩
    repeat' (first | exact trivial | refine ⟨?_, ?_⟩ | (((conv => lhs; whnf) <;> (try (conv => rhs; whnf))) <;> exact rfl))
   obtain ⟨k1, k2⟩ := hk
   conv => whnf
   constructor
   ·intro h
    have hkl : k < l[i].v.length := ltm h
    have hkm := List.getElem_mem hkl
    have hw2 : 0 < k → IntKind.i64.wrap ((k : Int) - 1) = ((k - 1 : Nat) : Int) := fun h => by rw [IntKind.wrap_i64]; omega
    have vbad : ¬ VOk l[i].v k → PV.s (.int .i64 1) = PV.s (.int .i64 (chkT l)) := fun h => bad fun hr => h ((hr hil).2.2.2 k)
    have next : VOk l[i].v k → ∀ j, j < k + 1 → VOk l[i].v j := fun h j hj => by
     by_cases hjk : j < k
     ·exact k2 j hjk
     ·obtain rfl : j = k := by omega
      exact h
    conv => whnf
    refine ⟨_, idx_map evS l[i].v k hkl, ?_⟩
    conv => whnf
    refine ⟨_, versionMay_pc l[i].v[k] (hvt _ hkm), ?_⟩
    conv => whnf
    constructor
    ·intro hv
     have hv : isVersion (bs l[i].v[k]) = false := Eq.mp (Bool.not_eq_true' _) hv
     conv => whnf
     exact vbad fun h => by rw [(h hkl).1] at hv; cases hv
    intro hv
    have hv : isVersion (bs l[i].v[k]) = true := by simpa using hv
    conv => whnf
    constructor
    ·intro hg
     have hk0 : 0 < k := by have : (k : Int) > 0 := of_decide_eq_true hg
                            omega
     conv => whnf
     refine ⟨evS l[i].v[k - 1], idx_mapI evS l[i].v (k - 1) (hw2 hk0) (by omega), ?_⟩
     conv => whnf
     refine ⟨_, torder_pc l[i].v[k - 1] l[i].v[k] (hvt _ (List.getElem_mem _)) (hvt _ hkm), ?_⟩
     conv => whnf
     constructor
     ·intro hq3
      have hq3 : vord l[i].v[k - 1] l[i].v[k] ≥ 0 := of_decide_eq_true hq3
      conv => whnf
      exact vbad fun h => by have := (h hkl).2 hk0; omega
     intro hq3
     have hq3 : ¬ vord l[i].v[k - 1] l[i].v[k] ≥ 0 := of_decide_eq_false hq3
     conv => whnf
     refine ⟨k + 1, ⟨hkl, next fun _ => ⟨hv, fun _ => by omega⟩⟩, less1 hkl, ⟨⟨incI hkl (by omega), trivial, trivial⟩, ?_⟩⟩
     repeat' (first | exact trivial | refine ⟨?_, ?_⟩ | (((conv => lhs; whnf) <;> (try (conv => rhs; whnf))) <;> exact rfl))
    ·intro hg
     have hk0 : ¬ 0 < k := by have : ¬ (k : Int) > 0 := of_decide_eq_false hg
                              omega
     conv => whnf
     refine ⟨k + 1, ⟨hkl, next fun _ => ⟨hv, fun h => absurd h hk0⟩⟩, less1 hkl, ⟨⟨incI hkl (by omega), trivial, trivial⟩, ?_⟩⟩
     repeat' (first | exact trivial | refine ⟨?_, ?_⟩ | (((conv => lhs; whnf) <;> (try (conv => rhs; whnf))) <;> exact rfl))
   ·intro h
    have hke : k = l[i].v.length := gem h k1
    conv => whnf
    refine ⟨i + 1, ⟨hil, fun j hj => ?_⟩, less1 hil, ⟨⟨incI hil (by omega), trivial, trivial⟩, ?_⟩⟩
    ·by_cases hji : j < i
     ·exact h2 j hji
     ·obtain rfl : j = i := by omega
      exact fun _ => ⟨hp, hq, hlt, fun k' hk' => k2 k' (by omega) hk'⟩
    ·repeat' (first | exact trivial | refine ⟨?_, ?_⟩ | (((conv => lhs; whnf) <;> (try (conv => rhs; whnf))) <;> exact rfl))
  ·intro hg
   have hi0 : ¬ 0 < i := by have : ¬ (i : Int) > 0 := of_decide_eq_false hg
                            omega
   have hlt : 0 < i → lexC (bs (l[i - 1]'(by omega)).p) (bs l[i].p) < 0 := fun h => absurd h hi0
   conv => whnf
   refine ⟨by kernel_rfl, ?_⟩
   conv => whnf
   conv => whnf
   refine ⟨Nat, fun k => k ≤ l[i].v.length ∧ ∀ j, j < k → VOk l[i].v j, fun k => [(129, .s (.int .i64 k))], [0, 12, 13, 21, 24, 27, 123, 126], fun k => l[i].v.length - k, 0, ⟨Nat.zero_le _, fun j h => absurd h (Nat.not_lt_zero _)⟩, ?_, fun k hk => ?_⟩
   ·refine ⟨⟨rfl, trivial, trivial⟩, ?_⟩
    repeat' (first | exact trivial | refine ⟨?_, ?_⟩ | (((conv => lhs; whnf) <;> (try (conv => rhs; whnf))) <;> exact rfl))
   obtain ⟨k1, k2⟩ := hk
   conv => whnf
   constructor
   ·intro h
    have hkl : k < l[i].v.length := ltm h
    have hkm := List.getElem_mem hkl
    have hw2 : 0 < k → IntKind.i64.wrap ((k : Int) - 1) = ((k - 1 : Nat) : Int) := fun h => by rw [IntKind.wrap_i64]; omega
    have vbad : ¬ VOk l[i].v k → PV.s (.int .i64 1) = PV.s (.int .i64 (chkT l)) := fun h => bad fun hr => h ((hr hil).2.2.2 k)
    have next : VOk l[i].v k → ∀ j, j < k + 1 → VOk l[i].v j := fun h j hj => by
     by_cases hjk : j < k
     ·exact k2 j hjk
     ·obtain rfl : j = k := by omega
      exact h
    conv => whnf
    refine ⟨_, idx_map evS l[i].v k hkl, ?_⟩
    conv => whnf
    refine ⟨_, versionMay_pc l[i].v[k] (hvt _ hkm), ?_⟩
    conv => whnf
    constructor
    ·intro hv
     have hv : isVersion (bs l[i].v[k]) = false := Eq.mp (Bool.not_eq_true' _) hv
     conv => whnf
     exact vbad fun h => by rw [(h hkl).1] at hv; cases hv
    intro hv
    have hv : isVersion (bs l[i].v[k]) = true := by simpa using hv
    conv => whnf
    constructor
    ·intro hg
     have hk0 : 0 < k := by have : (k : Int) > 0 := of_decide_eq_true hg
                            omega
     conv => whnf
     refine ⟨evS l[i].v[k - 1], idx_mapI evS l[i].v (k - 1) (hw2 hk0) (by omega), ?_⟩
     conv => whnf
     refine ⟨_, torder_pc l[i].v[k - 1] l[i].v[k] (hvt _ (List.getElem_mem _)) (hvt _ hkm), ?_⟩
     conv => whnf
     constructor
     ·intro hq3
      have hq3 : vord l[i].v[k - 1] l[i].v[k] ≥ 0 := of_decide_eq_true hq3
      conv => whnf
      exact vbad fun h => by have := (h hkl).2 hk0; omega
     intro hq3
     have hq3 : ¬ vord l[i].v[k - 1] l[i].v[k] ≥ 0 := of_decide_eq_false hq3
     conv => whnf
     refine ⟨k + 1, ⟨hkl, next fun _ => ⟨hv, fun _ => by omega⟩⟩, less1 hkl, ⟨⟨incI hkl (by omega), trivial, trivial⟩, ?_⟩⟩
     repeat' (first | exact trivial | refine ⟨?_, ?_⟩ | (((conv => lhs; whnf) <;> (try (conv => rhs; whnf))) <;> exact rfl))
    ·intro hg
     have hk0 : ¬ 0 < k := by have : ¬ (k : Int) > 0 := of_decide_eq_false hg
                              omega
     conv => whnf
     refine ⟨k + 1, ⟨hkl, next fun _ => ⟨hv, fun h => absurd h hk0⟩⟩, less1 hkl, ⟨⟨incI hkl (by omega), trivial, trivial⟩, ?_⟩⟩
     repeat' (first | exact trivial | refine ⟨?_, ?_⟩ | (((conv => lhs; whnf) <;> (try (conv => rhs; whnf))) <;> exact rfl))
   ·intro h
    have hke : k = l[i].v.length := gem h k1
    conv => whnf
    refine ⟨i + 1, ⟨hil, fun j hj => ?_⟩, less1 hil, ⟨⟨incI hil (by omega), trivial, trivial⟩, ?_⟩⟩
    ·by_cases hji : j < i
     ·exact h2 j hji
     ·obtain rfl : j = i := by omega
      exact fun _ => ⟨hp, hq, hlt, fun k' hk' => k2 k' (by omega) hk'⟩
    ·repeat' (first | exact trivial | refine ⟨?_, ?_⟩ | (((conv => lhs; whnf) <;> (try (conv => rhs; whnf))) <;> exact rfl))
 ·intro h
  have hil := gem h h1
  subst hil
  conv => whnf
  have : chkT l = 0 := if_pos fun i hi => h2 i hi hi
  rw [this] <;> rfl
end Go.Proofs.YtffjkbbmnfnbaaaGreatDoor.Q
end
