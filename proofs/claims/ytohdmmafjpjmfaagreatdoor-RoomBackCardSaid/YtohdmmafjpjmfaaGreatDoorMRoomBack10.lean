/- Part 10 of this claim: several texts one behind the other: NIter, FEdits, FCount, FDiff, FConcat, FBoth, ECells, FTurn, FdiffCount, PDiff, DVal. What each shows stands in its theorems; conditions: sizes of texts and lists, as the functions' definitions say. -/
import Derived.Test.YtohdmmafjpjmfaaGreatDoorMRoomBack2
import Derived.Test.YtohdmmafjpjmfaaGreatDoorMRoomBack9
import Derived.RangeFuncNested
import Derived.RangeFuncBound
import Derived.RangeFuncCalls
import Derived.RangeFuncLeaves
import Derived.RangeFuncSeq
import Derived.RangeFuncGives
import Derived.RangeFuncIn
import Derived.RangeFuncRecord
import Derived.Sort.MapsRangeIn
import Derived.Shelf.Abstract
import Derived.WalkKit
import Derived.OwnWalkIn
import Derived.TacticsInMore
import Derived.RegionIn
import Derived.LoopNIn
import Derived.LoopIn
import Derived.Maps.AppendAt
import Derived.Test.YtohdmmafjpjmfaaGreatDoorMRoomBack8
import Derived.Test.YtohdmmafjpjmfaaGreatDoorMRoomBack6
import Derived.Deep.LoopGhost
import Derived.Maps.OwnSet
import Derived.Laws.CopyRow
import Derived.Laws.CopyOwn
import Derived.Lib.SlBuf
import Derived.Test.YtohdmmafjpjmfaaGreatDoorMRoomBack3
section
namespace Go.Proofs.YtohdmmafjpjmfaaGreatDoor.Q
open Go.Proofs.YtohdmmafjpjmfaaGreatDoor.QB.D
open Go Go.RowKit Go.Maps Go.Lib Go.Proofs.YtohdmmafjpjmfaaGreatDoorW.PrintWords Go.Proofs.YtohdmmafjpjmfaaGreatDoorW.PrintLast Go.Proofs.YtohdmmafjpjmfaaGreatDoorW.PrintMore Gw
set_option linter.unusedVariables false
set_option linter.unusedSimpArgs false
attribute [local go_sem] Oper.semAt_some
abbrev vN (x : S34) : Value := .agg #[.string x.f0, .string x.f1]
theorem vN_inj {x y : S34} (h : vN x = vN y) : x = y := by
  cases x; cases y
  simp at h
  rw [h.1, h.2]
theorem int_inv {v : Value} {y : DataW Unit × List MemPlace} (h : plainElem (H := Unit) Tryz.prog 3 v = some y) : ∃ c : Int, v = .int .i64 c := by
  obtain ⟨c, rfl, _⟩ := plainElem_int_inv Tryz.underlying3 h
  exact ⟨c, rfl⟩
set_option maxRecDepth 100000 in
set_option maxHeartbeats 2000000 in
theorem keysN_in (F : Fence) (n : Nat) (hF : F.fn 96) (hro : F.round = none) (hn : 1 ≤ n) (l Bm b nn : Nat) (D0 : DataW Unit) (m : List (S34 × Int)) (hm0 : CntM D0 m) (J : List S34 → World → Prop)
    (hY : ∀ pre x W, J pre W → NS x → pre.length < Maps.size D0 → YieldAt F (n - 1) Tryz.prog l #[vN x] W fun e W' => e = .returned (.bool true) ∧ J (pre ++ [x]) W' ∧ KeepsWalks W W')
    (W : World) (hJ : AbidesFrom W.heap.size J) (hJa : ∀ s W o, J s W → J s (W.alloc o)) (hm : W.cell? ⟨Bm, 0, none⟩ = some (.map (some b))) (hown : W.ownsMap Tryz.prog 34 (plainElem Tryz.prog 3) b nn D0) (h0 : J [] W) :
    CallsIn F n Tryz.prog 96 #[.func (.yield l) #[] #[], .pointer (some ⟨Bm, 0, none⟩)] W fun e W' => (∃ v, e = .returned v) ∧ ∃ ss : List S34, (ss.Nodup ∧ (∀ x ∈ ss, NS x) ∧ ∀ x, NS x → (x ∈ ss ↔ (lookC m x).isSome = true)) ∧ J ss W' := by
  have hu24 := Tryz.underlying34
  have hCM := Aside0.mk hm0
  refine callsIn_of_wp Tryz.func96 rfl hF ?_ hro
  simp only [Tryz.ntmps96, List.size_toArray, List.length_cons, List.length_nil, Nat.reduceAdd, Nat.reduceSub, Array.replicate_succ, Array.replicate_zero, List.push_toArray, List.append_toArray, List.nil_append, List.cons_append]
  gi_wp2_with (first
    | (gi_at_range; refine wpListIn_range_own _ rfl _ 91 rfl 34 3 law_node Tryz.underlying91 _ b nn _ rfl hown ?_; intro w0 hrg0 hg0 hs0)
    | gi_in)
  go_frame
  gi_loopw [3] (fun _ wr => ∃ (left : Lit → Bool) (cnt : Nat) (ss : List S34), wr.ranges Tryz.prog 34 (plainElem Tryz.prog 3) b W.heap.size nn D0 left cnt ∧ ss.length + cnt ≤ Maps.size D0 ∧ Aside0 (ColN D0 left ss) ∧ J ss wr)
    (fun _ wr => wr.rangeLeft b W.heap.size)
  case atStart =>
    exact ⟨_, _, [], hrg0, by simp, ⟨ColN.start D0⟩, hJ [] W w0 none h0 hg0 (fun r e => by cases e)⟩
  case round =>
    obtain ⟨left, cnt, ss, hrg, hcs, hC, hJs⟩ := hrel
    gi_wp2_with (first
      | (gi_at_next; refine wpListIn_next_ranges _ rfl _ rfl 34 law_node (plainElem Tryz.prog 3) vN (Value.int .i64) (fun key kl hk => by obtain ⟨x, hx, _⟩ := keyOf_node_inv hk; exact ⟨x, hx⟩) (fun v _ h => int_inv h) b W.heap.size nn _ _ _ rfl hrg ?_ ?_)
      | gi_in)
    · intro hc0 hl0
      gi_wp2
      go_end0
      exact ⟨⟨_, rfl⟩, ss, hC.out.all hCM.out hl0, hJs⟩
    · intro x c kl yd yp w2 cnt2 hkey hlk hv hat hrg2 hlt hg2 hs2 hen
      obtain ⟨x', ex, hnx, rfl⟩ := keyOf_node_inv hkey
      obtain rfl : x = x' := vN_inj ex
      have hJ2 : J ss w2 := hJ ss wr w2 (some W.heap.size) hJs hg2 (fun r e => by cases e; exact ⟨Nat.le_refl _, hrg.iter_walk⟩)
      have hJ3 := hJa ss w2 (.cells #[.string x.f0, .string x.f1] 34 (0, 0)) hJ2
      obtain ⟨fn, tmps, assign, body, hy, hR⟩ := hY ss x _ hJ3 hnx (by omega)
      have HC2 := Aside0.mk (hC.out.step hnx hlk hat)
      clear hs2 hC
      gi_wp2
      refine hR.mono ?_
      rintro e W3 ⟨rfl, hJ3, hk3⟩
      gi_wp2
      have hrg3 := hrg2.of_walks ((KeepsWalks.alloc _ _).trans hk3)
      go_roundw
      case rel => exact ⟨_, cnt2, ss ++ [x], hrg3, by simp; omega, HC2, hJ3⟩
      case measure => rw [hrg3.left_eq, hrg.left_eq]; exact hlt
def apAssignN : Code := (Code.region 2 #[{ dst := some 5, op := Op.alloc 34, type := 0, pos := "iter.go:51", after := #[], guard := none }, { dst := none, op := Op.store 34 (Operand.tmp 5) (Operand.tmp 7), type := 0, pos := "iter.go:51", after := #[{ on := 0, ground := Ground.data }, { on := 0, ground := Ground.phase }], guard := none }] false)
def apBodyN : Code := (Code.block 1 (Code.region 3 #[{ dst := some 8, op := Op.load 44 (Operand.tmp 2), type := 44, pos := "iter.go:52", after := #[], guard := none }, { dst := some 9, op := Op.load 34 (Operand.tmp 5), type := 34, pos := "iter.go:52", after := #[], guard := none }, { dst := some 10, op := Op.buildSlice 44 1 #[(0, Operand.tmp 9)], type := 44, pos := "iter.go:52", after := #[{ on := 1, ground := Ground.data }], guard := none }, { dst := some 11, op := Op.call { callee := Callee.builtin Builtin.append, args := #[Operand.tmp 8, Operand.tmp 10], argTypes := #[44, 44] }, type := 44, pos := "iter.go:52", after := #[{ on := 0, ground := Ground.data }, { on := 2, ground := Ground.data }], guard := none }, { dst := none, op := Op.store 44 (Operand.tmp 2) (Operand.tmp 11), type := 0, pos := "iter.go:52", after := #[{ on := 3, ground := Ground.data }, { on := 3, ground := Ground.chain }, { on := 0, ground := Ground.phase }, { on := 1, ground := Ground.phase }, { on := 2, ground := Ground.phase }, { on := 3, ground := Ground.phase }], guard := none }] false))
def apRecN (fn : FuncId) (sv : Value) (Bs D : Nat) (st : LoopState) (pend : Option Code) : Loop :=
  { state := st, pending := pend, fn, tmps := #[.slice none 0 0, sv, .pointer (some ⟨Bs, 0, none⟩), undef, .slice none 0 0, undef, sv, undef, undef, undef, undef, undef, undef], params := #[7], assign := apAssignN, body := apBodyN, defers := D }
theorem row_abides {W W' : World} {row : Option Nat} {base : Nat} {e : TypeId} {size : Nat} {v : Value} {k : Nat} {xs : List Value} (h : W.ownsRow base e size v k xs) (hg : W.grownBy W' row)
    (hrow : ∀ r, row = some r → ∃ o : Obj, W.heap[r]? = some o ∧ o.isWalk = true) : W'.ownsRow base e size v k xs := by
  refine h.kept hg ?_
  rcases h.2 with ⟨rfl, _⟩ | ⟨g, cap, cur, rfl, _, hgb, _⟩
  · exact .inl rfl
  · refine .inr fun e' => ?_
    obtain ⟨o, ho, hw⟩ := hrow g (by simpa [Value.ownBlock] using e'.symm)
    rw [hgb] at ho; cases ho; cases hw
theorem put_grown (W : World) (l : Nat) (o : Obj) : W.grownBy (W.putObj l o) (some l) := ⟨rfl, rfl, rfl, by simp, fun k _ hk => World.putObj_heap_other (fun e => hk (by rw [e]))⟩
theorem set_grown (W : World) (b : Nat) (v : Value) : W.grownBy (W.setCell ⟨b, 0, none⟩ v) (some b) := ⟨rfl, rfl, rfl, (KeepsWalks.setCell W _ v).size, fun k _ hk => Below.heap_setCell _ _ _ k (fun e => hk (by rw [e]))⟩
theorem row_ne {W : World} {base : Nat} {e : TypeId} {size : Nat} {v : Value} {k : Nat} {xs : List Value} (h : W.ownsRow base e size v k xs) {j : Nat} {o : Obj} (hj : W.heap[j]? = some o) (hno : ∀ cur, o ≠ .cells cur e (0, 0)) : v.ownBlock = none ∨ v.ownBlock ≠ some j := by
  rcases h.2 with ⟨rfl, _⟩ | ⟨g, cap, cur, rfl, _, hgb, _⟩
  · exact .inl rfl
  · refine .inr fun e' => ?_
    have : g = j := by simpa [Value.ownBlock] using e'
    subst this; rw [hgb] at hj; cases hj; exact hno cur rfl
theorem box_cell {W : World} {B : Nat} {v : Value} {t : TypeId} (h : W.heap[B]? = some (.cells #[v] t (0, 0))) : W.cell? ⟨B, 0, none⟩ = some v ∧ W.frozen? ⟨B, 0, none⟩ = false := by
  constructor <;> simp [World.cell?, World.frozen?, h]
theorem box_set {W : World} {B : Nat} {v : Value} {t : TypeId} (v' : Value) (h : W.heap[B]? = some (.cells #[v] t (0, 0))) : (W.setCell ⟨B, 0, none⟩ v').heap[B]? = some (.cells #[v'] t (0, 0)) := by
  obtain ⟨hlt, hk⟩ := Array.getElem?_eq_some_iff.1 h
  show (W.heap.modify B _)[B]? = _
  rw [Array.getElem?_eq_getElem (by rw [Array.size_modify]; exact hlt), Array.getElem_modify_self, hk]
  rfl
theorem row_no_walk {W : World} {base : Nat} {e : TypeId} {size : Nat} {v : Value} {k : Nat} {xs : List Value} (h : W.ownsRow base e size v k xs) : ∀ (j : Nat) (o : Obj), v.ownBlock = some j → W.heap[j]? = some o → o.isWalk = false := by
  intro j o hj ho
  rcases h.2 with ⟨rfl, _⟩ | ⟨g, cap, cur, rfl, _, hgb, _⟩
  · simp [Value.ownBlock] at hj
  · have : g = j := by simpa [Value.ownBlock] using hj
    subst this; rw [hgb] at ho; cases ho; rfl
structure ApN (w0 : World) (fn : FuncId) (sv : Value) (Bs l D : Nat) (ss : List S34) (W : World) : Prop where
  box : ∃ v, W.heap[Bs]? = some (.cells #[v] 44 (0, 0)) ∧ W.ownsRow w0.heap.size 34 2 v ss.length (cellsN ss)
  L : W.heap[l]? = some (.loop (apRecN fn sv Bs D .ready none))
  K : W.heap[D]? = some (.deferred (some []))
  below : Below w0.heap.size w0 W
theorem ap_abides (w0 : World) (fn : FuncId) (sv : Value) (Bs l D B : Nat) (hB : w0.heap.size ≤ B) : AbidesFrom B (ApN w0 fn sv Bs l D) := fun s W W' row h hg hrow => by
  have hrow' : ∀ r, row = some r → ∃ o : Obj, W.heap[r]? = some o ∧ o.isWalk = true := fun r e => (hrow r e).2
  obtain ⟨v, hv, hr⟩ := h.box
  exact ⟨⟨v, (grownBy_keeps hg hrow' hv rfl).trans hv, row_abides hr hg hrow'⟩, (grownBy_keeps hg hrow' h.L rfl).trans h.L, (grownBy_keeps hg hrow' h.K rfl).trans h.K,
    h.below.grown hg h.below.size (fun k e => Nat.le_trans hB (hrow k e).1)⟩
theorem heap_al {W : World} {k : Nat} {o o' : Obj} (h : W.heap[k]? = some o) : (W.alloc o').heap[k]? = some o := (Below.heap_alloc W o' k (Array.getElem?_eq_some_iff.1 h).1).trans h
theorem ap_alloc {w0 : World} {fn : FuncId} {sv : Value} {Bs l D : Nat} {ss : List S34} {W : World} (h : ApN w0 fn sv Bs l D ss W) (o : Obj) : ApN w0 fn sv Bs l D ss (W.alloc o) := by
  obtain ⟨v, hv, hr⟩ := h.box
  exact ⟨⟨v, heap_al hv, hr.alloc o⟩, heap_al h.L, heap_al h.K, h.below.alloc h.below.size o⟩
set_option maxRecDepth 100000 in
set_option maxHeartbeats 4000000 in
theorem apYieldN (F : Fence) (m : Nat) (w0 : World) (fn : FuncId) (hfn : F.fn fn) (sv : Value) (Bs l D : Nat) (hBl : Bs ≠ l) (hDl : D ≠ l) (hDB : D ≠ Bs) (h0B : w0.heap.size ≤ Bs) (h0l : w0.heap.size ≤ l)
    (ss : List S34) (x : S34) (W : World) (h : ApN w0 fn sv Bs l D ss W) (hlen : ss.length < 4294967296) :
    YieldAt F m Tryz.prog l #[vN x] W fun e W' => e = .returned (.bool true) ∧ ApN w0 fn sv Bs l D (ss ++ [x]) W' ∧ KeepsWalks W W' := by
  have hu24 := Tryz.underlying34
  obtain ⟨i0, hi, hz0, hz1, hz2⟩ := info_parts info34
  obtain ⟨v, hv, hrow⟩ := h.box
  refine ⟨fn, #[.slice none 0 0, sv, .pointer (some ⟨Bs, 0, none⟩), undef, .slice none 0 0, undef, sv, vN x, undef, undef, undef, undef, undef], apAssignN, apBodyN, by simpa [apRecN] using run_yield (P := Tryz.prog) (args := #[vN x]) h.L rfl, roundIn_of_wpIn hfn ?_⟩
  have h1 := ap_alloc h (.cells #[.string x.f0, .string x.f1] 34 (0, 0))
  obtain ⟨W1, hW1⟩ : ∃ W1, W.alloc (.cells #[.string x.f0, .string x.f1] 34 (0, 0)) = W1 := ⟨_, rfl⟩
  have hk1 : KeepsWalks W W1 := by rw [← hW1]; exact KeepsWalks.alloc _ _
  have hrow1 : W1.ownsRow w0.heap.size 34 2 v ss.length (cellsN ss) := by rw [← hW1]; exact hrow.alloc _
  have hv1 : W1.heap[Bs]? = some (.cells #[v] 44 (0, 0)) := by rw [← hW1]; exact heap_al hv
  have hx1 : W1.heap[W.heap.size]? = some (.cells #[.string x.f0, .string x.f1] 34 (0, 0)) := by rw [← hW1]; exact World.alloc_heap_new W _
  rw [hW1] at h1
  have hl : l < W1.heap.size := (Array.getElem?_eq_some_iff.1 h1.L).1
  have hlW : l < W.heap.size := (Array.getElem?_eq_some_iff.1 h.L).1
  have hbr := run_beginRound (P := Tryz.prog) h1.L rfl
  obtain ⟨W2, hW2⟩ : ∃ W2, W1.putObj l (.loop { apRecN fn sv Bs D .ready none with state := .busy }) = W2 := ⟨_, rfl⟩
  rw [hW2] at hbr
  have hg2 : W1.grownBy W2 (some l) := by rw [← hW2]; exact put_grown _ _ _
  have hk2 : KeepsWalks W1 W2 := by rw [← hW2]; exact KeepsWalks.putObj _ h1.L rfl
  have hv2 : W2.heap[Bs]? = some (.cells #[v] 44 (0, 0)) := by rw [← hW2]; exact (World.putObj_heap_other hBl).trans hv1
  have hx2 : W2.heap[W.heap.size]? = some (.cells #[.string x.f0, .string x.f1] 34 (0, 0)) := by rw [← hW2]; exact (World.putObj_heap_other (by omega)).trans hx1
  have hK2 : W2.heap[D]? = some (.deferred (some [])) := by rw [← hW2]; exact (World.putObj_heap_other hDl).trans h1.K
  have hL2 : W2.heap[l]? = some (.loop { apRecN fn sv Bs D .ready none with state := .busy }) := by rw [← hW2]; exact World.putObj_heap_same hl
  have hrow2 : W2.ownsRow w0.heap.size 34 2 v ss.length (cellsN ss) := hrow1.kept hg2 (row_ne hrow1 h1.L (fun cur e => by cases e))
  have hb2 : Below w0.heap.size w0 W2 := h1.below.grown hg2 h1.below.size (fun k e => by cases e; exact h0l)
  obtain ⟨hc2, hf2⟩ := box_cell hv2
  have hn0 : W2.cell? ⟨W.heap.size, 0, none⟩ = some (.string x.f0) := (blk_cell hx2 0).trans rfl
  have hn1 : W2.cell? ⟨W.heap.size, 1, none⟩ = some (.string x.f1) := (blk_cell hx2 1).trans rfl
  have hBlt : Bs < W2.heap.size := (Array.getElem?_eq_some_iff.1 hv2).1
  have hl2 : l < W2.heap.size := (Array.getElem?_eq_some_iff.1 hL2).1
  have hDlt : D < W2.heap.size := (Array.getElem?_eq_some_iff.1 hK2).1
  have ne_of : ∀ {j : Nat} {o : Obj}, W2.heap[j]? = some o → (∀ cur, o ≠ .cells cur 34 (0, 0)) → some j ≠ v.ownBlock := fun hj hno => by
    rcases row_ne hrow2 hj hno with e | e
    · rw [e]; simp
    · exact fun e' => e e'.symm
  have HW2 := Aside0.mk hW2
  rw [← hW1] at hbr
  have HW1 := Aside0.mk hW1
  have HX2 := Aside0.mk hx2
  have HV2 := Aside0.mk hv2
  have HL2 := Aside0.mk hL2
  have HK2 := Aside0.mk hK2
  have hb2s := hb2.size
  clear hW2 hW1 hx2 hv2 hL2 hK2 hv1 hx1 h1 hv
  unfold apAssignN
  gi_wp2_with (rw [Oper.semAt_eq _ _ _ (fun c h => by cases h)]; go_simp; try go_bits)
  unfold apBodyN
  gi_wp2_with (first
    | (gi_at_builtin; refine wpListIn_append_own _ rfl _ _ 44 rfl w0.heap.size 34 i0 (.agg #[.string ⟨#[]⟩, .string ⟨#[]⟩]) 2 32 Tryz.underlying44 hi hz0 hz1 hz2 rfl (by decide) _ _ _ rfl (hrow2.alloc _) ⟨W2.heap.size, 0, none⟩ 1 1 [.string x.f0, .string x.f1] rfl rfl ?hc (by intro u hu; simp at hu; rcases hu with rfl | rfl <;> rfl) (by unfold maxLen; omega) (by omega) (by simp; omega) ?_; (case hc => (intro j u hj; match j, hj with
        | 0, hj => (simp at hj; subst hj; simp [go_sem])
        | 1, hj => (simp at hj; subst hj; simp [go_sem, add_at])
        | j + 2, hj => (simp at hj))); intro v' w3 hown' hg3 hnil3
       have hv3 : w3.heap[Bs]? = some (.cells #[v] 44 (0, 0)) := (hg3.block Bs (by simp; omega) (ne_of HV2.out (fun cur e => by cases e))).trans (heap_al HV2.out)
       obtain ⟨hc3, hf3⟩ := box_cell hv3
       obtain ⟨g', cap', cur', rfl, hbase', hgb', hr1, hr2, hr3, hr4⟩ : ∃ g' cap' cur', v' = .slice (some ⟨g', 0, none⟩) (ss.length + 1) cap' ∧ w0.heap.size ≤ g' ∧ w3.heap[g']? = some (.cells cur' 34 (0, 0)) ∧ ss.length + 1 ≤ cap' ∧ cap' ≤ maxLen ∧ cur'.size = cap' * 2 ∧ cur'.toList.take ((ss.length + 1) * 2) = cellsN ss ++ [.string x.f0, .string x.f1] := by
         rcases hown'.2 with ⟨_, h0⟩ | h'
         · exact absurd h0 (by omega)
         · exact h'
       have HG3 := Aside0.mk hg3
       have HO3 := Aside0.mk hown'
       have HV3 := Aside0.mk hv3
       clear hg3 hown' hnil3 hv3 hgb' hr1 hr2 hr3 hr4 hbase'
       go_frame)
    | (rw [Oper.semAt_eq _ _ _ (fun c h => by cases h)]; go_simp; try go_bits))
  have hg3 : (W2.alloc (.cells #[.string x.f0, .string x.f1] 34 (0, 0))).grownBy w3 v.ownBlock := HG3.out
  have hv3 := HV3.out
  have hown' := HO3.out
  have hL3 : w3.heap[l]? = some (.loop { apRecN fn sv Bs D .ready none with state := .busy }) := (hg3.block l (by simp; omega) (ne_of HL2.out (fun cur e => by cases e))).trans (heap_al HL2.out)
  have hK3 : w3.heap[D]? = some (.deferred (some [])) := (hg3.block D (by simp; omega) (ne_of HK2.out (fun cur e => by cases e))).trans (heap_al HK2.out)
  obtain ⟨w4, hw4⟩ : ∃ w4, w3.setCell ⟨Bs, 0, none⟩ (.slice (some ⟨g', 0, none⟩) (ss.length + 1) cap') = w4 := ⟨_, rfl⟩
  rw [hw4]
  have hg4 : w3.grownBy w4 (some Bs) := by rw [← hw4]; exact set_grown _ _ _
  have hv4 : w4.heap[Bs]? = some (.cells #[.slice (some ⟨g', 0, none⟩) (ss.length + 1) cap'] 44 (0, 0)) := by rw [← hw4]; exact box_set _ hv3
  have hL4 : w4.heap[l]? = some (.loop { apRecN fn sv Bs D .ready none with state := .busy }) := (hg4.block l (Array.getElem?_eq_some_iff.1 hL3).1 (fun e => hBl (by cases e; rfl))).trans hL3
  have hK4 : w4.heap[D]? = some (.deferred (some [])) := (hg4.block D (Array.getElem?_eq_some_iff.1 hK3).1 (fun e => hDB (by cases e; rfl))).trans hK3
  have hrow4 := hown'.kept hg4 (row_ne hown' hv3 (fun cur e => by cases e))
  have hb3 : Below w0.heap.size w0 w3 := (hb2.alloc hb2.size _).grown hg3 (by have := hb2.size; simp; omega) (fun k e => (hrow2.lt k e).1)
  have hb4 : Below w0.heap.size w0 w4 := hb3.grown hg4 hb3.size (fun k e => by cases e; exact h0B)
  have hk4 : KeepsWalks W w4 := (((hk1.trans hk2).trans (KeepsWalks.alloc _ _)).trans (KeepsWalks.of_grownBy hg3 (row_no_walk (hrow2.alloc _)))).trans (by rw [← hw4]; exact KeepsWalks.setCell _ _ _)
  clear hw4
  refine ⟨_, _, run_endRound none hL4, rfl, ⟨⟨_, (World.putObj_heap_other hBl).trans hv4, ?_⟩, World.putObj_heap_same (Array.getElem?_eq_some_iff.1 hL4).1, (World.putObj_heap_other hDl).trans hK4, hb4.grown (put_grown _ _ _) hb4.size (fun k e => by cases e; exact h0l)⟩, hk4.trans (KeepsWalks.putObj _ hL4 rfl)⟩
  have hfin := hrow4.kept (put_grown w4 l (.loop { { apRecN fn sv Bs D .ready none with state := .busy } with state := if (none : Option Code).isNone then .ready else .done, pending := none })) (row_ne hrow4 hL4 (fun cur e => by cases e))
  rw [cellsN_snoc] at hfin
  simpa using hfin
set_option maxRecDepth 100000 in
set_option maxHeartbeats 4000000 in
theorem appendSeqN_in (F : Fence) (n : Nat) (hF : F.fn 108) (hro : F.round = none) (hn : 2 ≤ n) (g : Nat) (lb : Array Value) (hFg : F.fn g) (eg : ∀ args w, (callFunc g args).run Tryz.prog w = .ok (.enter g args) w)
    (S : List S34 → Prop) (w : World)
    (hseq : ∀ (l : Nat) (J : List S34 → World → Prop) (W : World), Below w.heap.size w W → AbidesFrom W.heap.size J → (∀ s W o, J s W → J s (W.alloc o)) →
      (∀ pre x W1, J pre W1 → NS x → pre.length < 4294967296 → YieldAt F (n - 1 - 1) Tryz.prog l #[vN x] W1 fun e W' => e = .returned (.bool true) ∧ J (pre ++ [x]) W' ∧ KeepsWalks W1 W') → J [] W →
      CallsIn F (n - 1) Tryz.prog g (#[.func (.yield l) #[] #[]] ++ lb) W fun e W' => (∃ v, e = .returned v) ∧ ∃ xs, S xs ∧ J xs W') :
    CallsIn F n Tryz.prog 108 #[.slice none 0 0, .func (.func g) #[] lb] w fun e w' => ∃ (v : Value) (ss : List S34), e = .returned v ∧ S ss ∧ w'.ownsRow w.heap.size 34 2 v ss.length (cellsN ss) ∧ Below w.heap.size w w' := by
  have h1 : 1 ≤ n := by omega
  have hu24 := Tryz.underlying34
  refine callsIn_of_wp_marks Tryz.func108 rfl hF ?_ hro
  simp only [Tryz.ntmps108, List.size_toArray, List.length_cons, List.length_nil, Nat.reduceAdd, Nat.reduceSub, Array.replicate_succ, Array.replicate_zero, List.push_toArray, List.append_toArray, List.nil_append, List.cons_append]
  gi_wp2
  refine wpIn_rangeFunc ?_
  intro fn hfn
  rw [hro]
  obtain ⟨W0, hW0⟩ : ∃ W0, w.alloc (.cells #[.slice none 0 0] 44) = W0 := ⟨_, rfl⟩
  have hs0 : W0.heap.size = w.heap.size + 1 := by rw [← hW0]; simp
  have hv0 : W0.heap[w.heap.size]? = some (.cells #[.slice none 0 0] 44 (0, 0)) := by rw [← hW0]; exact World.alloc_heap_new w _
  have hb0 : Below w.heap.size w W0 := by rw [← hW0]; exact (Below.refl _ w).alloc (Nat.le_refl _) _
  rw [hW0]
  obtain ⟨W1, hW1⟩ : ∃ W1, (W0.alloc (.deferred (some []))).alloc (.loop (apRecN fn (.func (.func g) #[] lb) w.heap.size W0.heap.size .ready none)) = W1 := ⟨_, rfl⟩
  have hold : ∀ k, k < W0.heap.size → W1.heap[k]? = W0.heap[k]? := fun k hk => by
    rw [← hW1]; exact (Below.heap_alloc _ _ k (by simp; omega)).trans (Below.heap_alloc _ _ k hk)
  have hb1 : Below w.heap.size w W1 := by rw [← hW1]; exact (hb0.alloc hb0.size _).alloc (by have := hb0.size; simp; omega) _
  have hs1 : W1.heap.size = W0.heap.size + 2 := by rw [← hW1]; simp
  have hM : ApN w fn (.func (.func g) #[] lb) w.heap.size (W0.heap.size + 1) W0.heap.size [] W1 :=
    ⟨⟨_, (hold w.heap.size (by omega)).trans hv0, ⟨rfl, .inl ⟨rfl, rfl⟩⟩⟩,
     by rw [← hW1]; have := World.alloc_heap_new (W0.alloc (.deferred (some []))) (.loop (apRecN fn (.func (.func g) #[] lb) w.heap.size W0.heap.size .ready none)); rwa [World.size_alloc] at this,
     by rw [← hW1]; exact (Below.heap_alloc _ _ _ (by simp)).trans (World.alloc_heap_new W0 _), hb1⟩
  refine ⟨W0.heap.size + 1, [{ target := .collected W0.heap.size, args := #[] }], W1, { target := .fn (.func g) lb, args := #[.func (.yield (W0.heap.size + 1)) #[] #[]] }, W1, g,
    #[.func (.yield (W0.heap.size + 1)) #[] #[]] ++ lb, W1, ?_, ?_, ?_, ?_, fun _ => h1, ?_⟩
  · rw [← hW1]; exact run_enterLoop_outer _ _ _ _ _
  · simp [resolve, go_sem]
  · intro f' hf'; simp [Target.leads] at hf'; subst hf'; exact hFg
  · simp [invoke, go_sem, eg]
  · refine (hseq (W0.heap.size + 1) (ApN w fn (.func (.func g) #[] lb) w.heap.size (W0.heap.size + 1) W0.heap.size) W1 hb1 (ap_abides _ _ _ _ _ _ _ hb1.size) (fun s W o h => ap_alloc h o)
      (fun pre x W hJ _ hl => apYieldN F (n - 1 - 1) w fn hfn _ w.heap.size (W0.heap.size + 1) W0.heap.size (by omega) (by omega) (by omega) (Nat.le_refl _) (by omega) pre x W hJ hl) hM).mono ?_
    rintro e W2 ⟨⟨v0, rfl⟩, ss, hS, h2⟩
    obtain ⟨v, hv, hrow⟩ := h2.box
    have hend := run_endLoop (P := Tryz.prog) h2.L (by simp [apRecN])
    obtain ⟨W3, hW3⟩ : ∃ W3, W2.putObj (W0.heap.size + 1) (.loop { apRecN fn (.func (.func g) #[] lb) w.heap.size W0.heap.size .ready none with state := .exhausted }) = W3 := ⟨_, rfl⟩
    rw [hW3] at hend
    have hg3 : W2.grownBy W3 (some (W0.heap.size + 1)) := by rw [← hW3]; exact put_grown _ _ _
    have hv3 : W3.heap[w.heap.size]? = some (.cells #[v] 44 (0, 0)) := by rw [← hW3]; exact (World.putObj_heap_other (by omega)).trans hv
    have hK3 : W3.heap[W0.heap.size]? = some (.deferred (some [])) := by rw [← hW3]; exact (World.putObj_heap_other (by omega)).trans h2.K
    have hrow3 := hrow.kept hg3 (row_ne hrow h2.L (fun cur e => by cases e))
    have hb3 : Below w.heap.size w W3 := h2.below.grown hg3 h2.below.size (fun k e => by cases e; omega)
    obtain ⟨hc3, hf3⟩ := box_cell hv3
    clear hW3
    refine ⟨none, W3, hend, ?_⟩
    gi_wp2
    rw [← hs0]
    refine ⟨by simp, .inl ⟨_, _, rfl, run_takeDeferred hK3, ?_⟩⟩
    exact ⟨_, results_tmp rfl _ _ _, v, ss, rfl, hS, hrow3.kept (put_grown _ _ _) (row_ne hrow3 hK3 (fun cur e => by cases e)), hb3.grown (put_grown _ _ _) hb3.size (fun k e => by cases e; omega)⟩
set_option maxRecDepth 100000 in
set_option maxHeartbeats 2000000 in
theorem collectN_calls (Bm b nn : Nat) (D0 : DataW Unit) (m : List (S34 × Int)) (hm0 : CntM D0 m) (hsz : Maps.size D0 ≤ 4294967296) (w : World) (hBm : Bm < w.heap.size) (hm : w.cell? ⟨Bm, 0, none⟩ = some (.map (some b))) (hown : w.ownsMap Tryz.prog 34 (plainElem Tryz.prog 3) b nn D0) :
    Calls Tryz.prog 94 #[.func (.func 96) #[] #[.pointer (some ⟨Bm, 0, none⟩)]] w fun e w' => ∃ (v : Value) (ss : List S34), e = .returned v ∧ (ss.Nodup ∧ (∀ x ∈ ss, NS x) ∧ ∀ x, NS x → (x ∈ ss ↔ (lookC m x).isSome = true)) ∧ Kd.R k34 34 w' w.heap.size (fun _ => True) v ss ∧ Below w.heap.size w w' := by
  refine (callsIn_wide (n := 6)).1 ?_
  have hfA : Fence.wide.fn 108 := trivial
  have cA := appendSeqN_in Fence.wide 5 trivial rfl (by omega) 96 #[.pointer (some ⟨Bm, 0, none⟩)] trivial (enters_of Tryz.func96 (by kernel_rfl) rfl) _ w (fun l J W hW hJ hJa hY h0 => by
    have hown' : W.ownsMap Tryz.prog 34 (plainElem Tryz.prog 3) b nn D0 := by
      have hbl := hown.lt
      obtain ⟨es, clock, hb, Ft, hs, hD⟩ := hown
      exact ⟨es, clock, (hW.block b hbl).trans hb, Ft, hs, hD⟩
    exact keysN_in Fence.wide 4 trivial rfl (by omega) l Bm b nn D0 m hm0 J (fun pre x W1 h hx hl => hY pre x W1 h hx (Nat.lt_of_lt_of_le hl hsz)) W hJ hJa ((hW.cell (p := ⟨Bm, 0, none⟩) hBm).trans hm) hown' h0)
  refine callsIn_of_wp Tryz.func94 rfl trivial ?_ rfl
  simp only [Tryz.ntmps94, List.size_toArray, List.length_cons, List.length_nil, Nat.reduceAdd, Nat.reduceSub, Array.replicate_succ, Array.replicate_zero, List.push_toArray, List.append_toArray, List.nil_append, List.cons_append]
  gi_wp2_with (gi_at_call 108; refine cA.mono ?_; rintro e w' ⟨v, ss, rfl, hS, hrow, hb⟩)
  go_ret
  exact ⟨v, ss, rfl, hS, R_of_cells hrow (fun _ _ => trivial), hb⟩
end Go.Proofs.YtohdmmafjpjmfaaGreatDoor.Q
end
section
namespace Go.Proofs.YtohdmmafjpjmfaaGreatDoor.Q
open Go.Proofs.YtohdmmafjpjmfaaGreatDoor.QB.D
open Go Go.RowKit Go.Maps Go.Lib Go.Proofs.YtohdmmafjpjmfaaGreatDoorW.PrintWords Go.Proofs.YtohdmmafjpjmfaaGreatDoorW.PrintLast Go.Proofs.YtohdmmafjpjmfaaGreatDoorW.PrintMore Gw
set_option linter.unusedVariables false
set_option linter.unusedSimpArgs false
theorem look_mem (m : List (S34 × Int)) (x : S34) : (lookC m x).isSome = true ↔ x ∈ m.map (·.1) := by
  unfold lookC
  rw [Option.isSome_map, List.find?_isSome, List.mem_map]
  constructor
  · rintro ⟨p, hp, h⟩; exact ⟨p, hp, of_decide_eq_true h⟩
  · rintro ⟨p, hp, h⟩; exact ⟨p, hp, decide_eq_true h⟩
def editsF (m : List (S34 × Int)) (S : List S34) : List S48 := (S.filter (fun n => !decide ((lookC m n).getD 0 = 0))).map (fun n => ⟨n, (lookC m n).getD 0⟩)
theorem editsF_len (m : List (S34 × Int)) (S : List S34) : (editsF m S).length ≤ S.length := by unfold editsF; rw [List.length_map]; exact List.length_filter_le _ _
theorem editsF_snoc (m : List (S34 × Int)) (S : List S34) (n : S34) : editsF m (S ++ [n]) = if (lookC m n).getD 0 = 0 then editsF m S else editsF m S ++ [⟨n, (lookC m n).getD 0⟩] := by
  unfold editsF
  rw [List.filter_append, List.map_append]
  split
  · rename_i h; rw [List.filter_cons_of_neg (by simp [h])]; simp
  · rename_i h; rw [List.filter_cons_of_pos (by simp [h])]; rfl
theorem zero_intN (w : World) : (zeroValue 3).run Tryz.prog w = .ok (.int .i64 0) w := by kernel_rfl
set_option maxHeartbeats 2000000 in
theorem keysM_calls (b : Nat) (w : World) : Calls Tryz.prog 81 #[.map (some b)] w fun e w' => e = .returned (.func (.func 96) #[] #[.pointer (some ⟨w.heap.size, 0, none⟩)]) ∧ w' = w.alloc (.cells #[.map (some b)] 91 (0, 0)) := by
  go_enter Tryz.func81, Tryz.ntmps81
  go_wp2
  go_ret
  exact ⟨rfl, rfl⟩
structure CntOk (m : List (S34 × Int)) : Prop where
  nodup : (m.map (·.1)).Nodup
  may : ∀ p ∈ m, TinyN p.1 ∧ mayN p.1 = true
  len : m.length ≤ 65536
theorem tiny_ns {x : S34} (h : TinyN x) : NS x := by unfold TinyN Tiny at h; unfold NS maxLen; omega
set_option maxHeartbeats 4000000 in
theorem sortedD_calls (Bm b nn : Nat) (D0 : DataW Unit) (m : List (S34 × Int)) (hm0 : CntM D0 m) (hok : CntOk m) (hsz : Maps.size D0 ≤ 4294967296) (w : World) (hBm : Bm < w.heap.size) (hm : w.cell? ⟨Bm, 0, none⟩ = some (.map (some b))) (hown : w.ownsMap Tryz.prog 34 (plainElem Tryz.prog 3) b nn D0) :
    Calls Tryz.prog 80 #[.func (.func 96) #[] #[.pointer (some ⟨Bm, 0, none⟩)], .func (.func 49) #[] #[]] w fun e w' => ∃ v, e = .returned v ∧ Kd.R k34 34 w' w.heap.size (fun _ => True) v (sortN (m.map (·.1))) ∧ Below w.heap.size w w' := by
  have CC := collectN_calls Bm b nn D0 m hm0 hsz w hBm hm hown
  have HOK := Aside0.mk hok
  clear hm0 hok hm hown
  go_enter Tryz.func80, Tryz.ntmps80
  go_wp2_with fail
  refine CC.mono ?_
  rintro e w1 ⟨v, ss, rfl, hS, hR, hb⟩
  have hmem : ∀ x, x ∈ ss ↔ x ∈ m.map (·.1) := fun x => by
    constructor
    · intro hx; exact (look_mem m x).1 ((hS.2.2 x (hS.2.1 x hx)).1 hx)
    · intro hx
      obtain ⟨p, hp, rfl⟩ := List.mem_map.1 hx
      exact (hS.2.2 _ (tiny_ns (HOK.out.may p hp).1)).2 ((look_mem m _).2 hx)
  have hperm : ss.Perm (m.map (·.1)) := (List.perm_ext_iff_of_nodup hS.1 HOK.out.nodup).2 hmem
  have hok : ∀ x ∈ ss, TinyN x ∧ mayN x = true := fun x hx => by
    obtain ⟨p, hp, rfl⟩ := List.mem_map.1 ((hmem x).1 hx)
    exact HOK.out.may p hp
  have hgd : ∀ y ∈ m.map (·.1), GoodN y := fun y hy => by
    obtain ⟨p, hp, rfl⟩ := List.mem_map.1 hy
    exact mayN_good (HOK.out.may p hp).1 (HOK.out.may p hp).2
  have CSo := sortM_calls ss (sortN (m.map (·.1))) hok (by rw [hperm.length_eq, List.length_map]; have := HOK.out.len; omega) ((sortN_perm _).trans hperm.symm) (sortN_sorted _ hgd) w1 w.heap.size w.heap.size (fun _ => True) (fun _ => True) v hR (fun _ h => h) (Nat.le_refl _)
  have HB := Aside0.mk hb
  clear hS hR hb hmem hperm hok hgd CC
  go_wp2_with fail
  refine CSo.mono ?_
  rintro e w2 ⟨rfl, hR2, hb2⟩
  have HR2 := Aside0.mk hR2
  have HB2 := Aside0.mk (HB.out.trans hb2)
  clear hR2 hb2 CSo
  go_wp2
  go_ret
  exact ⟨_, rfl, HR2.out, HB2.out⟩
set_option maxHeartbeats 8000000 in
set_option maxRecDepth 100000 in
theorem edits_calls (b nn : Nat) (D0 : DataW Unit) (m : List (S34 × Int)) (hm0 : CntM D0 m) (hok : CntOk m) (hsz : Maps.size D0 ≤ 4294967296) (w : World) (hown : w.ownsMap Tryz.prog 34 (plainElem Tryz.prog 3) b nn D0) :
    Calls Tryz.prog 67 #[.map (some b)] w fun e w' => ∃ v, e = .returned v ∧ Kd.R k48 48 w' w.heap.size (fun _ => True) v (editsF m (sortN (m.map (·.1)))) ∧ Below w.heap.size w w' := by
  have hu24 := Tryz.underlying34
  have hu35 := Tryz.underlying48
  obtain ⟨W1, hW1⟩ : ∃ W1, W1 = w.alloc (.cells #[.map (some b)] 91 (0, 0)) := ⟨_, rfl⟩
  have CK := keysM_calls b w
  have hown1 : W1.ownsMap Tryz.prog 34 (plainElem Tryz.prog 3) b nn D0 := by rw [hW1]; exact hown.alloc _
  have CS := sortedD_calls w.heap.size b nn D0 m hm0 hok hsz W1 (by rw [hW1]; simp) (by rw [hW1]; simp [go_sem]) hown1
  have HM := Aside0.mk hown
  have HCM := Aside0.mk hm0
  have HOK := Aside0.mk hok
  have HW1 := Aside0.mk hW1
  obtain ⟨S, hS⟩ : ∃ S, S = sortN (m.map (·.1)) := ⟨_, rfl⟩
  have hSl : S.length ≤ 65536 := by rw [hS, (sortN_perm _).length_eq, List.length_map]; exact hok.len
  have hSt : ∀ x ∈ S, TinyN x := fun x hx => by
    rw [hS] at hx
    obtain ⟨p, hp, rfl⟩ := List.mem_map.1 ((sortN_perm _).mem_iff.1 hx)
    exact (hok.may p hp).1
  rw [← hS] at CS ⊢
  have HST := Aside0.mk hSt
  have hl1 : (S.length : Int) ≤ 65536 := by omega
  clear hown hm0 hok hown1 hS hSt
  go_enter Tryz.func67, Tryz.ntmps67
  go_wp2_with fail
  refine CK.mono ?_
  rintro e w1 ⟨rfl, hw1⟩
  obtain rfl : w1 = W1 := hw1.trans HW1.out.symm
  clear hw1 CK
  go_wp2_with fail
  (try rw [← HW1.out])
  refine CS.mono ?_
  rintro e w2 ⟨vs, rfl, hR, hb⟩
  have hb0 : Below w.heap.size w w1 := by rw [HW1.out]; exact below_alloc (Below.refl _ _) _
  have hs1 : w.heap.size + 1 ≤ w1.heap.size := by rw [HW1.out]; simp
  have HB2 : Aside0 (Below w.heap.size w w2) := ⟨hb0.trans (hb.mono (by omega))⟩
  have HG2 : Aside0 (Kd.R k34 34 w2 w.heap.size (fun _ => True) vs S) := ⟨Kd.R_lower hR (by omega)⟩
  obtain ⟨Ag, cg, eg⟩ := Kd.R_slice HG2.out
  subst eg
  clear hR hb hb0 CS
  go_wp2_with fail
  go_loopw [3, 11] (fun v3 v11 wr => ∃ i : Nat, i ≤ S.length ∧ v11 = .int .i64 (i : Int) ∧ Aside0 (Kd.R k48 48 wr w.heap.size (fun j => some j ≠ (Value.slice Ag S.length cg).ownBlock) v3 (editsF m (S.take i))) ∧ Aside0 (Kd.R k34 34 wr w.heap.size (fun j => some j ≠ v3.ownBlock) (.slice Ag S.length cg) S) ∧ Aside0 (Below w.heap.size w wr)) (fun _ v11 _ => S.length - (RowKit.intOf v11).toNat)
  case atStart => exact ⟨0, Nat.zero_le _, rfl, ⟨Kd.R_nil _ _ _ _ _⟩, ⟨Kd.R_mono HG2.out (fun j _ => by simp [Value.ownBlock])⟩, HB2⟩
  case round =>
    clear HG2 HB2
    obtain ⟨i, hi, rfl, HO, HG, HB⟩ := hrel
    by_cases hil : i < S.length
    · have j1 : (i : Int) < (S.length : Int) := by omega
      have hdi : decide ((i : Int) < (S.length : Int)) = true := decide_eq_true j1
      obtain ⟨n, hn⟩ : ∃ n, n = S[i] := ⟨_, rfl⟩
      have hns : NS n := tiny_ns (HST.out n (by rw [hn]; exact List.getElem_mem hil))
      have hkey := keyOf_node n hns.1 hns.2
      obtain ⟨gg, gc, hvv, _, _, _⟩ := Kd.R_form HG.out (by omega)
      injection hvv with f1 f2 f3
      subst f1
      have hrc := rowcells HG.out i hil
      rw [← hn] at hrc
      have x0 := hrc.1
      have x1 := hrc.2
      have htk : S.take (i + 1) = S.take i ++ [n] := by rw [hn]; exact List.take_succ_eq_append_getElem hil
      have hsn := editsF_snoc m (S.take i) n
      rw [← htk] at hsn
      have HSN := Aside0.mk hsn
      have hel : (editsF m (S.take i)).length ≤ 65536 := Nat.le_trans (editsF_len _ _) (by rw [List.length_take]; omega)
      have HM3 := Aside0.mk ((HM.out.kept (grown_of_below HB.out none) (by simp)).alloc (.cells #[.string n.f0, .string n.f1] 34 (0, 0)))
      have HB3 := Aside0.mk (below_alloc HB.out (.cells #[.string n.f0, .string n.f1] 34 (0, 0)))
      have HO3 := Aside0.mk (Kd.R_alloc HO.out (.cells #[.string n.f0, .string n.f1] 34 (0, 0)))
      have HG3 := Aside0.mk (Kd.R_alloc HG.out (.cells #[.string n.f0, .string n.f1] 34 (0, 0)))
      have hat0 := HCM.out.at_ n hns
      have HAT := Aside0.mk hat0
      clear hn hrc htk hsn hat0 f2 f3 HO HG
      by_cases hz : (lookC m n).getD 0 = 0
      · have HSZ : Aside0 (editsF m (S.take (i + 1)) = editsF m (S.take i)) := ⟨by rw [HSN.out, if_pos hz]⟩
        have HZ := Aside0.mk hz
        clear hz
        go_wp2_with (first
          | (at_lookup; refine wpList_lookup_own_int _ rfl _ _ 91 rfl 34 3 .i64 law_node Tryz.underlying91 Tryz.underlying3 (zero_intN _) b _ D0 rfl HM3.out _ _ rfl hkey ?_; intro cq hat hwc; (have hcq : cq = 0 := by (have h9 := hat.symm.trans HAT.out; rw [HZ.out] at h9; injection h9 with h9; injection h9)); subst hcq; clear hat hwc)
          | fail)
        go_roundw
        case rel => exact ⟨i + 1, by omega, by go_num, ⟨by rw [HSZ.out]; exact HO3.out⟩, HG3, HB3⟩
        case measure => simp [RowKit.intOf]; omega
      · obtain ⟨c, hc⟩ : ∃ c, c = (lookC m n).getD 0 := ⟨_, rfl⟩
        have HSZ : Aside0 (editsF m (S.take (i + 1)) = editsF m (S.take i) ++ [⟨n, c⟩]) := ⟨by rw [HSN.out, if_neg hz, hc]⟩
        rw [← hc] at hz
        have HC := Aside0.mk hc
        have hz1 : (c == 0) = false := beq_eq_false_iff_ne.2 hz
        have hz2 : (c != 0) = true := bne_iff_ne.2 hz
        clear hc hz
        go_wp2_with (first
          | (at_lookup; refine wpList_lookup_own_int _ rfl _ _ 91 rfl 34 3 .i64 law_node Tryz.underlying91 Tryz.underlying3 (zero_intN _) b _ D0 rfl HM3.out _ _ rfl hkey ?_; intro cq hat hwc; (have hcq : cq = c := by (have h9 := hat.symm.trans HAT.out; rw [← HC.out] at h9; injection h9 with h9; injection h9)); subst hcq; clear hat hwc)
          | ((with_reducible refine gate_builtin (b := .append) (xs := #[.tmp 20, .tmp 24]) rfl ?_); at_builtin; refine Kd.R_append k48 (w0 := w) w.heap.size rfl (.tmp 20) (.tmp 24) 22 48 (.agg #[(.string ⟨#[]⟩), (.string ⟨#[]⟩), (.int .i64 0)]) 40 rfl Tryz.underlying22 info48 rfl (by decide) (by omega) u3 (editsF m (S.take i)) ⟨n, cq⟩ [.string n.f0, .string n.f1, .int .i64 cq] (fun j => some j ≠ (Value.slice (some ⟨gg, 0, none⟩) S.length cg).ownBlock) (fun _ => False) rfl (by rw [World.size_alloc]; rfl) ?aP (fun _ hk => hk.elim) ?aF ?aO ?aB ?aS ?aL ?_; (case aP => exact k48_mkM _ _ _ ⟨n, cq⟩); (case aB => exact HB3.out); (case aF => exact (fun j hj e => absurd (Kd.R_lt HG3.out j e.symm) (by omega))); (case aO => exact HO3.out); (case aS => exact HB3.out.size); (case aL => omega); intro v9 w9 ho9 hb9 hg9 hat9)
          | fail)
        have HO9 := Aside0.mk ho9
        have HB9 := Aside0.mk hb9
        have HG9 := Aside0.mk (Kd.R_after (ok := fun _ => True) (Kd.R_mono HG3.out (fun j hj => ⟨trivial, hj⟩)) hg9 hat9)
        clear ho9 hb9 hg9 hat9
        go_roundw
        case rel => exact ⟨i + 1, by omega, by go_num, ⟨by rw [HSZ.out]; exact HO9.out⟩, ⟨Kd.R_mono HG9.out (fun j hj => hj.2)⟩, HB9⟩
        case measure => simp [RowKit.intOf]; omega
    · obtain rfl : i = S.length := by omega
      have hdi : decide ((S.length : Int) < (S.length : Int)) = false := decide_eq_false (by omega)
      have ho := HO.out
      rw [List.take_length] at ho
      have HOF := Aside0.mk ho
      clear ho HO HG
      go_wp2
      go_ret
      exact ⟨_, rfl, Kd.R_mono HOF.out (fun _ _ => trivial), HB.out⟩
def bumpC (m : List (S34 × Int)) (x : S34) (v : Int) : List (S34 × Int) := putC m x ((lookC m x).getD 0 + v)
def countC (m : List (S34 × Int)) (l : List S34) (v : Int) : List (S34 × Int) := l.foldl (fun m x => bumpC m x v) m
theorem countC_take (m : List (S34 × Int)) (l : List S34) (v : Int) (i : Nat) (h : i < l.length) : countC m (l.take (i + 1)) v = bumpC (countC m (l.take i) v) l[i] v := by
  unfold countC
  rw [List.take_succ_eq_append_getElem h, List.foldl_append]
  rfl
def FarC (m : List (S34 × Int)) (B : Int) : Prop := ∀ x, -B ≤ (lookC m x).getD 0 ∧ (lookC m x).getD 0 ≤ B
theorem FarC.bump {m : List (S34 × Int)} {B V : Int} (h : FarC m B) (hV : 0 ≤ V) (x : S34) (v : Int) (h1 : -V ≤ v) (h2 : v ≤ V) : FarC (bumpC m x v) (B + V) := by
  intro y
  have hx := h x
  have hy := h y
  unfold bumpC
  rw [lookC_put]
  split
  · simp only [Option.getD_some]; omega
  · omega
set_option maxHeartbeats 8000000 in
set_option maxRecDepth 100000 in
theorem count_calls (A0 : Option Addr) (c0 : Nat) (l0 : List S34) (by_ : Int) (hby : -1 ≤ by_ ∧ by_ ≤ 1) (b nn : Nat) (D0 : DataW Unit) (m : List (S34 × Int)) (hm0 : CntM D0 m) (B0 : Int) (hfar : FarC m B0) (w0 w : World) (hr0 : Kd.C k34 w0 A0 l0.length l0) (hB0 : Below w0.heap.size w0 w) (hb0 : w0.heap.size ≤ b)
    (hl0 : l0.length ≤ 65536) (hB : B0 + 65536 ≤ 4611686018427387904) (hnn : nn ≤ 4294967296) (ht : ∀ x ∈ l0, TinyN x) (hown : w.ownsMap Tryz.prog 34 (plainElem (H := Unit) Tryz.prog 3) b nn D0) (K : Nat) (hK : ∀ x ∈ l0, x.f0.size + 2 ≤ K) :
    Calls Tryz.prog 77 #[.map (some b), .slice A0 l0.length c0, .int .i64 by_] w fun e w' => e = .returned (.bool (l0.all mayN)) ∧ Below w0.heap.size w0 w' ∧ (l0.all mayN = true → ∃ D, w'.ownsMap Tryz.prog 34 (plainElem (H := Unit) Tryz.prog 3) b (nn + l0.length) D ∧ CntM D (countC m l0 by_) ∧ FarC (countC m l0 by_) (B0 + l0.length)) := by
  have hu24 := Tryz.underlying34
  have HR0 := Aside0.mk hr0
  have HT := Aside0.mk ht
  have HK := Aside0.mk hK
  have HM0 := Aside0.mk hown
  have HD0 := Aside0.mk hm0
  have HF0 := Aside0.mk hfar
  have HB0 := Aside0.mk hB0
  have hl1 : (l0.length : Int) ≤ 65536 := by omega
  clear hr0 ht hK hown hm0 hfar hB0
  go_enter Tryz.func77, Tryz.ntmps77
  go_wp2_with fail
  go_loopw [11] (fun v11 wr => ∃ (i : Nat) (D : DataW Unit), i ≤ l0.length ∧ v11 = .int .i64 (i : Int) ∧ Aside0 ((l0.take i).all mayN = true) ∧ Aside0 (wr.ownsMap Tryz.prog 34 (plainElem (H := Unit) Tryz.prog 3) b (nn + i) D) ∧ Aside0 (CntM D (countC m (l0.take i) by_)) ∧ Aside0 (FarC (countC m (l0.take i) by_) (B0 + i)) ∧ Aside0 (Below w0.heap.size w0 wr)) (fun v11 _ => l0.length - (RowKit.intOf v11).toNat)
  case atStart => exact ⟨0, D0, Nat.zero_le _, rfl, ⟨rfl⟩, HM0, HD0, ⟨by have := HF0.out; simpa [countC] using this⟩, HB0⟩
  case round =>
    clear HM0 HD0 HF0 HB0
    obtain ⟨i, D, hi, rfl, HALL, HM, HD, HF, HB⟩ := hrel
    by_cases hil : i < l0.length
    · have j1 : (i : Int) < (l0.length : Int) := by omega
      have hdi : decide ((i : Int) < (l0.length : Int)) = true := decide_eq_true j1
      obtain ⟨x, hx⟩ : ∃ x, x = l0[i] := ⟨_, rfl⟩
      have hmem : x ∈ l0 := by rw [hx]; exact List.getElem_mem hil
      obtain ⟨ad, e0, hx0, hx1⟩ := at_T34 HR0.out (i : Int) (by omega) (by omega)
      have hrd : rd_T34 l0 (i : Int) = x := by rw [hx]; simp [rd_T34, List.getD_eq_getElem?_getD, List.getElem?_eq_getElem hil]
      rw [hrd, Int.toNat_natCast] at hx0 hx1
      cases e0
      replace hx0 := (HB.out.cell (World.block_lt_of_cell? w0 _ hx0)).trans hx0
      replace hx1 := (HB.out.cell (World.block_lt_of_cell? w0 _ hx1)).trans hx1
      have hns := tiny_ns (HT.out x hmem)
      have hkey := keyOf_node x hns.1 hns.2
      have hct := countC_take m l0 by_ i hil
      rw [← hx] at hct
      have hva : (l0.take (i + 1)).all mayN = mayN x := by rw [List.take_succ_eq_append_getElem hil, List.all_append, HALL.out, ← hx]; simp
      have hval := node_May_val K x (HT.out x hmem) (HK.out x hmem)
      have hall2 : mayN x = false → l0.all mayN = false := fun h => by
        rw [List.all_eq_false]; exact ⟨x, hmem, by simp [h]⟩
      obtain ⟨bm, hbm⟩ : ∃ bm, bm = mayN x := ⟨_, rfl⟩
      rw [← hbm] at hval hva hall2
      have CC := fun (W : World) => node_May.calls K x.f0 x.f1 bm W hval
      have HCT := Aside0.mk hct
      have HVA := Aside0.mk hva
      have HALL2 := Aside0.mk hall2
      have hfx := HF.out x
      have hf1 : -4611686018427387904 ≤ (lookC (countC m (l0.take i) by_) x).getD 0 := by omega
      have hf2 : (lookC (countC m (l0.take i) by_) x).getD 0 ≤ 4611686018427387904 := by omega
      have HNS := Aside0.mk hns
      have HLT := Aside0.mk hil
      clear hx hrd hct hmem hval hva hall2 hbm hfx hns
      have HM5 := Aside0.mk (HM.out.alloc (.cells #[.string x.f0, .string x.f1] 34 (0, 0)))
      have HB5 := Aside0.mk (below_alloc HB.out (.cells #[.string x.f0, .string x.f1] 34 (0, 0)))
      have n0 : (wr.alloc (.cells #[.string x.f0, .string x.f1] 34 (0, 0))).cell? ⟨wr.heap.size, 0, none⟩ = some (.string x.f0) := by simp [go_sem]
      have n1 : (wr.alloc (.cells #[.string x.f0, .string x.f1] 34 (0, 0))).cell? ⟨wr.heap.size, 1, none⟩ = some (.string x.f1) := by simp [go_sem]
      go_wp2_with fail
      refine (CC _).mono ?_
      rintro e w5 ⟨rfl, hb5⟩
      have HM6 := Aside0.mk (HM5.out.kept (grown_of_below hb5 none) (by simp))
      have HB6 := Aside0.mk (below_step HB5.out hb5)
      have p0 := (hb5.cell (p := ⟨wr.heap.size, 0, none⟩) (by simp)).trans n0
      have p1 := (hb5.cell (p := ⟨wr.heap.size, 1, none⟩) (by simp)).trans n1
      clear hb5 CC n0 n1
      cases bm
      · have hfa := HALL2.out rfl
        go_wp2
        go_ret
        exact ⟨by rw [hfa]; rfl, HB6.out, fun h => by rw [hfa] at h; cases h⟩
      · obtain ⟨c, hc⟩ : ∃ c, c = (lookC (countC m (l0.take i) by_) x).getD 0 := ⟨_, rfl⟩
        rw [← hc] at hf1 hf2
        have hws : IntKind.i64.wrap (c + by_) = c + by_ := by rw [IntKind.wrap_i64]; omega
        have hwd : (Lit.int .i64 (c + by_)).wf = true := by simp [Lit.wf, IntKind.min, IntKind.max, IntKind.signed, IntKind.bits]; omega
        obtain ⟨v0, st, w1, E2, hg1, E1, E1', E3⟩ := own_bump (HM6.out.drew) (deep_law_laid laid_all (m := 3) (by omega) keyr_node keyt_node wide_node) Tryz.underlying91 (by unfold maxLen; omega) zero_intN hkey
        obtain ⟨c2, hrun, hat, hwc⟩ := (HM6.out.drew).lookup_int law_node Tryz.underlying91 Tryz.underlying3 (zero_intN _) hkey
        have hc2 : c2 = c := by
          have h9 := hat.symm.trans (HD.out.at_ x HNS.out)
          rw [← hc] at h9
          injection h9 with h9; injection h9
        subst hc2
        have hv0 : v0 = .int .i64 c2 := by
          rw [hrun] at E1; injection E1 with E1 _; exact E1.symm
        subst hv0
        obtain ⟨w3, E4, hown3, hg3⟩ := E3 w1 (.int .i64 (c2 + by_)) _ [] rfl (plainElem_int Tryz.underlying3 hwd)
        have E5 : (Instr.entryStore 91 (.map (some b)) (.int .i64 (st : Int)) (.int .i64 (c2 + by_))).run Tryz.prog w1 = .ok () w3 := E4
        have E6 : (Instr.mapEntry 91 (.map (some b)) (.agg #[.string x.f0, .string x.f1])).run Tryz.prog w5.drew = .ok (.tuple #[.int .i64 c2, .int .i64 (st : Int)]) w1 := E2
        have HC := Aside0.mk hc
        have HM7 := Aside0.mk hown3
        have HG1 := Aside0.mk hg1
        have HG3 := Aside0.mk hg3
        clear E3 E4 E2 hrun hat hwc hown3 hg1 hg3 hc hwd
        have HB7 := Aside0.mk (pw_below_grown (below_drew HB6.out) _ (below_drew HB6.out).size HG1.out (fun j hj => by cases hj; exact hb0))
        have HB8 := Aside0.mk (pw_below_grown HB7.out _ HB7.out.size HG3.out (fun j hj => by cases hj; exact hb0))
        have HD7 : Aside0 (CntM (D.put (nkey x) (.lit (.int .i64 (c2 + by_)))) (countC m (l0.take (i + 1)) by_)) := ⟨by rw [HCT.out]; unfold bumpC; rw [← HC.out]; exact HD.out.put x HNS.out _⟩
        have HF7 : Aside0 (FarC (countC m (l0.take (i + 1)) by_) (B0 + ((i + 1 : Nat) : Int))) := ⟨by rw [HCT.out, show B0 + ((i + 1 : Nat) : Int) = B0 + (i : Int) + 1 by omega]; exact HF.out.bump (by omega) x by_ (by omega) (by omega)⟩
        go_wp2_with fail
        go_region
        all_goals
          go_wp2
          go_roundw
          case rel => exact ⟨i + 1, _, by omega, by go_num, HVA, HM7, HD7, HF7, HB8⟩
          case measure => simp [RowKit.intOf]; omega
    · obtain rfl : i = l0.length := by omega
      have hdi : decide ((l0.length : Int) < (l0.length : Int)) = false := decide_eq_false (by omega)
      have ha := HALL.out
      have hd := HD.out
      have hf := HF.out
      rw [List.take_length] at ha hd hf
      have HA := Aside0.mk ha
      have HD2 := Aside0.mk hd
      have HF2 := Aside0.mk hf
      clear ha hd hf
      go_wp2
      go_ret
      exact ⟨by rw [HA.out]; rfl, HB.out, fun _ => ⟨D, HM.out, HD2.out, HF2.out⟩⟩
theorem putC_keys (m : List (S34 × Int)) (x : S34) (v : Int) : (putC m x v).map (·.1) = if x ∈ m.map (·.1) then m.map (·.1) else m.map (·.1) ++ [x] := by
  induction m with
  | nil => rfl
  | cons p r ih =>
    unfold putC
    by_cases h : p.1 = x
    · rw [if_pos h, if_pos (by rw [List.map_cons, h]; exact .head _)]; simp [h]
    · rw [if_neg h, List.map_cons, ih]
      by_cases h2 : x ∈ r.map (·.1)
      · rw [if_pos h2, if_pos (by rw [List.map_cons]; exact .tail _ h2), List.map_cons]
      · rw [if_neg h2, if_neg (by rw [List.map_cons, List.mem_cons]; rintro (e | e); exact h e.symm; exact h2 e), List.map_cons, List.cons_append]
theorem putC_nodup {m : List (S34 × Int)} (h : (m.map (·.1)).Nodup) (x : S34) (v : Int) : ((putC m x v).map (·.1)).Nodup := by
  rw [putC_keys]
  split
  · exact h
  · rename_i hx
    exact List.nodup_append.2 ⟨h, by simp, fun a ha b hb => by rw [List.mem_singleton] at hb; subst hb; exact fun e => hx (e ▸ ha)⟩
theorem bumpC_ok {m : List (S34 × Int)} {p : S34 → Prop} {n : Nat} (h : (m.map (·.1)).Nodup ∧ (∀ q ∈ m, p q.1) ∧ m.length ≤ n) (x : S34) (hx : p x) (v : Int) :
    ((bumpC m x v).map (·.1)).Nodup ∧ (∀ q ∈ bumpC m x v, p q.1) ∧ (bumpC m x v).length ≤ n + 1 := by
  refine ⟨putC_nodup h.1 _ _, fun q hq => ?_, by unfold bumpC; rw [putC_len]; split <;> omega⟩
  have h1 : q.1 ∈ (bumpC m x v).map (·.1) := List.mem_map_of_mem hq
  unfold bumpC at h1
  rw [putC_keys] at h1
  have hin : ∀ y, y ∈ m.map (·.1) → p y := fun y hy => by obtain ⟨z, hz, rfl⟩ := List.mem_map.1 hy; exact h.2.1 z hz
  split at h1
  · exact hin _ h1
  · rcases List.mem_append.1 h1 with e | e
    · exact hin _ e
    · rw [List.mem_singleton] at e; rw [e]; exact hx
theorem countC_ok {p : S34 → Prop} (v : Int) : ∀ (l : List S34) (m : List (S34 × Int)) (n : Nat), (m.map (·.1)).Nodup ∧ (∀ q ∈ m, p q.1) ∧ m.length ≤ n → (∀ x ∈ l, p x) →
    ((countC m l v).map (·.1)).Nodup ∧ (∀ q ∈ countC m l v, p q.1) ∧ (countC m l v).length ≤ n + l.length
  | [], m, n, h, _ => h
  | x :: r, m, n, h, hl => by
    have := countC_ok (p := p) v r (bumpC m x v) (n + 1) (bumpC_ok h x (hl x (.head _)) v) (fun y hy => hl y (.tail _ hy))
    rw [List.length_cons]
    exact ⟨this.1, this.2.1, by have := this.2.2; unfold countC at this ⊢; rw [List.foldl_cons]; omega⟩
def diffC (l m : List S34) : List (S34 × Int) := countC (countC [] l (-1)) m 1
def diffV (l m : List S34) : List S48 := editsF (diffC l m) (sortN ((diffC l m).map (·.1)))
theorem diffC_ok (l m : List S34) (hl : l.length ≤ 32768) (hm : m.length ≤ 32768) (tl : ∀ x ∈ l, TinyN x ∧ mayN x = true) (tm : ∀ x ∈ m, TinyN x ∧ mayN x = true) : CntOk (diffC l m) := by
  have h1 := countC_ok (p := fun x => TinyN x ∧ mayN x = true) (-1) l [] 0 ⟨List.nodup_nil, fun q h => (by cases h), Nat.le_refl _⟩ tl
  have h2 := countC_ok (p := fun x => TinyN x ∧ mayN x = true) 1 m _ _ h1 tm
  exact ⟨h2.1, h2.2.1, by have := h2.2.2; unfold diffC; omega⟩
theorem farC_nil : FarC [] 0 := fun x => by simp [lookC]
def diff_Diff.f (l m : List S34) : Option (List S48 × Int) := if l.length ≤ 32768 ∧ m.length ≤ 32768 ∧ (∀ x ∈ l, TinyN x) ∧ (∀ x ∈ m, TinyN x) then some (if l.all mayN = true ∧ m.all mayN = true then (diffV l m, 0) else ([], 1)) else none
theorem may_all {l : List S34} (ht : ∀ x ∈ l, TinyN x) (h : l.all mayN = true) : ∀ x ∈ l, TinyN x ∧ mayN x = true := fun x hx => ⟨ht x hx, List.all_eq_true.1 h x hx⟩
set_option maxHeartbeats 8000000 in
set_option maxRecDepth 100000 in
theorem diff_go (A0 : Option Addr) (c0 : Nat) (l0 : List S34) (A1 : Option Addr) (c1 : Nat) (l1 : List S34) (w : World) (hr0 : Kd.C k34 w A0 l0.length l0) (hr1 : Kd.C k34 w A1 l1.length l1)
    (hl0 : l0.length ≤ 32768) (hl1 : l1.length ≤ 32768) (ht0 : ∀ x ∈ l0, TinyN x) (ht1 : ∀ x ∈ l1, TinyN x) (rr : Int) (re : List S48)
    (hyes : l0.all mayN = true → l1.all mayN = true → rr = 0 ∧ re = diffV l0 l1) (hno : (l0.all mayN = false ∨ l1.all mayN = false) → rr = 1 ∧ re = []) :
    Calls Tryz.prog 64 #[.slice A0 l0.length c0, .slice A1 l1.length c1] w fun e w' => ∃ v, e = .returned (.tuple #[v, .int .i64 rr]) ∧ Kd.R k48 48 w' w.heap.size (fun _ => True) v re ∧ Below w.heap.size w w' := by
  have HYES := Aside0.mk hyes
  have HNO := Aside0.mk hno
  clear hyes hno
  have hmm := @run_makeMap Tryz.prog
  obtain ⟨K, hK0, hK1⟩ : ∃ K, (∀ x ∈ l0, x.f0.size + 2 ≤ K) ∧ (∀ x ∈ l1, x.f0.size + 2 ≤ K) := ⟨4294967296, fun x hx => by have := (ht0 x hx).1; unfold Tiny at this; omega, fun x hx => by have := (ht1 x hx).1; unfold Tiny at this; omega⟩
  have C1 := fun (b nn : Nat) (D0 : DataW Unit) (m : List (S34 × Int)) (hm0 : CntM D0 m) (B0 : Int) (hfar : FarC m B0) (W : World) (hB : Below w.heap.size w W) (hb : w.heap.size ≤ b) (hB0 : B0 + 65536 ≤ 4611686018427387904) (hnn : nn ≤ 4294967296) (hown : W.ownsMap Tryz.prog 34 (plainElem (H := Unit) Tryz.prog 3) b nn D0) => count_calls A0 c0 l0 (-1) (by decide) b nn D0 m hm0 B0 hfar w W hr0 hB hb (by omega) hB0 hnn ht0 hown K hK0
  have C2 := fun (b nn : Nat) (D0 : DataW Unit) (m : List (S34 × Int)) (hm0 : CntM D0 m) (B0 : Int) (hfar : FarC m B0) (W : World) (hB : Below w.heap.size w W) (hb : w.heap.size ≤ b) (hB0 : B0 + 65536 ≤ 4611686018427387904) (hnn : nn ≤ 4294967296) (hown : W.ownsMap Tryz.prog 34 (plainElem (H := Unit) Tryz.prog 3) b nn D0) => count_calls A1 c1 l1 1 (by decide) b nn D0 m hm0 B0 hfar w W hr1 hB hb (by omega) hB0 hnn ht1 hown K hK1
  have HT0 := Aside0.mk ht0
  have HT1 := Aside0.mk ht1
  have HW1 := Aside0.mk (World.ownsMap_made w Tryz.prog 34 (plainElem (H := Unit) Tryz.prog 3))
  have HB1 := Aside0.mk (below_alloc (Below.refl w.heap.size w) (.map #[] 0))
  clear hK0 hK1 ht0 ht1 hr0 hr1
  go_enter Tryz.func64, Tryz.ntmps64
  go_wp2_with fail
  refine (C1 w.heap.size 0 _ [] CntM.none 0 farC_nil _ HB1.out (Nat.le_refl _) (by omega) (by omega) HW1.out).mono ?_
  rintro e w2 ⟨rfl, hb2, hc2⟩
  have HB2 := Aside0.mk hb2
  have HC2 := Aside0.mk hc2
  clear hb2 hc2 C1
  obtain ⟨b0, hb0⟩ : ∃ b, b = l0.all mayN := ⟨_, rfl⟩
  rw [← hb0] at HC2 ⊢
  have HE0 := Aside0.mk hb0
  clear hb0
  cases b0
  · clear C2 HC2
    obtain ⟨rfl, rfl⟩ := HNO.out (Or.inl HE0.out.symm)
    clear HYES HNO
    go_wp2
    go_ret2
    exact ⟨_, rfl, Kd.R_nil _ _ _ _ _, HB2.out⟩
  · obtain ⟨D2, hown2, hcm2, hfar2⟩ := HC2.out rfl
    have C3 := C2 w.heap.size (0 + l0.length) D2 _ hcm2 _ hfar2 w2 HB2.out (Nat.le_refl _) (by omega) (by omega) hown2
    clear C2 hown2 hcm2 hfar2 HC2
    go_wp2_with fail
    refine C3.mono ?_
    rintro e w3 ⟨rfl, hb3, hc3⟩
    have HB3 := Aside0.mk hb3
    have HC3 := Aside0.mk hc3
    clear hb3 hc3 C3
    obtain ⟨b1, hb1⟩ : ∃ b, b = l1.all mayN := ⟨_, rfl⟩
    rw [← hb1] at HC3 ⊢
    have HE1 := Aside0.mk hb1
    clear hb1
    cases b1
    · clear HC3
      obtain ⟨rfl, rfl⟩ := HNO.out (Or.inr HE1.out.symm)
      clear HYES HNO
      go_wp2
      go_ret2
      exact ⟨_, rfl, Kd.R_nil _ _ _ _ _, HB3.out⟩
    · obtain ⟨D3, hown3, hcm3, hfar3⟩ := HC3.out rfl
      have hok := diffC_ok l0 l1 hl0 hl1 (may_all HT0.out HE0.out.symm) (may_all HT1.out HE1.out.symm)
      have CE := edits_calls w.heap.size _ D3 (diffC l0 l1) hcm3 hok (Nat.le_trans hown3.size_le (by omega)) w3 hown3
      clear hown3 hcm3 hfar3 HC3 hok
      obtain ⟨rfl, rfl⟩ := HYES.out HE0.out.symm HE1.out.symm
      clear HYES HNO
      go_wp2_with fail
      refine CE.mono ?_
      rintro e w4 ⟨v, rfl, hR, hb4⟩
      have HB4 : Aside0 (Below w.heap.size w w4) := ⟨HB3.out.trans (hb4.mono HB3.out.size)⟩
      have HR4 := Aside0.mk (Kd.R_lower hR HB3.out.size)
      clear hR hb4 CE
      go_wp2
      go_ret2
      exact ⟨_, rfl, HR4.out, HB4.out⟩
theorem diff_Diff.calls (A0 : Option Addr) (c0 : Nat) (l0 : List S34) (A1 : Option Addr) (c1 : Nat) (l1 : List S34) (r1 : List S48) (r2 : Int) (w : World) (hr0 : Kd.C k34 w A0 l0.length l0) (hc0 : l0.length ≤ c0) (hr1 : Kd.C k34 w A1 l1.length l1) (hc1 : l1.length ≤ c1) (h : diff_Diff.f l0 l1 = some (r1, r2)) :
    Calls Tryz.prog 64 #[.slice A0 l0.length c0, .slice A1 l1.length c1] w fun e w' => ∃ v, e = .returned (.tuple #[v, .int .i64 r2]) ∧ Kd.R k48 48 w' w.heap.size (fun _ => True) v r1 ∧ Below w.heap.size w w' := by
  unfold diff_Diff.f at h
  split at h
  case isFalse => cases h
  case isTrue hc =>
    refine diff_go A0 c0 l0 A1 c1 l1 w hr0 hr1 hc.1 hc.2.1 hc.2.2.1 hc.2.2.2 r2 r1 (fun h0 h1 => ?_) (fun h2 => ?_)
    · rw [if_pos ⟨h0, h1⟩, Option.some.injEq, Prod.mk.injEq] at h
      exact ⟨h.2.symm, h.1.symm⟩
    · rw [if_neg (by rintro ⟨h0, h1⟩; rcases h2 with h2 | h2 <;> simp_all), Option.some.injEq, Prod.mk.injEq] at h
      exact ⟨h.2.symm, h.1.symm⟩
set_option maxHeartbeats 4000000 in
set_option maxRecDepth 100000 in
theorem growE_calls (n : Nat) (hn : n ≤ 4294967296) (w : World) :
    Calls Tryz.prog 79 #[.slice none 0 0, .int .i64 (n : Int)] w fun e w' => ∃ v, e = .returned v ∧ Kd.R k48 48 w' w.heap.size (fun _ => True) v ([] : List S48) ∧ Below w.heap.size w w' := by
  have hwr : IntKind.i64.wrap (n : Int) = (n : Int) := by rw [IntKind.wrap_i64]; omega
  have hd0 : decide ((n : Int) < 0) = false := decide_eq_false (by omega)
  have HB0 := Aside0.mk (Below.refl w.heap.size w)
  by_cases h0 : n = 0
  · subst h0
    clear hwr hd0
    go_enter Tryz.func79, Tryz.ntmps79
    go_wp2
    go_ret
    exact ⟨_, rfl, Kd.R_nil _ _ _ _ _, HB0.out⟩
  · have hp1 : decide ((n : Int) > 0) = true := decide_eq_true (by omega)
    have hp2 : decide ((0 : Int) < (n : Int)) = true := decide_eq_true (by omega)
    have HO0 := Aside0.mk (Kd.R_nil k48 48 w w.heap.size (fun _ => True))
    go_enter Tryz.func79, Tryz.ntmps79
    go_wp2_with (first
      | ((with_reducible refine gate_builtin (b := .append) (xs := #[.tmp 20, .tmp 21]) rfl ?_); at_builtin; refine Kd.R_append_zeros k48 (w0 := w) w.heap.size rfl (.tmp 20) (.tmp 21) 22 3 48 (.agg #[(.string ⟨#[]⟩), (.string ⟨#[]⟩), (.int .i64 0)]) 40 rfl Tryz.underlying22 Tryz.underlying3 info48 rfl (by decide) (by omega) (.slice none 0 0) [] ⟨⟨⟨#[]⟩, ⟨#[]⟩⟩, 0⟩ (n : Int) (fun _ => True) rfl rfl ?aP (fun _ _ => trivial) ?aO ?aN ?aB ?aS ?aL ?_; (case aP => exact k48_mkM _ _ _ ⟨⟨⟨#[]⟩, ⟨#[]⟩⟩, 0⟩); (case aB => exact HB0.out); (case aN => omega); (case aO => exact HO0.out); (case aS => exact Nat.le_refl _); (case aL => simp; omega); intro v9 w9 ho9 hb9 hg9 hat9; obtain ⟨gg, gc, hvv, _, _, _⟩ := Kd.R_form ho9 (by simp; omega); subst hvv; have HO9 := Aside0.mk (Kd.R_take ho9 (Nat.zero_le _)); have HB9 := Aside0.mk hb9; clear ho9 hb9 hg9 hat9)
      | fail)
    go_wp2
    go_ret
    exact ⟨_, rfl, HO9.out, HB9.out⟩
set_option maxHeartbeats 8000000 in
set_option maxRecDepth 100000 in
theorem concatE_calls (B : Nat) (A0 : Option Addr) (c0 : Nat) (l0 : List S48) (A1 : Option Addr) (c1 : Nat) (l1 : List S48) (w : World) (hr0 : Kd.C k48 w A0 l0.length l0) (hr1 : Kd.C k48 w A1 l1.length l1)
    (hl0 : l0.length ≤ 65536) (hl1 : l1.length ≤ 65536) (hB : B < w.heap.size) (g0 : w.cell? ⟨B, 0, none⟩ = some (.slice A0 l0.length c0)) (g1 : w.cell? ⟨B, 1, none⟩ = some (.slice A1 l1.length c1)) :
    Calls Tryz.prog 66 #[.slice (some ⟨B, 0, none⟩) 2 2] w fun e w' => ∃ v, e = .returned v ∧ Kd.R k48 48 w' w.heap.size (fun _ => True) v (l0 ++ l1) ∧ Below w.heap.size w w' := by
  have HR0 := Aside0.mk hr0
  have HR1 := Aside0.mk hr1
  have HB0 := Aside0.mk (Below.refl w.heap.size w)
  have hw0 : IntKind.i64.wrap (l0.length : Int) = (l0.length : Int) := by rw [IntKind.wrap_i64]; omega
  have hw1 : IntKind.i64.wrap ((l0.length : Int) + (l1.length : Int)) = (l0.length : Int) + (l1.length : Int) := by rw [IntKind.wrap_i64]; omega
  have hd0 : decide ((l0.length : Int) < 0) = false := decide_eq_false (by omega)
  have hd1 : decide ((l0.length : Int) + (l1.length : Int) < 0) = false := decide_eq_false (by omega)
  have CG := fun (W : World) => growE_calls (l0.length + l1.length) (by omega) W
  have G0 := Aside0.mk g0
  have G1 := Aside0.mk g1
  clear hr0 hr1
  go_enter Tryz.func66, Tryz.ntmps66
  go_wp2_with fail
  go_loopw [3, 11] (fun v3 v11 wr => ((v11 = .int .i64 0 ∧ v3 = .int .i64 0) ∨ (v11 = .int .i64 1 ∧ v3 = .int .i64 (l0.length : Int)) ∨ (v11 = .int .i64 2 ∧ v3 = .int .i64 ((l0.length : Int) + (l1.length : Int)))) ∧ Aside0 (wr = w)) (fun _ v11 _ => 2 - (RowKit.intOf v11).toNat)
  case atStart => exact ⟨Or.inl ⟨rfl, rfl⟩, ⟨rfl⟩⟩
  case round =>
    obtain ⟨hcase, HW⟩ := hrel
    have hw := HW.out.symm
    subst hw
    clear HW
    rcases hcase with ⟨rfl, rfl⟩ | ⟨rfl, rfl⟩ | ⟨rfl, rfl⟩
    · clear CG hw1 hd1
      go_wp2
      go_roundw
      case rel => exact ⟨Or.inr (Or.inl ⟨rfl, rfl⟩), ⟨trivial⟩⟩
      case measure => simp [RowKit.intOf]
    · clear CG
      go_wp2
      go_roundw
      case rel => exact ⟨Or.inr (Or.inr ⟨rfl, rfl⟩), ⟨trivial⟩⟩
      case measure => simp [RowKit.intOf]
    · clear hw0 hw1 hd0 hd1
      go_wp2_with fail
      refine (CG _).mono ?_
      rintro e w2 ⟨v, rfl, hR, hb⟩
      have HB2 := Aside0.mk hb
      have HO2 := Aside0.mk hR
      have q0 := (hb.cell hB).trans G0.out
      have q1 := (hb.cell hB).trans G1.out
      clear hR hb CG g0 g1
      go_wp2_with fail
      go_loopw [6, 27] (fun v6 v27 wr => ∃ i : Nat, i ≤ 2 ∧ v27 = .int .i64 (i : Int) ∧ Aside0 (Kd.R k48 48 wr w.heap.size (fun _ => True) v6 (([l0, l1].take i).flatten)) ∧ Aside0 (Below w.heap.size w wr)) (fun _ v27 _ => 2 - (RowKit.intOf v27).toNat)
      case atStart => exact ⟨0, by omega, rfl, HO2, HB2⟩
      case round =>
        clear HO2 HB2 q0 q1
        obtain ⟨i, hi, rfl, HO, HB⟩ := hrel
        have q0 := (HB.out.cell hB).trans G0.out
        have q1 := (HB.out.cell hB).trans G1.out
        obtain rfl | rfl | rfl : i = 0 ∨ i = 1 ∨ i = 2 := by omega
        · go_wp2_with (first
            | ((with_reducible refine gate_builtin (b := .append) (xs := #[.tmp 31, .tmp 32]) rfl ?_); at_builtin; refine Kd.R_append_rows k48 (w0 := w) w.heap.size rfl (.tmp 31) (.tmp 32) 22 48 (.agg #[(.string ⟨#[]⟩), (.string ⟨#[]⟩), (.int .i64 0)]) 40 rfl Tryz.underlying22 info48 rfl (by decide) (by omega) u6 [] l0 _ _ _ (fun _ => True) (fun _ => False) rfl rfl ?aO ?aR (fun _ _ h => h) (fun _ h => h.elim) ?aF ?aB ?aS ?aL ?_; (case aR => exact Kd.C_below HR0.out HB.out); (case aB => exact HB.out); (case aF => exact (fun _ _ => trivial)); (case aO => exact HO.out); (case aS => exact HB.out.size); (case aL => simp; omega); intro v7 w7 ho7 hb7 hg7 hat7; have HO7 := Aside0.mk ho7; have HB7 := Aside0.mk hb7; clear ho7 hb7 hg7 hat7)
            | fail)
          go_roundw
          case rel => exact ⟨1, by omega, by go_num, ⟨by simpa using HO7.out⟩, HB7⟩
          case measure => simp [RowKit.intOf]
        · go_wp2_with (first
            | ((with_reducible refine gate_builtin (b := .append) (xs := #[.tmp 31, .tmp 32]) rfl ?_); at_builtin; refine Kd.R_append_rows k48 (w0 := w) w.heap.size rfl (.tmp 31) (.tmp 32) 22 48 (.agg #[(.string ⟨#[]⟩), (.string ⟨#[]⟩), (.int .i64 0)]) 40 rfl Tryz.underlying22 info48 rfl (by decide) (by omega) u6 l0 l1 _ _ _ (fun _ => True) (fun _ => False) rfl rfl ?aO ?aR (fun _ _ h => h) (fun _ h => h.elim) ?aF ?aB ?aS ?aL ?_; (case aR => exact Kd.C_below HR1.out HB.out); (case aB => exact HB.out); (case aF => exact (fun _ _ => trivial)); (case aO => simpa using HO.out); (case aS => exact HB.out.size); (case aL => omega); intro v7 w7 ho7 hb7 hg7 hat7; have HO7 := Aside0.mk ho7; have HB7 := Aside0.mk hb7; clear ho7 hb7 hg7 hat7)
            | fail)
          go_roundw
          case rel => exact ⟨2, by omega, by go_num, ⟨by simpa using HO7.out⟩, HB7⟩
          case measure => simp [RowKit.intOf]
        · go_wp2
          go_ret
          exact ⟨_, rfl, by simpa using HO.out, HB.out⟩
def countE (m : List (S34 × Int)) (l : List S48) : List (S34 × Int) := l.foldl (fun m x => bumpC m x.f0 x.f1) m
theorem countE_take (m : List (S34 × Int)) (l : List S48) (i : Nat) (h : i < l.length) : countE m (l.take (i + 1)) = bumpC (countE m (l.take i)) l[i].f0 l[i].f1 := by
  unfold countE
  rw [List.take_succ_eq_append_getElem h, List.foldl_append]
  rfl
theorem countE_ok {p : S34 → Prop} : ∀ (l : List S48) (m : List (S34 × Int)) (n : Nat), (m.map (·.1)).Nodup ∧ (∀ q ∈ m, p q.1) ∧ m.length ≤ n → (∀ x ∈ l, p x.f0) →
    ((countE m l).map (·.1)).Nodup ∧ (∀ q ∈ countE m l, p q.1) ∧ (countE m l).length ≤ n + l.length
  | [], m, n, h, _ => h
  | x :: r, m, n, h, hl => by
    have := countE_ok (p := p) r (bumpC m x.f0 x.f1) (n + 1) (bumpC_ok h x.f0 (hl x (.head _)) x.f1) (fun y hy => hl y (.tail _ hy))
    rw [List.length_cons]
    exact ⟨this.1, this.2.1, by have := this.2.2; unfold countE at this ⊢; rw [List.foldl_cons]; omega⟩
def bothV (a b : List S48) : List S48 := editsF (countE [] (a ++ b)) (sortN ((countE [] (a ++ b)).map (·.1)))
theorem bothC_ok (a b : List S48) (ha : a.length ≤ 32768) (hb : b.length ≤ 32768) (ta : ∀ x ∈ a, TinyN x.f0 ∧ mayN x.f0 = true) (tb : ∀ x ∈ b, TinyN x.f0 ∧ mayN x.f0 = true) : CntOk (countE [] (a ++ b)) := by
  have h1 := countE_ok (p := fun x => TinyN x ∧ mayN x = true) (a ++ b) [] 0 ⟨List.nodup_nil, fun q h => (by cases h), Nat.le_refl _⟩ (fun x hx => by rcases List.mem_append.1 hx with h | h; exact ta x h; exact tb x h)
  exact ⟨h1.1, h1.2.1, by have := h1.2.2; rw [List.length_append] at this; omega⟩
theorem bothV_tiny {m : List (S34 × Int)} (h : CntOk m) : (∀ x ∈ editsF m (sortN (m.map (·.1))), TinyN x.f0) ∧ (editsF m (sortN (m.map (·.1)))).length ≤ 65536 := by
  refine ⟨fun x hx => ?_, Nat.le_trans (editsF_len _ _) (by rw [(sortN_perm _).length_eq, List.length_map]; exact h.len)⟩
  unfold editsF at hx
  obtain ⟨n, hn, rfl⟩ := List.mem_map.1 hx
  obtain ⟨p, hp, rfl⟩ := List.mem_map.1 ((sortN_perm _).mem_iff.1 (List.mem_filter.1 hn).1)
  exact (h.may p hp).1
def diff_Both.f (a b : List S48) : Option (List S48 × Int) := if a.length ≤ 32768 ∧ b.length ≤ 32768 ∧ (∀ x ∈ a, TinyN x.f0) ∧ (∀ x ∈ b, TinyN x.f0) then some (if checkE a = true ∧ checkE b = true then (if checkE (bothV a b) = true then (bothV a b, 0) else ([], 4)) else ([], 1)) else none
theorem edE_ok {l : List S48} (ht : ∀ x ∈ l, TinyN x.f0) (h : checkE l = true) : ∀ x ∈ l, (TinyN x.f0 ∧ mayN x.f0 = true) ∧ -1099511627776 ≤ x.f1 ∧ x.f1 ≤ 1099511627776 := fun x hx => by
  have := (edE_iff x).1 (chkE_all l none h x hx)
  exact ⟨⟨ht x hx, this.1⟩, this.2.2.2, this.2.2.1⟩
set_option maxHeartbeats 8000000 in
set_option maxRecDepth 100000 in
theorem both_go (A0 : Option Addr) (c0 : Nat) (l0 : List S48) (A1 : Option Addr) (c1 : Nat) (l1 : List S48) (w : World) (hr0 : Kd.C k48 w A0 l0.length l0) (hr1 : Kd.C k48 w A1 l1.length l1) (hc0 : l0.length ≤ c0) (hc1 : l1.length ≤ c1)
    (hl0 : l0.length ≤ 32768) (hl1 : l1.length ≤ 32768) (ht0 : ∀ x ∈ l0, TinyN x.f0) (ht1 : ∀ x ∈ l1, TinyN x.f0) (rr : Int) (re : List S48)
    (hyes : checkE l0 = true → checkE l1 = true → checkE (bothV l0 l1) = true → rr = 0 ∧ re = bothV l0 l1) (hbig : checkE l0 = true → checkE l1 = true → checkE (bothV l0 l1) = false → rr = 4 ∧ re = []) (hno : (checkE l0 = false ∨ checkE l1 = false) → rr = 1 ∧ re = []) :
    Calls Tryz.prog 52 #[.slice A0 l0.length c0, .slice A1 l1.length c1] w fun e w' => ∃ v, e = .returned (.tuple #[v, .int .i64 rr]) ∧ Kd.R k48 48 w' w.heap.size (fun _ => True) v re ∧ Below w.heap.size w w' := by
  have hu24 := Tryz.underlying34
  have hu35 := Tryz.underlying48
  have hmm := @run_makeMap Tryz.prog
  have HYES := Aside0.mk hyes
  have HBIG := Aside0.mk hbig
  have HNO := Aside0.mk hno
  clear hyes hbig hno
  obtain ⟨K, hK⟩ : ∃ K, 65536 + 4294967320 ≤ K := ⟨_, Nat.le_refl _⟩
  have e0 := checkE_val l0 (by omega) ht0 K (by omega)
  have e1 := checkE_val l1 (by omega) ht1 K (by omega)
  have HR0 := Aside0.mk hr0
  have HR1 := Aside0.mk hr1
  have HT0 := Aside0.mk ht0
  have HT1 := Aside0.mk ht1
  obtain ⟨b0, hb0⟩ : ∃ b, b = checkE l0 := ⟨_, rfl⟩
  obtain ⟨b1, hb1⟩ : ∃ b, b = checkE l1 := ⟨_, rfl⟩
  rw [← hb0] at e0
  rw [← hb1] at e1
  have HE0 := Aside0.mk hb0
  have HE1 := Aside0.mk hb1
  have CK0 := diff_Check.calls K A0 c0 l0 _ w hr0 hc0 e0
  have CK1 := fun (W : World) (h : Kd.C k48 W A1 l1.length l1) => diff_Check.calls K A1 c1 l1 _ W h hc1 e1
  clear hr0 hr1 ht0 ht1 hb0 hb1 e0 e1
  cases b0
  · obtain ⟨rfl, rfl⟩ := HNO.out (Or.inl HE0.out.symm)
    clear HYES HNO HBIG CK1
    go_enter Tryz.func52, Tryz.ntmps52
    go_wp2_with fail
    refine CK0.mono ?_
    rintro e w1 ⟨rfl, hb1⟩
    have HB1 := Aside0.mk hb1
    clear hb1 CK0
    simp only [okV]
    go_wp2
    go_ret2
    exact ⟨_, rfl, Kd.R_nil _ _ _ _ _, HB1.out⟩
  · go_enter Tryz.func52, Tryz.ntmps52
    go_wp2_with fail
    refine CK0.mono ?_
    rintro e w1 ⟨rfl, hb1⟩
    have HB1 := Aside0.mk hb1
    have CK2 := CK1 w1 (Kd.C_below HR1.out hb1)
    clear hb1 CK0 CK1
    simp only [okV]
    cases b1
    · obtain ⟨rfl, rfl⟩ := HNO.out (Or.inr HE1.out.symm)
      clear HYES HNO HBIG
      go_wp2_with fail
      refine CK2.mono ?_
      rintro e w2 ⟨rfl, hb2⟩
      have HB2 : Aside0 (Below w.heap.size w w2) := ⟨HB1.out.trans (hb2.mono HB1.out.size)⟩
      clear hb2 CK2
      simp only [okV]
      go_wp2
      go_ret2
      exact ⟨_, rfl, Kd.R_nil _ _ _ _ _, HB2.out⟩
    · go_wp2_with fail
      refine CK2.mono ?_
      rintro e w2 ⟨rfl, hb2⟩
      have HB2 : Aside0 (Below w.heap.size w w2) := ⟨HB1.out.trans (hb2.mono HB1.out.size)⟩
      clear hb2 CK2 HB1
      simp only [okV]
      have CC := concatE_calls (w2.heap.size + 1) A0 c0 l0 A1 c1 l1 ((w2.alloc (.map #[] 0)).alloc (.cells #[.slice A0 l0.length c0, .slice A1 l1.length c1] 22 (0, 0))) (Kd.C_alloc (Kd.C_alloc (Kd.C_below HR0.out HB2.out) _) _) (Kd.C_alloc (Kd.C_alloc (Kd.C_below HR1.out HB2.out) _) _) (by omega) (by omega) (by simp) (by simp [go_sem]) (by simp [go_sem])
      have HB3 := Aside0.mk (below_alloc (below_alloc HB2.out (.map #[] 0)) (.cells #[.slice A0 l0.length c0, .slice A1 l1.length c1] 22 (0, 0)))
      have HM3 : Aside0 (((w2.alloc (.map #[] 0)).alloc (.cells #[.slice A0 l0.length c0, .slice A1 l1.length c1] 22 (0, 0))).ownsMap Tryz.prog 34 (plainElem (H := Unit) Tryz.prog 3) w2.heap.size 0 (.map [])) := ⟨(World.ownsMap_made _ _ _ _).alloc _⟩
      have hz2 := HB2.out.size
      go_wp2_with fail
      refine CC.mono ?_
      rintro e w4 ⟨v4, rfl, hR4, hb4⟩
      obtain ⟨L, hL⟩ : ∃ L, L = l0 ++ l1 := ⟨_, rfl⟩
      rw [← hL] at hR4
      have hLl : L.length ≤ 65536 := by rw [hL, List.length_append]; omega
      have hLi : (L.length : Int) ≤ 65536 := by omega
      have hLo : ∀ x ∈ L, (TinyN x.f0 ∧ mayN x.f0 = true) ∧ -1099511627776 ≤ x.f1 ∧ x.f1 ≤ 1099511627776 := fun x hx => by
        rw [hL] at hx
        rcases List.mem_append.1 hx with h | h
        · exact edE_ok HT0.out HE0.out.symm x h
        · exact edE_ok HT1.out HE1.out.symm x h
      have HL := Aside0.mk hL
      have HLO := Aside0.mk hLo
      have HB4 : Aside0 (Below w.heap.size w w4) := ⟨HB3.out.trans (hb4.mono HB3.out.size)⟩
      have HM4 := Aside0.mk (HM3.out.kept (grown_of_below hb4 none) (by simp))
      have HG4 : Aside0 (Kd.R k48 48 w4 w.heap.size (fun j => j ≠ w2.heap.size) v4 L) := ⟨Kd.R_lower (Kd.R_mono (Kd.R_bound hR4) (fun j hj => by have := hj.2.1; simp at this; omega)) (by simp; omega)⟩
      have hz4 := hb4.size
      simp only [World.size_alloc] at hz4
      clear CC hR4 hb4 hL hLo HM3 HB3
      obtain ⟨Ag, cg, eg⟩ := Kd.R_slice HG4.out
      subst eg
      go_wp2_with fail
      go_loopw [24] (fun v24 wr => ∃ (i : Nat) (D : DataW Unit), i ≤ L.length ∧ v24 = .int .i64 (i : Int) ∧ Aside0 (wr.ownsMap Tryz.prog 34 (plainElem (H := Unit) Tryz.prog 3) w2.heap.size (0 + i) D) ∧ Aside0 (CntM D (countE [] (L.take i))) ∧ Aside0 (FarC (countE [] (L.take i)) (1099511627776 * (i : Int))) ∧ Aside0 (Kd.R k48 48 wr w.heap.size (fun j => j ≠ w2.heap.size) (.slice Ag L.length cg) L) ∧ Aside0 (Below w.heap.size w wr) ∧ w2.heap.size + 2 ≤ wr.heap.size) (fun v24 _ => L.length - (RowKit.intOf v24).toNat)
      case atStart => exact ⟨0, _, Nat.zero_le _, rfl, HM4, ⟨CntM.none⟩, ⟨farC_nil⟩, HG4, HB4, by omega⟩
      case round =>
        clear HM4 HG4 HB4 hz4
        obtain ⟨i, D, hi, rfl, HM, HD, HF, HG, HB, hws⟩ := hrel
        by_cases hil : i < L.length
        · have j1 : (i : Int) < (L.length : Int) := by omega
          have hdi : decide ((i : Int) < (L.length : Int)) = true := decide_eq_true j1
          obtain ⟨x, hx⟩ : ∃ x, x = L[i] := ⟨_, rfl⟩
          have hmem : x ∈ L := by rw [hx]; exact List.getElem_mem hil
          obtain ⟨ad, eA, hx0, hx1, hx2⟩ := at_T48 (Kd.R_reads' HG.out).2.2 (i : Int) (by omega) (by omega)
          have hrd : rd_T48 L (i : Int) = x := by rw [hx]; simp [rd_T48, List.getD_eq_getElem?_getD, List.getElem?_eq_getElem hil]
          rw [hrd, Int.toNat_natCast] at hx0 hx1 hx2
          cases eA
          have hxo := HLO.out x hmem
          have hns := tiny_ns hxo.1.1
          have hkey := keyOf_node x.f0 hns.1 hns.2
          have hct := countE_take [] L i hil
          rw [← hx] at hct
          have HCT := Aside0.mk hct
          have hfx := HF.out x.f0
          have hb1 := hxo.2.1
          have hb2 := hxo.2.2
          have HNS := Aside0.mk hns
          obtain ⟨c, hc⟩ : ∃ c, c = (lookC (countE [] (L.take i)) x.f0).getD 0 := ⟨_, rfl⟩
          rw [← hc] at hfx
          have hws2 : IntKind.i64.wrap (c + x.f1) = c + x.f1 := by rw [IntKind.wrap_i64]; omega
          have hwd : (Lit.int .i64 (c + x.f1)).wf = true := by simp [Lit.wf, IntKind.min, IntKind.max, IntKind.signed, IntKind.bits]; omega
          have HFX := Aside0.mk (⟨hb1, hb2⟩ : -1099511627776 ≤ x.f1 ∧ x.f1 ≤ 1099511627776)
          clear hx hrd hct hmem hxo hns hfx hb1 hb2
          have HM5 := Aside0.mk (HM.out.alloc (.cells #[.string x.f0.f0, .string x.f0.f1, .int .i64 x.f1] 48 (0, 0)))
          have HB5 := Aside0.mk (below_alloc HB.out (.cells #[.string x.f0.f0, .string x.f0.f1, .int .i64 x.f1] 48 (0, 0)))
          have HG5 := Aside0.mk (Kd.R_alloc HG.out (.cells #[.string x.f0.f0, .string x.f0.f1, .int .i64 x.f1] 48 (0, 0)))
          obtain ⟨W5, hW5⟩ : ∃ W5, W5 = wr.alloc (.cells #[.string x.f0.f0, .string x.f0.f1, .int .i64 x.f1] 48 (0, 0)) := ⟨_, rfl⟩
          have n0 : W5.cell? ⟨wr.heap.size, 0, none⟩ = some (.string x.f0.f0) := by rw [hW5]; simp [go_sem]
          have n1 : W5.cell? ⟨wr.heap.size, 1, none⟩ = some (.string x.f0.f1) := by rw [hW5]; simp [go_sem]
          have n2 : W5.cell? ⟨wr.heap.size, 2, none⟩ = some (.int .i64 x.f1) := by rw [hW5]; simp [go_sem]
          rw [← hW5] at HM5 HB5 HG5
          have HW5 := Aside0.mk hW5
          have hzr : wr.heap.size + 1 = W5.heap.size := by rw [hW5]; simp
          clear hW5
          obtain ⟨v0, st, w6, E2, hg1, E1, E1', E3⟩ := own_bump (HM5.out.drew) (deep_law_laid laid_all (m := 3) (by omega) keyr_node keyt_node wide_node) Tryz.underlying91 (by unfold maxLen; omega) zero_intN hkey
          obtain ⟨c2, hrun, hat, hwc⟩ := (HM5.out.drew).lookup_int law_node Tryz.underlying91 Tryz.underlying3 (zero_intN _) hkey
          have hc2 : c2 = c := by
            have h9 := hat.symm.trans (HD.out.at_ x.f0 HNS.out)
            rw [← hc] at h9
            injection h9 with h9; injection h9
          subst hc2
          have hv0 : v0 = .int .i64 c2 := by
            rw [hrun] at E1; injection E1 with E1 _; exact E1.symm
          subst hv0
          obtain ⟨w7, E4, hown3, hg3⟩ := E3 w6 (.int .i64 (c2 + x.f1)) _ [] rfl (plainElem_int Tryz.underlying3 hwd)
          have E5 : (Instr.entryStore 91 (.map (some w2.heap.size)) (.int .i64 (st : Int)) (.int .i64 (c2 + x.f1))).run Tryz.prog w6 = .ok () w7 := E4
          have E6 : (Instr.mapEntry 91 (.map (some w2.heap.size)) (.agg #[.string x.f0.f0, .string x.f0.f1])).run Tryz.prog W5.drew = .ok (.tuple #[.int .i64 c2, .int .i64 (st : Int)]) w6 := E2
          have HC := Aside0.mk hc
          have HM7 := Aside0.mk hown3
          have HB6 := Aside0.mk (pw_below_grown (below_drew HB5.out) _ (below_drew HB5.out).size hg1 (fun j hj => by cases hj; exact hz2))
          have HB7 := Aside0.mk (pw_below_grown HB6.out _ HB6.out.size hg3 (fun j hj => by cases hj; exact hz2))
          have HG6 := Aside0.mk (Kd.R_grown (Kd.R_drew HG5.out) hg1 (fun j hj => by simp; exact hj))
          have HG7 := Aside0.mk (Kd.R_grown HG6.out hg3 (fun j hj => by simp; exact hj))
          have HD7 : Aside0 (CntM (D.put (nkey x.f0) (.lit (.int .i64 (c2 + x.f1)))) (countE [] (L.take (i + 1)))) := ⟨by rw [HCT.out]; unfold bumpC; rw [← HC.out]; exact HD.out.put x.f0 HNS.out _⟩
          have HF7 : Aside0 (FarC (countE [] (L.take (i + 1))) (1099511627776 * ((i + 1 : Nat) : Int))) := ⟨by rw [HCT.out, show 1099511627776 * ((i + 1 : Nat) : Int) = 1099511627776 * (i : Int) + 1099511627776 by omega]; exact HF.out.bump (by omega) x.f0 x.f1 HFX.out.1 HFX.out.2⟩
          have hz7 : w2.heap.size + 2 ≤ w7.heap.size := by have h1 := hg1.size; have h2 := hg3.size; (have h3 : W5.drew.heap.size = W5.heap.size := rfl); omega
          clear E3 E4 E2 hrun hat hwc hown3 hg1 hg3 hc hwd
          go_wp2_with fail
          rw [← HW5.out]
          go_region
          all_goals
            go_wp2
            go_roundw
            case rel => exact ⟨i + 1, _, by omega, by go_num, HM7, HD7, HF7, HG7, HB7, hz7⟩
            case measure => simp [RowKit.intOf]; omega
        · obtain rfl : i = L.length := by omega
          have hdi : decide ((L.length : Int) < (L.length : Int)) = false := decide_eq_false (by omega)
          have hd := HD.out
          rw [List.take_length, HL.out] at hd
          have hok := bothC_ok l0 l1 hl0 hl1 (fun x h => (edE_ok HT0.out HE0.out.symm x h).1) (fun x h => (edE_ok HT1.out HE1.out.symm x h).1)
          have CE := edits_calls w2.heap.size _ D _ hd hok (Nat.le_trans HM.out.size_le (by omega)) wr HM.out
          have hbt := bothV_tiny hok
          have eB := checkE_val (bothV l0 l1) (by unfold bothV; omega) hbt.1 K (by have := hbt.2; unfold bothV; omega)
          obtain ⟨b2, hb2⟩ : ∃ b, b = checkE (bothV l0 l1) := ⟨_, rfl⟩
          rw [← hb2] at eB
          have HE2 := Aside0.mk hb2
          have CB := fun (W : World) (A : Option Addr) (cc : Nat) (h : Kd.C k48 W A (bothV l0 l1).length (bothV l0 l1)) (hcc : (bothV l0 l1).length ≤ cc) => diff_Check.calls K A cc (bothV l0 l1) _ W h hcc eB
          have HCB := Aside0.mk CB
          clear hd hok hbt eB hb2 CB
          go_wp2_with fail
          refine CE.mono ?_
          rintro e w8 ⟨v, rfl, hR, hb8⟩
          have HB8 : Aside0 (Below w.heap.size w w8) := ⟨HB.out.trans (hb8.mono HB.out.size)⟩
          have HR8 : Aside0 (Kd.R k48 48 w8 w.heap.size (fun _ => True) v (bothV l0 l1)) := ⟨Kd.R_lower hR HB.out.size⟩
          clear hR hb8 CE
          obtain ⟨Ae, ce, ee⟩ := Kd.R_slice HR8.out
          subst ee
          have CB2 := HCB.out w8 Ae ce (Kd.R_reads' HR8.out).2.2 (Kd.R_reads' HR8.out).2.1
          clear HCB
          go_wp2_with fail
          refine CB2.mono ?_
          rintro e w9 ⟨rfl, hb9⟩
          have HB9 : Aside0 (Below w.heap.size w w9) := ⟨HB8.out.trans (hb9.mono HB8.out.size)⟩
          have HR9 := Aside0.mk (Kd.R_below HR8.out hb9)
          clear hb9 CB2
          simp only [okV]
          cases b2
          · obtain ⟨rfl, rfl⟩ := HBIG.out HE0.out.symm HE1.out.symm HE2.out.symm
            clear HYES HNO HBIG
            simp only [okV]
            go_wp2
            go_ret2
            exact ⟨_, rfl, Kd.R_nil _ _ _ _ _, HB9.out⟩
          · obtain ⟨rfl, rfl⟩ := HYES.out HE0.out.symm HE1.out.symm HE2.out.symm
            clear HYES HNO HBIG
            simp only [okV]
            go_wp2
            go_ret2
            exact ⟨_, rfl, HR9.out, HB9.out⟩
theorem diff_Both.calls (A0 : Option Addr) (c0 : Nat) (l0 : List S48) (A1 : Option Addr) (c1 : Nat) (l1 : List S48) (r1 : List S48) (r2 : Int) (w : World) (hr0 : Kd.C k48 w A0 l0.length l0) (hc0 : l0.length ≤ c0) (hr1 : Kd.C k48 w A1 l1.length l1) (hc1 : l1.length ≤ c1) (h : diff_Both.f l0 l1 = some (r1, r2)) :
    Calls Tryz.prog 52 #[.slice A0 l0.length c0, .slice A1 l1.length c1] w fun e w' => ∃ v, e = .returned (.tuple #[v, .int .i64 r2]) ∧ Kd.R k48 48 w' w.heap.size (fun _ => True) v r1 ∧ Below w.heap.size w w' := by
  unfold diff_Both.f at h
  split at h
  case isFalse => cases h
  case isTrue hc =>
    refine both_go A0 c0 l0 A1 c1 l1 w hr0 hr1 hc0 hc1 hc.1 hc.2.1 hc.2.2.1 hc.2.2.2 r2 r1 (fun h0 h1 h2 => ?_) (fun h0 h1 h2 => ?_) (fun h2 => ?_)
    · rw [if_pos ⟨h0, h1⟩, if_pos h2, Option.some.injEq, Prod.mk.injEq] at h
      exact ⟨h.2.symm, h.1.symm⟩
    · rw [if_pos ⟨h0, h1⟩, if_neg (by rw [h2]; decide), Option.some.injEq, Prod.mk.injEq] at h
      exact ⟨h.2.symm, h.1.symm⟩
    · rw [if_neg (by rintro ⟨h0, h1⟩; rcases h2 with h2 | h2 <;> simp_all), Option.some.injEq, Prod.mk.injEq] at h
      exact ⟨h.2.symm, h.1.symm⟩
end Go.Proofs.YtohdmmafjpjmfaaGreatDoor.Q
end
section
namespace Go.Proofs.YtohdmmafjpjmfaaGreatDoor.Q
open Go.Proofs.YtohdmmafjpjmfaaGreatDoor.QB.D
open Go Go.RowKit Go.Lib Go.Proofs.YtohdmmafjpjmfaaGreatDoorW.PrintWords Go.Proofs.YtohdmmafjpjmfaaGreatDoorW.PrintLast Go.Proofs.YtohdmmafjpjmfaaGreatDoorW.PrintMore Gw
set_option linter.unusedVariables false
set_option linter.unusedSimpArgs false
def cellE (x : S48) : List Value := [.string x.f0.f0, .string x.f0.f1, .int .i64 x.f1]
def cellsE (xs : List S48) : List Value := xs.flatMap cellE
theorem cellsE_len : ∀ xs, (cellsE xs).length = xs.length * 3
  | [] => rfl
  | x :: xs => by
    show (cellE x ++ cellsE xs).length = _
    rw [List.length_append, cellsE_len xs]; simp [cellE]; omega
theorem cellsE_get : ∀ (xs : List S48) (j : Nat), (cellsE xs)[j]? = (xs[j / 3]?).bind (fun x => (cellE x)[j % 3]?) := by
  intro xs
  induction xs with
  | nil => intro j; simp [cellsE]
  | cons x xs ih =>
    intro j
    have h : cellsE (x :: xs) = cellE x ++ cellsE xs := rfl
    have hl : (cellE x).length = 3 := rfl
    rw [h]
    rcases Nat.lt_or_ge j 3 with hj | hj
    · rw [List.getElem?_append_left (by omega), show j / 3 = 0 by omega, show j % 3 = j by omega]; rfl
    · rw [List.getElem?_append_right (by omega), hl, ih, show j / 3 = (j - 3) / 3 + 1 by omega, List.getElem?_cons_succ, show j % 3 = (j - 3) % 3 by omega]
theorem cellsE_append (a b : List S48) : cellsE (a ++ b) = cellsE a ++ cellsE b := by unfold cellsE; rw [List.flatMap_append]
theorem edit_reps (w : World) (base : Nat) (ok : Nat → Prop) (xs : List S48) : Reps (k48.M w base ok) k48.sz xs (cellsE xs) := by
  refine ⟨cellsE_len xs, fun j p hj => ?_⟩
  obtain ⟨hjl, rfl⟩ := List.getElem?_eq_some_iff.1 hj
  have e : ((cellsE xs).drop (j * 3)).take 3 = cellE xs[j] := by
    apply List.ext_getElem?
    intro t
    rcases Nat.lt_or_ge t 3 with h | h
    · rw [List.getElem?_take_of_lt h, List.getElem?_drop, cellsE_get, show (j * 3 + t) / 3 = j by omega, List.getElem?_eq_getElem hjl, show (j * 3 + t) % 3 = t by omega]
      rfl
    · rw [List.getElem?_eq_none (by rw [List.length_take]; omega), List.getElem?_eq_none (by simp [cellE]; omega)]
  show k48.M w base ok xs[j] (((cellsE xs).drop (j * 3)).take 3)
  rw [e]
  exact k48_mkM _ _ _ _
theorem R_of_cellsE {w : World} {base : Nat} {ok : Nat → Prop} {v : Value} {xs : List S48} (ho : w.ownsRow base 48 3 v xs.length (cellsE xs)) (hok : ∀ k, v.ownBlock = some k → ok k) : Kd.R k48 48 w base ok v xs := ⟨hok, cellsE xs, ho, edit_reps _ _ _ _⟩
end Go.Proofs.YtohdmmafjpjmfaaGreatDoor.Q
end
section
namespace Go.Proofs.YtohdmmafjpjmfaaGreatDoor.Q
open Go.Proofs.YtohdmmafjpjmfaaGreatDoor.QB.D
open Go Go.RowKit Go.Maps Go.Lib Go.Proofs.YtohdmmafjpjmfaaGreatDoorW.PrintWords Go.Proofs.YtohdmmafjpjmfaaGreatDoorW.PrintLast Go.Proofs.YtohdmmafjpjmfaaGreatDoorW.PrintMore Gw
set_option linter.unusedVariables false
set_option linter.unusedSimpArgs false
theorem run_copy_wide {P : Program} (w : World) (dT sT ty elem : TypeId) (g n dCap sCap size : Nat) (ad : Addr) (cur : Array Value) (t : TypeId) (cs : List Value)
    (hu : P.underlying dT = some (.slice elem)) (hs : (P.info? elem).map (·.size) = some size) (hg : w.heap[g]? = some (.cells cur t (0, 0))) (hn : cs.length = n * size)
    (hsrc : ∀ j v, cs[j]? = some v → w.cell? (ad.add j) = some v) (hfit : cs.length ≤ cur.size) (h1 : ∀ v ∈ cs, v.oneCell' = true) :
    (Builtin.copy_ #[dT, sT] ty #[.slice (some ⟨g, 0, none⟩) n dCap, .slice (some ad) n sCap]).run P w = .ok (goInt n) (w.setRow g (cs ++ cur.toList.drop cs.length).toArray) := by
  have hl := run_loadCells_list (P := P) w ad cs hsrc
  have hst := run_storeCells_at P g 0 t cs 0 cur w hg (by simpa using hfit) h1
  simp only [Nat.zero_add, List.take_zero, List.nil_append, Nat.add_zero] at hst
  cases hq : P.info? elem with
  | none => simp [hq] at hs
  | some i =>
    have hi : i.size = size := by simpa [hq] using hs
    simp [Builtin.copy_, run_underlying hu, Builtin.lenOf, Builtin.firstCells, sizeOf, typeInfo, hq, hi, ← hn, hl, hst]
theorem run_copy_zero {P : Program} (w : World) (dT sT ty elem : TypeId) (A B : Option Addr) (dCap sCap size : Nat) (hu : P.underlying dT = some (.slice elem)) (hs : (P.info? elem).map (·.size) = some size) :
    (Builtin.copy_ #[dT, sT] ty #[.slice B 0 dCap, .slice A 0 sCap]).run P w = .ok (goInt 0) w := by
  cases hq : P.info? elem with
  | none => simp [hq] at hs
  | some i =>
    cases A <;> cases B <;> simp [Builtin.copy_, run_underlying hu, Builtin.lenOf, Builtin.firstCells, sizeOf, typeInfo, hq, loadCells, loadCellsFrom, storeCells]
def turnE (x : S48) : S48 := ⟨x.f0, -x.f1⟩
def turned (l : List S48) (i : Nat) : List S48 := (l.take i).map turnE ++ l.drop i
theorem cellsE_turn (A B : List S48) (x : S48) (v : Int) (T : List Value) : (cellsE (A ++ x :: B) ++ T).set (A.length * 3 + 2) (.int .i64 v) = cellsE (A ++ ⟨x.f0, v⟩ :: B) ++ T := by
  have h1 : ∀ y : S48, cellsE (A ++ y :: B) = cellsE A ++ (cellE y ++ cellsE B) := fun y => by rw [cellsE_append]; rfl
  rw [h1, h1, List.append_assoc, List.append_assoc, List.set_append_right _ _ (by rw [cellsE_len]; omega), cellsE_len]
  rw [show A.length * 3 + 2 - A.length * 3 = 2 by omega, List.append_assoc, List.append_assoc]
  rfl
theorem turned_len (l : List S48) (i : Nat) : (turned l i).length = l.length := by unfold turned; rw [List.length_append, List.length_map, List.length_take, List.length_drop]; omega
theorem turned_step (l : List S48) (i : Nat) (h : i < l.length) (T : List Value) : (cellsE (turned l i) ++ T).set (i * 3 + 2) (.int .i64 (-l[i].f1)) = cellsE (turned l (i + 1)) ++ T ∧ (cellsE (turned l i) ++ T)[i * 3 + 2]? = some (.int .i64 l[i].f1) := by
  have e1 : turned l i = (l.take i).map turnE ++ l[i] :: l.drop (i + 1) := by unfold turned; rw [List.drop_eq_getElem_cons h]
  have e2 : turned l (i + 1) = (l.take i).map turnE ++ turnE l[i] :: l.drop (i + 1) := by unfold turned; rw [List.take_succ_eq_append_getElem h, List.map_append, List.append_assoc]; rfl
  have hl : ((l.take i).map turnE).length = i := by rw [List.length_map, List.length_take]; omega
  constructor
  · have := cellsE_turn ((l.take i).map turnE) (l.drop (i + 1)) l[i] (-l[i].f1) T
    rw [hl] at this
    rw [e1, e2]
    exact this
  · rw [List.getElem?_append_left (by rw [cellsE_len, turned_len]; omega), cellsE_get, show (i * 3 + 2) / 3 = i by omega, show (i * 3 + 2) % 3 = 2 by omega, e1, List.getElem?_append_right (by omega), hl, Nat.sub_self]
    rfl
theorem C_cellsE {w : World} {A : Option Addr} {xs : List S48} (h : Kd.C k48 w A xs.length xs) : ∀ b, A = some b → ∀ j u, (cellsE xs)[j]? = some u → w.cell? (b.add j) = some u := by
  intro b hb j u hu
  rw [cellsE_get] at hu
  obtain ⟨x, hx, hu⟩ := Option.bind_eq_some_iff.1 hu
  obtain ⟨hl, hxx⟩ := List.getElem?_eq_some_iff.1 hx
  obtain ⟨ad, e, hc⟩ := h.2.2 (by omega)
  rw [hb] at e
  injection e with e
  subst e
  obtain ⟨c, hcl, hk, hcell⟩ := hc (j / 3) x hx
  have ho := k48_open hk
  subst ho
  have hs : k48.sz = 3 := rfl
  rw [hs] at hcell
  have := hcell (j % 3) u hu
  rwa [show j / 3 * 3 + j % 3 = j by omega] at this
theorem rowE {W : World} {base : Nat} {ok : Nat → Prop} {v : Value} {xs : List S48} (h : Kd.R k48 48 W base ok v xs) (hp : 0 < xs.length) : ∃ (g cap : Nat) (cur : Array Value), v = .slice (some ⟨g, 0, none⟩) xs.length cap ∧ base ≤ g ∧ W.heap[g]? = some (.cells cur 48 (0, 0)) ∧ xs.length ≤ cap ∧ cap ≤ maxLen ∧ cur.size = cap * 3 := by
  obtain ⟨_, inner, ho, _⟩ := h
  have hs : k48.sz = 3 := rfl
  rw [hs] at ho
  rcases ho.2 with ⟨_, h0⟩ | ⟨g, cap, cur, hv, hb, hg, hn, hc, hz, _⟩
  · omega
  · exact ⟨g, cap, cur, hv, hb, hg, hn, hc, hz⟩
set_option maxHeartbeats 8000000 in
set_option maxRecDepth 100000 in
theorem turn_go (A0 : Option Addr) (c0 : Nat) (l0 : List S48) (w : World) (hr0 : Kd.C k48 w A0 l0.length l0) (hc0 : l0.length ≤ c0) (hl0 : l0.length ≤ 65536) (ht0 : ∀ x ∈ l0, TinyN x.f0) (hpos : 0 < l0.length) (hch : checkE l0 = true) :
    Calls Tryz.prog 51 #[.slice A0 l0.length c0] w fun e w' => ∃ v, e = .returned (.tuple #[v, .int .i64 0]) ∧ Kd.R k48 48 w' w.heap.size (fun _ => True) v (l0.map turnE) ∧ Below w.heap.size w w' := by
  have hu35 := Tryz.underlying48
  obtain ⟨K, hK⟩ : ∃ K, 65536 + 4294967320 ≤ K := ⟨_, Nat.le_refl _⟩
  have e0 := checkE_val l0 (by omega) ht0 K (by omega)
  rw [hch] at e0
  have CK0 := diff_Check.calls K A0 c0 l0 _ w hr0 hc0 e0
  obtain ⟨ad, eA, _⟩ := at_T48 hr0 0 (by omega) (by omega)
  subst eA
  have HR0 := Aside0.mk hr0
  have hbnd : ∀ (i : Nat) (h : i < l0.length), -1099511627776 ≤ l0[i].f1 ∧ l0[i].f1 ≤ 1099511627776 := fun i h => (edE_ok ht0 hch _ (List.getElem_mem h)).2
  have HBND := Aside0.mk hbnd
  have hl1 : (l0.length : Int) ≤ 65536 := by omega
  have hone : ∀ u ∈ cellsE l0, u.oneCell' = true := fun u hu => by
    unfold cellsE at hu
    obtain ⟨x, _, hx⟩ := List.mem_flatMap.1 hu
    simp only [cellE, List.mem_cons, List.not_mem_nil, or_false] at hx
    rcases hx with rfl | rfl | rfl <;> rfl
  have HONE := Aside0.mk hone
  clear hr0 ht0 e0 hch hbnd hK hone
  go_enter Tryz.func51, Tryz.ntmps51
  go_wp2_with fail
  refine CK0.mono ?_
  rintro e w1 ⟨rfl, hb1⟩
  have HB1 := Aside0.mk hb1
  clear hb1 CK0
  simp only [okV]
  go_wp2_with (first
    | (refine Kd.R_make k48 (w0 := w) w.heap.size 48 rfl (N := 14) rfl 22 (.tmp 13) (.tmp 13) rfl (l0.length : Int) rfl rfl Tryz.underlying22 (.agg #[(.string ⟨#[]⟩), (.string ⟨#[]⟩), (.int .i64 0)]) 40 info48 rfl (by decide) (by omega) ⟨⟨⟨#[]⟩, ⟨#[]⟩⟩, 0⟩ (ok := fun _ => True) (okp := fun _ => False) ?aP (fun _ h => h.elim) trivial ?aN ?aL ?aB ?aS ?_; (case aP => exact k48_mkM _ _ _ ⟨⟨⟨#[]⟩, ⟨#[]⟩⟩, 0⟩); (case aN => omega); (case aL => simp; omega); (case aB => exact HB1.out); (case aS => exact HB1.out.size); intro v2 w2 hR2 hb2 _ _; obtain ⟨gg, gc, cur, hvv, hgb, hg, hnc, hcap, hcs⟩ := rowE hR2 (by simp; omega); rw [List.length_replicate, Int.toNat_natCast] at hvv; rw [List.length_replicate, Int.toNat_natCast] at hnc; subst hvv;
        have hcr := run_copy_wide (P := Tryz.prog) w2 22 22 3 48 gg l0.length gc c0 3 ad cur 48 (cellsE l0) Tryz.underlying22 rfl hg (cellsE_len l0) (C_cellsE (Kd.C_below HR0.out hb2) ad rfl) (by rw [cellsE_len]; omega) HONE.out;
        obtain ⟨T, hT⟩ : ∃ T, T = cur.toList.drop (cellsE l0).length := ⟨_, rfl⟩; rw [← hT] at hcr;
        have HBK := Aside0.mk (setRow_heap w2 gg cur (cellsE l0 ++ T).toArray 48 (0, 0) hg); have HB3 := Aside0.mk (below_setRow hb2 hgb (cellsE l0 ++ T).toArray);
        obtain ⟨W3, hW3⟩ : ∃ W3, W3 = w2.setRow gg (cellsE l0 ++ T).toArray := ⟨_, rfl⟩; rw [← hW3] at hcr HBK HB3;
        have HT : Aside0 (T.length = (gc - l0.length) * 3) := ⟨by rw [hT, List.length_drop, cellsE_len, Array.length_toList, hcs, Nat.sub_mul]⟩; clear hR2 hb2 hT hW3 hg hcs)
    | (at_builtin; refine Lib.wpList_copy_run _ rfl _ _ 22 22 rfl _ _ rfl rfl hcr ?_)
    | fail)
  go_loopw [20] (fun v20 wr => ∃ i : Nat, i ≤ l0.length ∧ v20 = .int .i64 (i : Int) ∧ Aside0 (wr.heap[gg]? = some (.cells (cellsE (turned l0 i) ++ T).toArray 48 (0, 0))) ∧ Aside0 (Below w.heap.size w wr)) (fun v20 _ => l0.length - (RowKit.intOf v20).toNat)
  case atStart => exact ⟨0, Nat.zero_le _, rfl, by simpa [turned] using HBK, HB3⟩
  case round =>
    clear HBK HB3 hcr
    obtain ⟨i, hi, rfl, HBK, HB⟩ := hrel
    by_cases hil : i < l0.length
    · have j1 : (i : Int) < (l0.length : Int) := by omega
      have hdi : decide ((i : Int) < (l0.length : Int)) = true := decide_eq_true j1
      have hst := turned_step l0 i hil T
      have hb := HBND.out i hil
      obtain ⟨y, hy⟩ : ∃ y, y = l0[i].f1 := ⟨_, rfl⟩
      rw [← hy] at hst hb
      have n2 : wr.cell? ⟨gg, i * 3 + 2, none⟩ = some (.int .i64 y) := (blk_cell HBK.out _).trans (by simpa using hst.2)
      have f2 := blk_frozen HBK.out (i * 3 + 2)
      have hwn : IntKind.i64.wrap (-y) = -y := by rw [IntKind.wrap_i64]; omega
      have HBK2 : Aside0 ((wr.setCell ⟨gg, i * 3 + 2, none⟩ (.int .i64 (-y))).heap[gg]? = some (.cells (cellsE (turned l0 (i + 1)) ++ T).toArray 48 (0, 0))) := ⟨by rw [blk_set HBK.out (i * 3 + 2) (.int .i64 (-y)), ← hst.1]; simp⟩
      have HB2 := Aside0.mk (below_set (W := wr) (g := gg) (j := i * 3 + 2) (v := .int .i64 (-y)) HB.out hgb)
      clear hst hb hy
      go_wp2
      go_roundw
      case rel => exact ⟨i + 1, by omega, by go_num, HBK2, HB2⟩
      case measure => simp [RowKit.intOf]; omega
    · obtain rfl : i = l0.length := by omega
      have hdi : decide ((l0.length : Int) < (l0.length : Int)) = false := decide_eq_false (by omega)
      have hfin : turned l0 l0.length = l0.map turnE := by unfold turned; rw [List.take_length, List.drop_length, List.append_nil]
      have hrow : Kd.R k48 48 wr w.heap.size (fun _ => True) (.slice (some ⟨gg, 0, none⟩) l0.length gc) (l0.map turnE) := by
        have hb := HBK.out
        rw [hfin] at hb
        refine R_of_cellsE ?_ (fun _ _ => trivial)
        rw [List.length_map]
        have hl : (cellsE (l0.map turnE)).length = l0.length * 3 := by rw [cellsE_len, List.length_map]
        refine ⟨hl, Or.inr ⟨gg, gc, _, rfl, hgb, hb, hnc, hcap, ?_, ?_⟩⟩
        · simp only [List.size_toArray, List.length_append]
          rw [hl, HT.out]
          have := Nat.sub_mul gc l0.length 3
          have := Nat.mul_le_mul_right 3 hnc
          omega
        · simp only []
          rw [← hl, List.take_left]
      have HROW := Aside0.mk hrow
      clear hfin hrow
      go_wp2
      go_ret2
      exact ⟨_, rfl, HROW.out, HB.out⟩
def diff_Turn.f (l : List S48) : Option (List S48 × Int) := if l.length ≤ 65536 ∧ (∀ x ∈ l, TinyN x.f0) then some (if checkE l = true then (l.map turnE, 0) else ([], 1)) else none
set_option maxHeartbeats 4000000 in
theorem turn_no (A0 : Option Addr) (c0 : Nat) (l0 : List S48) (w : World) (hr0 : Kd.C k48 w A0 l0.length l0) (hc0 : l0.length ≤ c0) (hl0 : l0.length ≤ 65536) (ht0 : ∀ x ∈ l0, TinyN x.f0) (hch : checkE l0 = false) :
    Calls Tryz.prog 51 #[.slice A0 l0.length c0] w fun e w' => ∃ v, e = .returned (.tuple #[v, .int .i64 1]) ∧ Kd.R k48 48 w' w.heap.size (fun _ => True) v [] ∧ Below w.heap.size w w' := by
  obtain ⟨K, hK⟩ : ∃ K, 65536 + 4294967320 ≤ K := ⟨_, Nat.le_refl _⟩
  have e0 := checkE_val l0 (by omega) ht0 K (by omega)
  rw [hch] at e0
  have CK0 := diff_Check.calls K A0 c0 l0 _ w hr0 hc0 e0
  clear hr0 ht0 e0 hch hK
  go_enter Tryz.func51, Tryz.ntmps51
  go_wp2_with fail
  refine CK0.mono ?_
  rintro e w1 ⟨rfl, hb1⟩
  have HB1 := Aside0.mk hb1
  clear hb1 CK0
  simp only [okV]
  go_wp2
  go_ret2
  exact ⟨_, rfl, Kd.R_nil _ _ _ _ _, HB1.out⟩
set_option maxHeartbeats 4000000 in
set_option maxRecDepth 100000 in
theorem turn_nil (A0 : Option Addr) (c0 : Nat) (w : World) :
    Calls Tryz.prog 51 #[.slice A0 0 c0] w fun e w' => ∃ v, e = .returned (.tuple #[v, .int .i64 0]) ∧ Kd.R k48 48 w' w.heap.size (fun _ => True) v [] ∧ Below w.heap.size w w' := by
  have hu35 := Tryz.underlying48
  obtain ⟨K, hK⟩ : ∃ K, 65536 + 4294967320 ≤ K := ⟨_, Nat.le_refl _⟩
  have e0 := checkE_val [] (by simp) (fun x h => by cases h) K (by simp; omega)
  have CK0 := diff_Check.calls K A0 c0 [] _ w ⟨rfl, by simp, fun h => by simp at h⟩ (Nat.zero_le _) e0
  clear e0 hK
  go_enter Tryz.func51, Tryz.ntmps51
  go_wp2_with fail
  refine CK0.mono ?_
  rintro e w1 ⟨rfl, hb1⟩
  have HB1 := Aside0.mk hb1
  clear hb1 CK0
  simp only [okV, checkE, chkE]
  go_wp2_with (first
    | (refine Kd.R_make k48 (w0 := w) w.heap.size 48 rfl (N := 14) rfl 22 (.tmp 13) (.tmp 13) rfl (0 : Int) rfl rfl Tryz.underlying22 (.agg #[(.string ⟨#[]⟩), (.string ⟨#[]⟩), (.int .i64 0)]) 40 info48 rfl (by decide) (by omega) ⟨⟨⟨#[]⟩, ⟨#[]⟩⟩, 0⟩ (ok := fun _ => True) (okp := fun _ => False) ?aP (fun _ h => h.elim) trivial ?aN ?aL ?aB ?aS ?_; (case aP => exact k48_mkM _ _ _ ⟨⟨⟨#[]⟩, ⟨#[]⟩⟩, 0⟩); (case aN => omega); (case aL => simp); (case aB => exact HB1.out); (case aS => exact HB1.out.size); intro v2 w2 hR2 hb2 _ _; have HR2 := Aside0.mk hR2; have HB2 := Aside0.mk hb2; obtain ⟨Ag, cg, eg⟩ := Kd.R_slice HR2.out; subst eg; have hcp := run_copy_zero (P := Tryz.prog) w2 22 22 3 48 A0 Ag cg c0 3 Tryz.underlying22 rfl; clear hR2 hb2)
    | (at_builtin; refine Lib.wpList_copy_run _ rfl _ _ 22 22 rfl _ _ rfl rfl hcp ?_)
    | fail)
  have hd0 : decide ((0 : Int) < (0 : Int)) = false := rfl
  go_loopw [20] (fun v20 wr => v20 = .int .i64 0 ∧ wr = w2) (fun v20 _ => 0)
  case atStart => exact ⟨rfl, rfl⟩
  case round =>
    obtain ⟨rfl, rfl⟩ := hrel
    go_wp2
    go_ret2
    exact ⟨_, rfl, HR2.out, HB2.out⟩
theorem diff_Turn.calls (A0 : Option Addr) (c0 : Nat) (l0 : List S48) (r1 : List S48) (r2 : Int) (w : World) (hr0 : Kd.C k48 w A0 l0.length l0) (hc0 : l0.length ≤ c0) (h : diff_Turn.f l0 = some (r1, r2)) :
    Calls Tryz.prog 51 #[.slice A0 l0.length c0] w fun e w' => ∃ v, e = .returned (.tuple #[v, .int .i64 r2]) ∧ Kd.R k48 48 w' w.heap.size (fun _ => True) v r1 ∧ Below w.heap.size w w' := by
  unfold diff_Turn.f at h
  split at h
  · rename_i g
    injection h with h
    cases hch : checkE l0
    · rw [hch, if_neg (by decide)] at h
      injection h with h1 h2
      subst h1 h2
      exact turn_no A0 c0 l0 w hr0 hc0 g.1 g.2 hch
    · rw [hch, if_pos rfl] at h
      injection h with h1 h2
      subst h1 h2
      cases l0 with
      | nil => exact turn_nil A0 c0 w
      | cons x r => exact turn_go A0 c0 (x :: r) w hr0 hc0 g.1 g.2 (by simp) hch
  · cases h
end Go.Proofs.YtohdmmafjpjmfaaGreatDoor.Q
end
section
namespace Go.Proofs.YtohdmmafjpjmfaaGreatDoor.Q
open Go.RowKit Go.Proofs.YtohdmmafjpjmfaaGreatDoorW.PrintWords Go.Proofs.YtohdmmafjpjmfaaGreatDoorW.PrintLast Go.Proofs.YtohdmmafjpjmfaaGreatDoorW.PrintMore
attribute [local go_sem] max2_int min2_int max_two min_two max_three min_three max_four min_four   -- for this text's walks alone
set_option linter.unusedVariables false
set_option linter.unusedSimpArgs false
def diff_Count.f (l0 : List (S34)) : Option ((List (S48)) × Int) := (diff_Diff.f ([] : List (S34)) l0).bind fun bt277 => (some (bt277.1, bt277.2))
set_option maxHeartbeats 8000000 in
set_option maxRecDepth 100000 in
theorem diff_Count.calls (A0 : Option Addr) (c0 : Nat) (l0 : List (S34)) (r1 : List (S48)) (r2 : Int) (w : World) (hr0 : Kd.C k34 w A0 l0.length l0) (hc0 : l0.length ≤ c0) (h : diff_Count.f l0 = some (r1, r2)) :
  Calls Tryz.prog 47 #[.slice A0 l0.length c0] w fun e w' => ∃ v0_ : Value, e = .returned (.tuple #[v0_, .int .i64 r2]) ∧ Kd.R k48 48 w' w.heap.size (fun _ => True) v0_ r1 ∧ Below w.heap.size w w' := by
 have HR0 := Aside0.mk hr0
 have HC0 := Aside0.mk hc0
 clear hr0 hc0
 have HB := Aside0.mk (Below.refl w.heap.size w)
 have H : ((diff_Diff.f ([] : List (S34)) l0).bind fun bt277 => (some (bt277.1, bt277.2))) = some (r1, r2) := h
 clear h
 replace H := Option.bind_eq_some_iff.mp H
 obtain ⟨⟨t277, t278⟩, A20, H⟩ := H
 replace H : (some (t277, t278)) = some (r1, r2) := H
 have A2 := Aside0.mk A20
 clear A20
 simp only [Option.some.injEq, Prod.mk.injEq] at H
 obtain ⟨rfl, rfl⟩ := H
 go_enter Tryz.func47, Tryz.ntmps47
 go_wp2_with (first | ((with_reducible refine gate_callee (f := 64) rfl ?_); refine goesL_ (some 5) rfl rfl Tryz.func64 (by kernel_rfl) rfl #[.slice none 0 0, .slice A0 l0.length c0] rfl (by (try simp only [List.map_toArray, List.map_cons, List.map_nil]); first | done | rfl | (simp only [List.length_drop, List.length_take]; rfl)) ?_; (refine (diff_Diff.calls _ _ ([] : List (S34)) _ _ l0 t277 t278 _ ?side1 ?side2 ?side3 ?side4 A2.out).mono ?_); (case side1 => exact Kd.C_nil _ _); (case side2 => exact Nat.le_refl _); (case side3 => repeat (first | exact HR0.out | (with_reducible refine Kd.C_alloc ?_ _) | (with_reducible refine Kd.C_drewN ?_ _) | (with_reducible refine Kd.C_drew ?_))); (case side4 => exact HC0.out); rintro e w3 ⟨v279, rfl, ho0, hb⟩; refine ⟨_, rfl, ?_⟩; have n0_ := Aside0.mk (Kd.R_lower ho0 (below_size (by repeat (first | (with_reducible first | exact HB.out | apply below_alloc | apply pw_below_drewN | apply below_drew1) | exact HB.out)))); have n1_ := Aside0.mk (below_step (by repeat (first | (with_reducible first | exact HB.out | apply below_alloc | apply pw_below_drewN | apply below_drew1) | exact HB.out)) hb); clear HB; have HO280 := n0_; have HB := n1_; clear n0_ n1_; (try clear hb); (try clear hb2); (try clear hk); (try clear hi); (try clear ho0)))
 go_ret2
 exact ⟨_, by first | rfl | (simp [errW_none, errW_some] <;> rfl) | (simp [*, errW_none, errW_some] <;> rfl), by (with_reducible repeat (first | apply Kd.R_alloc | apply Kd.R_drewN | apply Kd.R_drew)); exact HO280.out, by repeat (first | (with_reducible first | exact HB.out | apply below_alloc | apply pw_below_drewN | apply below_drew1) | exact HB.out)⟩
end Go.Proofs.YtohdmmafjpjmfaaGreatDoor.Q
end
section
namespace Go.Proofs.YtohdmmafjpjmfaaGreatDoor.Q
open Go.Proofs.YtohdmmafjpjmfaaGreatDoor.QB.D
open Go Go.RowKit Go.Lib
set_option linter.unusedVariables false
def cntN : List S34 → S34 → Int
  | [], _ => 0
  | y :: r, x => (if y = x then 1 else 0) + cntN r x
theorem cntN_cons (y : S34) (r : List S34) (x : S34) : cntN (y :: r) x = (if y = x then 1 else 0) + cntN r x := rfl
theorem cntN_append (a b : List S34) (x : S34) : cntN (a ++ b) x = cntN a x + cntN b x := by
  induction a with
  | nil => simp [cntN]
  | cons y r ih => rw [List.cons_append, cntN_cons, cntN_cons, ih]; omega
theorem look_bump (m : List (S34 × Int)) (x y : S34) (v : Int) : (lookC (bumpC m x v) y).getD 0 = (lookC m y).getD 0 + (if x = y then v else 0) := by
  unfold bumpC
  rw [lookC_put]
  by_cases e : y = x
  · rw [if_pos e, if_pos e.symm, e]; rfl
  · rw [if_neg e, if_neg (fun h => e h.symm)]; omega
theorem look_count (v : Int) : ∀ (l : List S34) (m : List (S34 × Int)) (x : S34), (lookC (countC m l v) x).getD 0 = (lookC m x).getD 0 + v * cntN l x
  | [], m, x => by simp [countC, cntN]
  | y :: r, m, x => by
    have h : countC m (y :: r) v = countC (bumpC m y v) r v := rfl
    rw [h, look_count v r, look_bump, cntN_cons, Int.mul_add]
    split <;> simp <;> omega
theorem look_diff (l m : List S34) (x : S34) : (lookC (diffC l m) x).getD 0 = cntN m x - cntN l x := by
  unfold diffC
  rw [look_count, look_count]
  have : (lookC [] x).getD 0 = 0 := by simp [lookC]
  rw [this]
  omega
theorem keys_bump (m : List (S34 × Int)) (x y : S34) (v : Int) : y ∈ (bumpC m x v).map (·.1) ↔ y ∈ m.map (·.1) ∨ y = x := by
  unfold bumpC
  rw [putC_keys]
  split
  · rename_i h
    exact ⟨Or.inl, fun h2 => h2.elim id (fun e => e ▸ h)⟩
  · rw [List.mem_append, List.mem_singleton]
theorem keys_count (v : Int) : ∀ (l : List S34) (m : List (S34 × Int)) (y : S34), y ∈ (countC m l v).map (·.1) ↔ y ∈ m.map (·.1) ∨ y ∈ l
  | [], m, y => by simp [countC]
  | x :: r, m, y => by
    have h : countC m (x :: r) v = countC (bumpC m x v) r v := rfl
    rw [h, keys_count v r, keys_bump, List.mem_cons, or_assoc]
theorem keys_diff (l m : List S34) (y : S34) : y ∈ (diffC l m).map (·.1) ↔ y ∈ l ∨ y ∈ m := by
  unfold diffC
  rw [keys_count, keys_count]
  simp
theorem diffV_same {l m : List S34} (h : ∀ x, cntN l x = cntN m x) : diffV l m = [] := by
  unfold diffV editsF
  rw [List.filter_eq_nil_iff.2 (fun x hx => by rw [look_diff, h x]; simp)]
  rfl
theorem cntN_range (l : List S34) (x : S34) : 0 ≤ cntN l x ∧ cntN l x ≤ l.length := by
  induction l with
  | nil => simp [cntN]
  | cons y r ih => rw [cntN_cons, List.length_cons]; split <;> omega
theorem sorted_is {l : List S34} (hn : l.Nodup) (hm : ∀ x ∈ l, TinyN x ∧ mayN x = true) : IsSet (sortN l) := by
  have hg : ∀ x ∈ sortN l, TinyN x ∧ mayN x = true := fun x hx => hm x ((sortN_perm _).mem_iff.1 hx)
  have hs := sortN_sorted l (fun x hx => mayN_good (hm x hx).1 (hm x hx).2)
  refine ⟨fun x hx => mayN_good (hg x hx).1 (hg x hx).2, fun x hx => (hg x hx).2, ?_⟩
  have hnd := (sortN_perm l).nodup_iff.2 hn
  exact (List.pairwise_and_iff.2 ⟨hs, hnd⟩).imp_of_mem (fun {x y} hx hy h => by
    have := (ordN_to.eq x y (mayN_good (hg x hx).1 (hg x hx).2) (mayN_good (hg y hy).1 (hg y hy).2)).1
    rcases Int.lt_or_eq_of_le h.1 with h1 | h1
    · exact h1
    · exact absurd (this h1) h.2)
end Go.Proofs.YtohdmmafjpjmfaaGreatDoor.Q
end
