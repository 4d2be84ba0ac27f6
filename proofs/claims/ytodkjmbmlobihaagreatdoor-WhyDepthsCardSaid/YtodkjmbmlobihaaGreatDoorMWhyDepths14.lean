/- Part 14 of this claim: several texts one behind the other: YChain, PDist, PChn, YSort, YDeps, EvWa, EvWt, EvWb. What each shows stands in its theorems; conditions: sizes of texts and lists, as the functions' definitions say. -/
import Derived.Test.YtodkjmbmlobihaaGreatDoorMWhyDepths11
import Derived.Test.YtodkjmbmlobihaaGreatDoorMWhyDepths6
import Derived.Test.YtodkjmbmlobihaaGreatDoorMWhyDepths9
import Derived.Test.YtodkjmbmlobihaaGreatDoorMWhyDepths7
import Derived.Test.YtodkjmbmlobihaaGreatDoorMWhyDepths13
import Derived.Sort.KeysCollected
import Derived.Test.YtodkjmbmlobihaaGreatDoorMWhyDepths12
import Derived.Maps.RangeWalk
section
namespace Go.Proofs.YtodkjmbmlobihaaGreatDoor.Q
open Go.Proofs.YtodkjmbmlobihaaGreatDoor.QB.D
open Go Go.RowKit Go.Maps Go.Lib Go.Proofs.YtodkjmbmlobihaaGreatDoorW.PrintWords Go.Proofs.YtodkjmbmlobihaaGreatDoorW.PrintLast Go.Proofs.YtodkjmbmlobihaaGreatDoorW.PrintMore Gw
set_option linter.unusedVariables false
set_option linter.unusedSimpArgs false
abbrev BriefE (x : S49) : Prop := Brief x.f0 ∧ Brief x.f1
def isParF (out : List (S24 × Nat)) (i : Nat) (y : S24) (e : S49) : Bool := decide (e.f1 = y) && decide ((lookF out e.f0).getD 0 = i + 1)
def parF (l : List S49) (out : List (S24 × Nat)) (i : Nat) (y : S24) : List S24 := (l.filter (isParF out i y)).map (·.f0)
def chainF (l : List S49) (out : List (S24 × Nat)) : Nat → S24 → Option (List S24)
 | 0, y => some [y]
 | i + 1, y => if parF l out i y ≠ [] ∧ (parF l out i y).all mayN = true then (chainF l out i (minL (parF l out i y))).map (· ++ [y]) else none
def why_Chain.f (l : List S49) (a b : ByteArray) : Option (List S24 × Int) :=
 if l.length ≤ 65536 ∧ (∀ x ∈ l, BriefE x) ∧ Brief ⟨a, b⟩ then
  if okE l = true then
   if mayN ⟨a, b⟩ = true then
    (depF l (l.length + 2) 1 [z24] []).bind fun out => match lookF out ⟨a, b⟩ with
     | none => some ([], 11)
     | some d => if 1 ≤ d ∧ d ≤ 65540 then (chainF l out (d - 1) ⟨a, b⟩).map (fun c => (c, 0)) else none
   else some ([], 1)
  else some ([], 1)
 else none
theorem eql_node (w : World) (x y : S24) : (binOp .eql 24 (.agg #[.string x.f0, .string x.f1]) (.agg #[.string y.f0, .string y.f1])).run Tryz.prog w = .ok (.bool (decide (x = y))) w := by
 have h := eqA24 9998 w x.f0 y.f0 x.f1 y.f1
 rw [node_eqb] at h
 simp only [binOp]
 simp [Op.equal, Op.maxDepth, h]
theorem rep_set {α : Type} (n : Nat) (z y : α) (tail : List α) : (List.replicate (n + 1) z ++ tail).set n y = List.replicate n z ++ y :: tail := by
 rw [List.replicate_succ', List.append_assoc, List.set_append_right _ _ (by simp)]
 simp
theorem chainF_succ {l : List S49} {out : List (S24 × Nat)} {i : Nat} {y : S24} {tail c : List S24} (h : (chainF l out (i + 1) y).map (· ++ tail) = some c) :
 parF l out i y ≠ [] ∧ (parF l out i y).all mayN = true ∧ (chainF l out i (minL (parF l out i y))).map (· ++ (y :: tail)) = some c := by
 unfold chainF at h
 split at h
 ·rename_i hc
  refine ⟨hc.1, hc.2, ?_⟩
  rw [Option.map_map] at h
  rw [← h]
  congr 1
  funext q
  simp
 ·cases h
theorem parF_take (l : List S49) (out : List (S24 × Nat)) (i : Nat) (y : S24) (j : Nat) (hj : j < l.length) : ((l.take (j + 1)).filter (isParF out i y)).map (·.f0) = if isParF out i y l[j] = true then ((l.take j).filter (isParF out i y)).map (·.f0) ++ [l[j].f0] else ((l.take j).filter (isParF out i y)).map (·.f0) := by
 rw [List.take_succ_eq_append_getElem hj, List.filter_append, List.map_append]
 split
 ·rename_i h; rw [List.filter_cons_of_pos h]; rfl
 ·rename_i h; rw [List.filter_cons_of_neg h]; simp
set_option maxHeartbeats 8000000 in
set_option maxRecDepth 100000 in
theorem chain_bad (A0 : Option Addr) (c0 : Nat) (l0 : List S49) (a b : ByteArray) (w : World) (hr0 : Kd.C k49 w A0 l0.length l0) (hc0 : l0.length ≤ c0) (hl : l0.length ≤ 65536) (hb : ∀ x ∈ l0, BriefE x) (hk : okE l0 = false) :
 Calls Tryz.prog 8 #[.slice A0 l0.length c0, .agg #[.string a, .string b]] w fun e w' => ∃ v, e = .returned (.tuple #[v, .int .i64 1]) ∧ Kd.R k24 24 w' w.heap.size (fun _ => True) v [] ∧ Below w.heap.size w w' := by
 have hu24 := Tryz.underlying24
 have hK : lack_Check.f l0 = some 1 := by
  have h : lack_Check.f l0 = some (kI (okE l0)) := if_pos ⟨by omega, fun x hx => ⟨(hb x hx).1.tiny, (hb x hx).2.tiny⟩⟩
  rw [hk] at h; exact h
 have CK := fun (W : World) (h : Kd.C k49 W A0 l0.length l0) => lack_Check.calls A0 c0 l0 1 W h hc0 hK
 have HR0 := Aside0.mk hr0
 clear hr0 hb hK hk
 go_enter Tryz.func8, Tryz.ntmps8
 go_wp2_with fail
 refine (CK _ (Kd.C_alloc HR0.out _)).mono ?_
 rintro e w1 ⟨rfl, hb1⟩
 have HB1 : Aside0 (Below w.heap.size w w1) := ⟨(below_alloc (Below.refl _ _) _).trans (hb1.mono (by simp))⟩
 clear hb1 CK
 go_wp2
 go_ret2
 exact ⟨_, rfl, Kd.R_nil _ _ _ _ _, HB1.out⟩
set_option maxHeartbeats 8000000 in
set_option maxRecDepth 100000 in
theorem chain_not (A0 : Option Addr) (c0 : Nat) (l0 : List S49) (a b : ByteArray) (w : World) (hr0 : Kd.C k49 w A0 l0.length l0) (hc0 : l0.length ≤ c0) (hl : l0.length ≤ 65536) (hb : ∀ x ∈ l0, BriefE x) (hk : okE l0 = true) (ht : Brief ⟨a, b⟩) (hm : mayN ⟨a, b⟩ = false) :
 Calls Tryz.prog 8 #[.slice A0 l0.length c0, .agg #[.string a, .string b]] w fun e w' => ∃ v, e = .returned (.tuple #[v, .int .i64 1]) ∧ Kd.R k24 24 w' w.heap.size (fun _ => True) v [] ∧ Below w.heap.size w w' := by
 have hu24 := Tryz.underlying24
 have hK : lack_Check.f l0 = some 0 := by
  have h : lack_Check.f l0 = some (kI (okE l0)) := if_pos ⟨by omega, fun x hx => ⟨(hb x hx).1.tiny, (hb x hx).2.tiny⟩⟩
  rw [hk] at h; exact h
 have CK := fun (W : World) (h : Kd.C k49 W A0 l0.length l0) => lack_Check.calls A0 c0 l0 0 W h hc0 hK
 have m0 := node_May_val 500 ⟨a, b⟩ ht.tiny (by have := ht.1; simp only [] at *; omega)
 rw [hm] at m0
 have CM := fun w => node_May.calls 500 a b false w m0
 have HR0 := Aside0.mk hr0
 clear hr0 hb hK hk ht hm m0
 go_enter Tryz.func8, Tryz.ntmps8
 go_wp2_with fail
 refine (CK _ (Kd.C_alloc HR0.out _)).mono ?_
 rintro e w1 ⟨rfl, hb1⟩
 have HB1 : Aside0 (Below w.heap.size w w1) := ⟨(below_alloc (Below.refl _ _) _).trans (hb1.mono (by simp))⟩
 have n0 : w1.cell? ⟨w.heap.size, 0, none⟩ = some (.string a) := (hb1.cell (p := ⟨w.heap.size, 0, none⟩) (by simp)).trans (by simp [go_sem])
 have n1 : w1.cell? ⟨w.heap.size, 1, none⟩ = some (.string b) := (hb1.cell (p := ⟨w.heap.size, 1, none⟩) (by simp)).trans (by simp [go_sem])
 clear hb1 CK
 go_wp2_with fail
 refine (CM _).mono ?_
 rintro e w2 ⟨rfl, hb2⟩
 have HB2 : Aside0 (Below w.heap.size w w2) := ⟨HB1.out.trans (hb2.mono HB1.out.size)⟩
 clear hb2 CM
 go_wp2
 go_ret2
 exact ⟨_, rfl, Kd.R_nil _ _ _ _ _, HB2.out⟩
set_option maxHeartbeats 8000000 in
set_option maxRecDepth 100000 in
theorem chain_none (A0 : Option Addr) (c0 : Nat) (l0 : List S49) (a b : ByteArray) (w : World) (hr0 : Kd.C k49 w A0 l0.length l0) (hc0 : l0.length ≤ c0) (hl : l0.length ≤ 65536) (hb : ∀ x ∈ l0, BriefE x) (hk : okE l0 = true) (ht : Brief ⟨a, b⟩) (hm : mayN ⟨a, b⟩ = true)
 (out : List (S24 × Nat)) (hout : depF l0 (l0.length + 2) 1 [z24] [] = some out) (hn : lookF out ⟨a, b⟩ = none) :
 Calls Tryz.prog 8 #[.slice A0 l0.length c0, .agg #[.string a, .string b]] w fun e w' => ∃ v, e = .returned (.tuple #[v, .int .i64 11]) ∧ Kd.R k24 24 w' w.heap.size (fun _ => True) v [] ∧ Below w.heap.size w w' := by
 have hu24 := Tryz.underlying24
 have hK : lack_Check.f l0 = some 0 := by
  have h : lack_Check.f l0 = some (kI (okE l0)) := if_pos ⟨by omega, fun x hx => ⟨(hb x hx).1.tiny, (hb x hx).2.tiny⟩⟩
  rw [hk] at h; exact h
 have CK := fun (W : World) (h : Kd.C k49 W A0 l0.length l0) => lack_Check.calls A0 c0 l0 0 W h hc0 hK
 have m0 := node_May_val 500 ⟨a, b⟩ ht.tiny (by have := ht.1; simp only [] at *; omega)
 rw [hm] at m0
 have CM := fun w => node_May.calls 500 a b true w m0
 have hns : ∀ x ∈ l0, NS x.f0 ∧ NS x.f1 := fun x hx => by have := hb x hx; unfold NS maxLen; omega
 have CD := fun (W : World) (h : Kd.C k49 W A0 l0.length l0) => depths_calls A0 c0 l0 W h hl hns (l0.length + 2) (by omega) out hout
 have hnt : NS ⟨a, b⟩ := by have := ht.1; have := ht.2; unfold NS maxLen; simp only [] at *; omega
 have hkey := keyOf_node ⟨a, b⟩ hnt.1 hnt.2
 simp only [] at hkey
 have HR0 := Aside0.mk hr0
 have HN := Aside0.mk hn
 have HNT := Aside0.mk hnt
 clear hr0 hb hK hk ht hm m0 hns hout hn hnt
 go_enter Tryz.func8, Tryz.ntmps8
 go_wp2_with fail
 refine (CK _ (Kd.C_alloc HR0.out _)).mono ?_
 rintro e w1 ⟨rfl, hb1⟩
 have HB1 : Aside0 (Below w.heap.size w w1) := ⟨(below_alloc (Below.refl _ _) _).trans (hb1.mono (by simp))⟩
 have n0 : w1.cell? ⟨w.heap.size, 0, none⟩ = some (.string a) := (hb1.cell (p := ⟨w.heap.size, 0, none⟩) (by simp)).trans (by simp [go_sem])
 have n1 : w1.cell? ⟨w.heap.size, 1, none⟩ = some (.string b) := (hb1.cell (p := ⟨w.heap.size, 1, none⟩) (by simp)).trans (by simp [go_sem])
 have hz1 : w.heap.size + 1 ≤ w1.heap.size := by have := hb1.size; simp at this; omega
 clear hb1 CK
 go_wp2_with fail
 refine (CM _).mono ?_
 rintro e w2 ⟨rfl, hb2⟩
 have HB2 : Aside0 (Below w.heap.size w w2) := ⟨HB1.out.trans (hb2.mono HB1.out.size)⟩
 have p0 := (hb2.cell (p := ⟨w.heap.size, 0, none⟩) hz1).trans n0
 have p1 := (hb2.cell (p := ⟨w.heap.size, 1, none⟩) hz1).trans n1
 have hz2 : w.heap.size + 1 ≤ w2.heap.size := Nat.le_trans hz1 hb2.size
 clear hb2 CM n0 n1
 go_wp2_with fail
 refine (CD _ (Kd.C_below HR0.out HB2.out)).mono ?_
 rintro e w3 ⟨gm, nm, D, rfl, hgm, hM, hD, hb3⟩
 have HB3 : Aside0 (Below w.heap.size w w3) := ⟨HB2.out.trans (hb3.mono HB2.out.size)⟩
 have q0 := (hb3.cell (p := ⟨w.heap.size, 0, none⟩) hz2).trans p0
 have q1 := (hb3.cell (p := ⟨w.heap.size, 1, none⟩) hz2).trans p1
 have HM := Aside0.mk hM
 have HD := Aside0.mk hD
 have hhas : Maps.has D (nkey ⟨a, b⟩) = false := by rw [HD.out.has _ HNT.out, HN.out]; rfl
 have HHAS := Aside0.mk hhas
 clear hM hD hb3 CD p0 p1 hhas
 go_wp2_with (first
  | (at_lookup; refine wpList_lookup_own_ok_int _ rfl _ _ 52 rfl 24 3 .i64 law_node Tryz.underlying52 Tryz.underlying3 (zero_int _) gm nm D rfl HM.out _ _ rfl hkey ?_; intro cq hat hwc; rw [HHAS.out]; clear hat hwc)
  | fail)
 go_ret2
 exact ⟨_, rfl, Kd.R_nil _ _ _ _ _, HB3.out⟩
set_option maxHeartbeats 8000000 in
set_option maxRecDepth 100000 in
theorem chain_go (A0 : Option Addr) (c0 : Nat) (l0 : List S49) (a b : ByteArray) (w : World) (hr0 : Kd.C k49 w A0 l0.length l0) (hc0 : l0.length ≤ c0) (hl : l0.length ≤ 65536) (hb : ∀ x ∈ l0, BriefE x) (hk : okE l0 = true) (ht : Brief ⟨a, b⟩) (hm : mayN ⟨a, b⟩ = true)
 (out : List (S24 × Nat)) (hout : depF l0 (l0.length + 2) 1 [z24] [] = some out) (d : Nat) (hd2 : d ≤ 65539) (hn : lookF out ⟨a, b⟩ = some (d + 1)) (c : List S24) (hc : chainF l0 out d ⟨a, b⟩ = some c) :
 Calls Tryz.prog 8 #[.slice A0 l0.length c0, .agg #[.string a, .string b]] w fun e w' => ∃ v, e = .returned (.tuple #[v, .int .i64 0]) ∧ Kd.R k24 24 w' w.heap.size (fun _ => True) v c ∧ Below w.heap.size w w' := by
 have hu24 := Tryz.underlying24
 have hK : lack_Check.f l0 = some 0 := by
  have h : lack_Check.f l0 = some (kI (okE l0)) := if_pos ⟨by omega, fun x hx => ⟨(hb x hx).1.tiny, (hb x hx).2.tiny⟩⟩
  rw [hk] at h; exact h
 have CK := fun (W : World) (h : Kd.C k49 W A0 l0.length l0) => lack_Check.calls A0 c0 l0 0 W h hc0 hK
 have m0 := node_May_val 500 ⟨a, b⟩ ht.tiny (by have := ht.1; simp only [] at *; omega)
 rw [hm] at m0
 have CM := fun w => node_May.calls 500 a b true w m0
 have hns : ∀ x ∈ l0, NS x.f0 ∧ NS x.f1 := fun x hx => by have := hb x hx; unfold NS maxLen; omega
 have CD := fun (W : World) (h : Kd.C k49 W A0 l0.length l0) => depths_calls A0 c0 l0 W h hl hns (l0.length + 2) (by omega) out hout
 have hnt : NS ⟨a, b⟩ := by have := ht.1; have := ht.2; unfold NS maxLen; simp only [] at *; omega
 have hkey := keyOf_node ⟨a, b⟩ hnt.1 hnt.2
 simp only [] at hkey
 have HR0 := Aside0.mk hr0
 have HN := Aside0.mk hn
 have HNT := Aside0.mk hnt
 have HBE := Aside0.mk hb
 have HC := Aside0.mk hc
 clear hr0 hb hK hk ht hm m0 hns hout hn hnt hc
 go_enter Tryz.func8, Tryz.ntmps8
 go_wp2_with fail
 refine (CK _ (Kd.C_alloc HR0.out _)).mono ?_
 rintro e w1 ⟨rfl, hb1⟩
 have HB1 : Aside0 (Below w.heap.size w w1) := ⟨(below_alloc (Below.refl _ _) _).trans (hb1.mono (by simp))⟩
 have n0 : w1.cell? ⟨w.heap.size, 0, none⟩ = some (.string a) := (hb1.cell (p := ⟨w.heap.size, 0, none⟩) (by simp)).trans (by simp [go_sem])
 have n1 : w1.cell? ⟨w.heap.size, 1, none⟩ = some (.string b) := (hb1.cell (p := ⟨w.heap.size, 1, none⟩) (by simp)).trans (by simp [go_sem])
 have hz1 : w.heap.size + 1 ≤ w1.heap.size := by have := hb1.size; simp at this; omega
 clear hb1 CK
 go_wp2_with fail
 refine (CM _).mono ?_
 rintro e w2 ⟨rfl, hb2⟩
 have HB2 : Aside0 (Below w.heap.size w w2) := ⟨HB1.out.trans (hb2.mono HB1.out.size)⟩
 have p0 := (hb2.cell (p := ⟨w.heap.size, 0, none⟩) hz1).trans n0
 have p1 := (hb2.cell (p := ⟨w.heap.size, 1, none⟩) hz1).trans n1
 have hz2 : w.heap.size + 1 ≤ w2.heap.size := Nat.le_trans hz1 hb2.size
 clear hb2 CM n0 n1
 go_wp2_with fail
 refine (CD _ (Kd.C_below HR0.out HB2.out)).mono ?_
 rintro e w3 ⟨gm, nm, D, rfl, hgm, hM, hD, hb3⟩
 have HB3 : Aside0 (Below w.heap.size w w3) := ⟨HB2.out.trans (hb3.mono HB2.out.size)⟩
 have q0 := (hb3.cell (p := ⟨w.heap.size, 0, none⟩) hz2).trans p0
 have q1 := (hb3.cell (p := ⟨w.heap.size, 1, none⟩) hz2).trans p1
 have HM := Aside0.mk hM
 have HBX := Aside0.mk hb3.size
 have HD := Aside0.mk hD
 have hhas : Maps.has D (nkey ⟨a, b⟩) = true := by rw [HD.out.has _ HNT.out, HN.out]; rfl
 have HHAS := Aside0.mk hhas
 clear hM hD hb3 CD p0 p1 hhas
 have hz3 : w.heap.size + 1 ≤ w3.heap.size := Nat.le_trans hz2 HBX.out
 go_wp2_with (first
  | (at_lookup; refine wpList_lookup_own_ok_int _ rfl _ _ 52 rfl 24 3 .i64 law_node Tryz.underlying52 Tryz.underlying3 (zero_int _) gm nm D rfl HM.out _ _ rfl hkey ?_; intro cq hat hwc; obtain rfl : cq = (d : Int) + 1 := (by have h9 := hat.symm.trans (HD.out.at_ _ HNT.out); rw [HN.out] at h9; simp at h9; omega); rw [HHAS.out]; clear hat hwc)
  | ((with_reducible refine gate_dst (N := 33) rfl ?_); refine Kd.R_make k24 (w0 := w) w.heap.size 24 rfl (N := 33) rfl 31 (.tmp 32) (.tmp 32) rfl ((d : Int) + 1) rfl rfl Tryz.underlying31 (.agg #[(.string ⟨#[]⟩), (.string ⟨#[]⟩)]) 32 info24 rfl (by decide) (by omega) z24 (ok := fun j => j ≠ w.heap.size ∧ j ≠ gm) (okp := fun _ => False) ?mz (fun _ h => h.elim) ?mf ?m0 ?ml ?mB ?mS ?_; (case mz => exact k24_mkM _ _ _ z24); (case mf => exact ⟨by omega, by have := HM.out.lt; omega⟩); (case m0 => omega); (case ml => omega); (case mB => exact HB3.out); (case mS => exact HB3.out.size); intro v33 w33 ho33 hb33 hg33 hat33; rw [show ((d : Int) + 1).toNat = d + 1 by omega] at ho33; obtain ⟨gb, cb, hv33, hgb1, hgb2, cbs, hcb⟩ := Kd.R_form ho33 (by rw [List.length_replicate]; omega); rw [List.length_replicate] at hv33; subst hv33; have HO33 := Aside0.mk ho33; have HB33 := Aside0.mk hb33; have HM33 := Aside0.mk (HM.out.kept hg33 (by simp)); have hrc := rowcells ho33 d (by simp); have e0_ := hrc.1; have e1_ := hrc.2; have f0_ := blk_frozen hcb (d * 2); have f1_ := blk_frozen hcb (d * 2 + 1); have HCB := Aside0.mk hcb; have r0_ := hg33.cell q0 (by simp); have r1_ := hg33.cell q1 (by simp); clear ho33 hb33 hg33 hat33 hcb hrc)
  | fail)
 have hst := store_node HO33.out d (by simp) ⟨a, b⟩
 have hgo := HO33.out.1 gb (by simp [Value.ownBlock])
 have hset : (List.replicate (d + 1) z24).set d ⟨a, b⟩ = List.replicate d z24 ++ [⟨a, b⟩] := by have h9 := rep_set d z24 (⟨a, b⟩ : S24) []; rw [List.append_nil] at h9; exact h9
 rw [hset] at hst
 have HO34 := Aside0.mk hst.1
 have HM34 := Aside0.mk (HM33.out.kept hst.2 (by intro e; injection e with e; exact hgo.2 e.symm))
 have HB34 := Aside0.mk (below_set (below_set HB33.out hgb1 (j := d * 2) (v := .string a)) hgb1 (j := d * 2 + 1) (v := .string b))
 have hz34 : w.heap.size + 1 ≤ ((w33.setCell ⟨gb, d * 2, none⟩ (.string a)).setCell ⟨gb, d * 2 + 1, none⟩ (.string b)).heap.size := by simp; omega
 have HGO := Aside0.mk hgo
 clear hst hset HO33 HM33 HB33 hgo e0_ e1_ f0_ f1_ HCB r0_ r1_
 go_loopw [10] (fun v10 wr => ∃ (i : Nat) (y : S24) (tail : List S24), v10 = .int .i64 ((i : Int) - 1) ∧ i ≤ d ∧ tail.length = d - i ∧ Aside0 ((chainF l0 out i y).map (· ++ tail) = some c) ∧ Aside0 (Kd.R k24 24 wr w.heap.size (fun j => j ≠ w.heap.size ∧ j ≠ gm) (.slice (some ⟨gb, 0, none⟩) (d + 1) cb) (List.replicate i z24 ++ y :: tail)) ∧ Aside0 (wr.ownsMap Tryz.prog 24 (plainElem (H := Unit) Tryz.prog 3) gm nm D) ∧ Aside0 (Below w.heap.size w wr) ∧ w.heap.size + 1 ≤ wr.heap.size) (fun v10 _ => (RowKit.intOf v10 + 1).toNat)
 case atStart => exact ⟨d, ⟨a, b⟩, [], by rw [show ((d : Int) + 1 - 2) = (d : Int) - 1 by omega], Nat.le_refl _, by simp, ⟨by rw [HC.out]; simp⟩, HO34, HM34, HB34, hz34⟩
 case round =>
  clear HO34 HM34 HB34 hz34
  obtain ⟨i, y, tail, rfl, hid, htl, HCH, HO, HM, HB, hws⟩ := hrel
  cases i with
  | zero =>
   have hcc : c = y :: tail := by have h := HCH.out; simp [chainF] at h; exact h.symm
   have HCC := Aside0.mk hcc
   clear hcc
   go_wp2
   go_ret2
   exact ⟨_, rfl, by have h := HO.out; rw [List.replicate_zero, List.nil_append, ← HCC.out] at h; exact Kd.R_mono h (fun _ _ => trivial), HB.out⟩
  | succ i =>
   obtain ⟨hP, hA, hch⟩ := chainF_succ HCH.out
   have HP := Aside0.mk hP
   have HA := Aside0.mk hA
   have HCH2 := Aside0.mk hch
   clear hP hA hch HCH
   have hv10 : (((i + 1 : Nat) : Int) - 1) = (i : Int) := by omega
   rw [hv10]
   clear hv10
   have hi0 : (0 : Int) ≤ (i : Int) := by omega
   go_wp2_with fail
   go_loopw [11, 47] (fun v11 v47 wr => ∃ j : Nat, j ≤ l0.length ∧ v47 = .int .i64 (j : Int) ∧ Aside0 (Kd.R k24 24 wr w.heap.size (fun k => k ≠ w.heap.size ∧ k ≠ gm ∧ k ≠ gb) v11 (((l0.take j).filter (isParF out i y)).map (·.f0))) ∧ Aside0 (Kd.R k24 24 wr w.heap.size (fun k => k ≠ w.heap.size ∧ k ≠ gm ∧ some k ≠ v11.ownBlock) (.slice (some ⟨gb, 0, none⟩) (d + 1) cb) (List.replicate (i + 1) z24 ++ y :: tail)) ∧ Aside0 (wr.ownsMap Tryz.prog 24 (plainElem (H := Unit) Tryz.prog 3) gm nm D) ∧ Aside0 (Below w.heap.size w wr) ∧ w.heap.size + 1 ≤ wr.heap.size) (fun _ v47 _ => l0.length - (RowKit.intOf v47).toNat)
   case atStart => exact ⟨0, Nat.zero_le _, rfl, ⟨Kd.R_nil _ _ _ _ _⟩, ⟨Kd.R_mono HO.out (fun j hj => ⟨hj.1, hj.2, by simp [Value.ownBlock]⟩)⟩, HM, HB, hws⟩
   case round =>
    clear HO HM HB hws
    obtain ⟨j, hj, rfl, HO, HR, HM, HB, hws⟩ := hrel
    by_cases hil : j < l0.length
    ·have j1 : (j : Int) < (l0.length : Int) := by omega
     have hdi : decide ((j : Int) < (l0.length : Int)) = true := decide_eq_true j1
     obtain ⟨x, hx⟩ : ∃ x, x = l0[j] := ⟨_, rfl⟩
     have hmem : x ∈ l0 := by rw [hx]; exact List.getElem_mem hil
     obtain ⟨ad, e0, hx0, hx1, hx2, hx3⟩ := at_T49 HR0.out (j : Int) (by omega) (by omega)
     have hrd : rd_T49 l0 (j : Int) = x := by rw [hx]; simp [rd_T49, List.getD_eq_getElem?_getD, List.getElem?_eq_getElem hil]
     rw [hrd, Int.toNat_natCast] at hx0 hx1 hx2 hx3
     cases e0
     replace hx0 := (HB.out.cell (World.block_lt_of_cell? w _ hx0)).trans hx0
     replace hx1 := (HB.out.cell (World.block_lt_of_cell? w _ hx1)).trans hx1
     replace hx2 := (HB.out.cell (World.block_lt_of_cell? w _ hx2)).trans hx2
     replace hx3 := (HB.out.cell (World.block_lt_of_cell? w _ hx3)).trans hx3
     have hbx := HBE.out x hmem
     have hns0 : NS x.f0 := by have := hbx.1; unfold NS maxLen; omega
     have hkx := keyOf_node x.f0 hns0.1 hns0.2
     have hpt := parF_take l0 out i y j hil
     rw [← hx] at hpt
     have HPT := Aside0.mk hpt
     have hlen2 : (((l0.take j).filter (isParF out i y)).map (·.f0)).length ≤ 65536 := by
      rw [List.length_map]; exact Nat.le_trans (List.length_filter_le _ _) (by rw [List.length_take]; omega)
     clear hx hrd hmem hbx hpt
     have HM5 := Aside0.mk (HM.out.alloc (.cells #[.string x.f0.f0, .string x.f0.f1, .string x.f1.f0, .string x.f1.f1] 49 (0, 0)))
     have HB5 := Aside0.mk (below_alloc HB.out (.cells #[.string x.f0.f0, .string x.f0.f1, .string x.f1.f0, .string x.f1.f1] 49 (0, 0)))
     have HO5 := Aside0.mk (Kd.R_alloc HO.out (.cells #[.string x.f0.f0, .string x.f0.f1, .string x.f1.f0, .string x.f1.f1] 49 (0, 0)))
     have HR5 := Aside0.mk (Kd.R_alloc HR.out (.cells #[.string x.f0.f0, .string x.f0.f1, .string x.f1.f0, .string x.f1.f1] 49 (0, 0)))
     have hrc := rowcells HR5.out (i + 1) (by simp)
     have hyg : (List.replicate (i + 1) z24 ++ y :: tail)[i + 1]'(by simp) = y := by rw [List.getElem_append_right (by simp)]; simp
     rw [hyg] at hrc
     have y0 := hrc.1
     have y1 := hrc.2
     have n0 : (wr.alloc (.cells #[.string x.f0.f0, .string x.f0.f1, .string x.f1.f0, .string x.f1.f1] 49 (0, 0))).cell? ⟨wr.heap.size, 0, none⟩ = some (.string x.f0.f0) := by simp [go_sem]
     have n1 : (wr.alloc (.cells #[.string x.f0.f0, .string x.f0.f1, .string x.f1.f0, .string x.f1.f1] 49 (0, 0))).cell? ⟨wr.heap.size, 1, none⟩ = some (.string x.f0.f1) := by simp [go_sem]
     have n2 : (wr.alloc (.cells #[.string x.f0.f0, .string x.f0.f1, .string x.f1.f0, .string x.f1.f1] 49 (0, 0))).cell? ⟨wr.heap.size, 2, none⟩ = some (.string x.f1.f0) := by simp [go_sem]
     have n3 : (wr.alloc (.cells #[.string x.f0.f0, .string x.f0.f1, .string x.f1.f0, .string x.f1.f1] 49 (0, 0))).cell? ⟨wr.heap.size, 3, none⟩ = some (.string x.f1.f1) := by simp [go_sem]
     have i1 : (i : Int) + 1 < (d : Int) + 1 := by omega
     have i2 : (0 : Int) ≤ (i : Int) + 1 := by omega
     have i3 : ((i : Int) + 1).toNat = i + 1 := by omega
     have hw1 : IntKind.i64.wrap ((i : Int) + 1) = (i : Int) + 1 := by rw [IntKind.wrap_i64]; omega
     have i4 : i < d := by omega
     have i5 : (i : Int) < (d : Int) := by omega
     have hEQ := fun w => eql_node w x.f1 y
     clear hrc hyg
     have mixed : Tryz.prog.follows Departure.mixedOrders = true := by kernel_rfl
     by_cases he : x.f1 = y
     ·have hq1 : decide (x.f1 = y) = true := decide_eq_true he
      simp only [hq1] at hEQ
      obtain ⟨q, hq⟩ : ∃ q, q = (lookF out x.f0).getD 0 := ⟨_, rfl⟩
      have hlk : ∀ m, (Instr.lookup 52 (.map (some gm)) (.agg #[.string x.f0.f0, .string x.f0.f1]) false).run Tryz.prog ((wr.alloc (.cells #[.string x.f0.f0, .string x.f0.f1, .string x.f1.f0, .string x.f1.f1] 49 (0, 0))).drewN m) = .ok (.int .i64 (q : Int)) ((wr.alloc (.cells #[.string x.f0.f0, .string x.f0.f1, .string x.f1.f0, .string x.f1.f1] 49 (0, 0))).drewN m) := by
       intro m
       obtain ⟨c9, hrun, hat, _⟩ := (show ((wr.alloc (.cells #[.string x.f0.f0, .string x.f0.f1, .string x.f1.f0, .string x.f1.f1] 49 (0, 0))).drewN m).ownsMap Tryz.prog 24 (plainElem (H := Unit) Tryz.prog 3) gm nm D from HM5.out).lookup_int law_node Tryz.underlying52 Tryz.underlying3 (zero_int _) hkx
       have h9 := hat.symm.trans (HD.out.at_ _ hns0)
       rw [← hq] at h9
       obtain rfl : c9 = (q : Int) := by simpa using h9
       exact hrun
      by_cases hqi : q = i + 1
      ·have hpf : isParF out i y x = true := by unfold isParF; rw [hq1, ← hq, decide_eq_true hqi]; rfl
       have HPF := Aside0.mk hpf
       have hqc : ((q : Int) == (i : Int) + 1) = true := by rw [beq_iff_eq]; omega
       clear hpf he hqi hq
       go_wp2_with fail
       go_quiet (fail)
       have m0 : ((wr.alloc (.cells #[.string x.f0.f0, .string x.f0.f1, .string x.f1.f0, .string x.f1.f1] 49 (0, 0))).drewN nq).cell? ⟨wr.heap.size, 0, none⟩ = some (.string x.f0.f0) := n0
       have m1 : ((wr.alloc (.cells #[.string x.f0.f0, .string x.f0.f1, .string x.f1.f0, .string x.f1.f1] 49 (0, 0))).drewN nq).cell? ⟨wr.heap.size, 1, none⟩ = some (.string x.f0.f1) := n1
       have HM6 : Aside0 (((wr.alloc (.cells #[.string x.f0.f0, .string x.f0.f1, .string x.f1.f0, .string x.f1.f1] 49 (0, 0))).drewN nq).ownsMap Tryz.prog 24 (plainElem (H := Unit) Tryz.prog 3) gm nm D) := ⟨HM5.out⟩
       have HO6 := Aside0.mk (Kd.R_drewN HO5.out nq)
       have HR6 := Aside0.mk (Kd.R_drewN HR5.out nq)
       have HB6 := Aside0.mk (pw_below_drewN HB5.out nq)
       have hz6 : wr.heap.size + 1 ≤ ((wr.alloc (.cells #[.string x.f0.f0, .string x.f0.f1, .string x.f1.f0, .string x.f1.f1] 49 (0, 0))).drewN nq).heap.size := by simp
       clear HM5 HO5 HR5 HB5 n0 n1 n2 n3 y0 y1 hlk
       generalize (wr.alloc (.cells #[.string x.f0.f0, .string x.f0.f1, .string x.f1.f0, .string x.f1.f1] 49 (0, 0))).drewN nq = W5 at *
       have hgm5 := HM6.out.lt
       have hgb5 := Kd.R_lt HR6.out gb (by simp [Value.ownBlock])
       go_wp2_with (first
        | ((with_reducible refine gate_builtin (b := .append) (xs := #[.tmp 68, .tmp 71]) rfl ?_); at_builtin; refine Kd.R_append k24 (w0 := w) w.heap.size rfl (.tmp 68) (.tmp 71) 31 24 (.agg #[(.string ⟨#[]⟩), (.string ⟨#[]⟩)]) 32 rfl Tryz.underlying31 info24 rfl (by decide) (by omega) u11 (((l0.take j).filter (isParF out i y)).map (·.f0)) x.f0 [.string x.f0.f0, .string x.f0.f1] (fun k => k ≠ w.heap.size ∧ k ≠ gm ∧ k ≠ gb) (fun _ => False) rfl rfl ?aP (fun _ hk => hk.elim) ?aF ?aO ?aB ?aS ?aL ?_; (case aP => exact k24_mkM _ _ _ x.f0); (case aB => exact HB6.out); (case aF => exact (fun k hk => ⟨by omega, by omega, by omega⟩)); (case aO => exact HO6.out); (case aS => exact HB6.out.size); (case aL => omega); intro v9 w9 ho9 hb9 hg9 hat9)
        | fail)
       have HO9 := Aside0.mk ho9
       have HB9 := Aside0.mk hb9
       have HM9 := Aside0.mk (HM6.out.kept hg9 (Kd.R_away HO6.out (fun k hk => hk.2.1)))
       have HR9 : Aside0 (Kd.R k24 24 w9 w.heap.size (fun k => k ≠ w.heap.size ∧ k ≠ gm ∧ some k ≠ v9.ownBlock) (.slice (some ⟨gb, 0, none⟩) (d + 1) cb) (List.replicate (i + 1) z24 ++ y :: tail)) := ⟨Kd.R_mono (Kd.R_grown (Kd.R_bound HR6.out) hg9 (fun k hk => hk.1.2.2)) (fun k hk => ⟨hk.1.1, hk.1.2.1, fun e => by
        rcases hat9 with h | ⟨b9, h, h2⟩
        ·exact hk.1.2.2 (by rw [← h]; exact e)
        ·rw [h] at e; injection e with e; have := hk.2.2.1; omega⟩)⟩
       have hz9 := hg9.size
       clear ho9 hb9 hg9 hat9
       go_roundw
       case rel => exact ⟨j + 1, by omega, by go_num, ⟨by rw [HPT.out, HPF.out]; exact HO9.out⟩, HR9, HM9, HB9, by omega⟩
       case measure => simp [RowKit.intOf]; omega
      ·have hpf : isParF out i y x = false := by unfold isParF; rw [← hq, decide_eq_false hqi]; simp
       have HPF := Aside0.mk hpf
       have hqc : ((q : Int) == (i : Int) + 1) = false := by rw [beq_eq_false_iff_ne]; omega
       clear hpf he hqi hq
       go_wp2_with fail
       go_quiet (fail)
       go_wp2
       go_roundw
       case rel => exact ⟨j + 1, by omega, by go_num, ⟨by rw [HPT.out, HPF.out]; exact Kd.R_drewN HO5.out _⟩, ⟨Kd.R_drewN HR5.out _⟩, ⟨HM5.out⟩, ⟨pw_below_drewN HB5.out _⟩, by simp; omega⟩
       case measure => simp [RowKit.intOf]; omega
     ·have hq0 : decide (x.f1 = y) = false := decide_eq_false he
      simp only [hq0] at hEQ
      have hpf : isParF out i y x = false := by unfold isParF; rw [decide_eq_false he]; rfl
      have HPF := Aside0.mk hpf
      clear hpf he
      go_wp2_with fail
      go_quiet (fail)
      go_wp2
      go_roundw
      case rel => exact ⟨j + 1, by omega, by go_num, ⟨by rw [HPT.out, HPF.out]; exact Kd.R_drewN HO5.out _⟩, ⟨Kd.R_drewN HR5.out _⟩, ⟨HM5.out⟩, ⟨pw_below_drewN HB5.out _⟩, by simp; omega⟩
      case measure => simp [RowKit.intOf]; omega
    ·obtain rfl : j = l0.length := by omega
     have hdi : decide ((l0.length : Int) < (l0.length : Int)) = false := decide_eq_false (by omega)
     have ho := HO.out
     rw [List.take_length] at ho
     have HO2 : Aside0 (Kd.R k24 24 wr w.heap.size (fun k => k ≠ w.heap.size ∧ k ≠ gm ∧ k ≠ gb) u11 (parF l0 out i y)) := ⟨ho⟩
     clear ho HO
     obtain ⟨Al, cl, el⟩ := Kd.R_slice HO2.out
     subst el
     have hpb : ∀ x ∈ parF l0 out i y, Brief x ∧ mayN x = true := fun x hx => ⟨by
      obtain ⟨e, he, rfl⟩ := List.mem_map.1 hx
      exact (HBE.out e (List.mem_filter.1 he).1).1, List.all_eq_true.1 HA.out x hx⟩
     have hpl : (parF l0 out i y).length ≤ 65536 := by
      unfold parF; rw [List.length_map]; exact Nat.le_trans (List.length_filter_le _ _) hl
     have CMN := fun (W : World) (h : Kd.C k24 W Al (parF l0 out i y).length (parF l0 out i y)) => minF_calls Al cl (parF l0 out i y) W h hpl hpb HP.out
     obtain ⟨m, hm⟩ : ∃ m, m = minL (parF l0 out i y) := ⟨_, rfl⟩
     rw [← hm] at CMN
     have hch := HCH2.out
     rw [← hm] at hch
     have HCH3 := Aside0.mk hch
     clear hpb hpl hm hch
     go_wp2_with fail
     refine (CMN _ (Kd.R_reads' HO2.out).2.2).mono ?_
     rintro e w9 ⟨rfl, hb9⟩
     have HB9 : Aside0 (Below w.heap.size w w9) := ⟨below_step HB.out hb9⟩
     have HR9 := Aside0.mk (Kd.R_below HR.out hb9)
     have HM9 := Aside0.mk (HM.out.kept (grown_of_below hb9 none) (by simp))
     have hz9 := hb9.size
     have hrc := rowcells HR9.out i (by simp; omega)
     have c0_ := hrc.1
     have c1_ := hrc.2
     obtain ⟨g9, cap9, hv9, _, _, cells9, hc9⟩ := Kd.R_form HR9.out (by simp; omega)
     obtain rfl : gb = g9 := by injection hv9 with h1; injection h1 with h1; injection h1
     have f0_ := blk_frozen hc9 (i * 2)
     have f1_ := blk_frozen hc9 (i * 2 + 1)
     have i4 : i < d + 1 := by omega
     have i5 : (i : Int) < (d : Int) + 1 := by omega
     have HGB := Aside0.mk (Kd.R_base HR9.out gb (by simp [Value.ownBlock]))
     clear hrc hb9 CMN hc9 hv9
     go_wp2
     have hst := store_node HR9.out i (by simp; omega) m
     have hrs := rep_set i z24 m (y :: tail)
     rw [hrs] at hst
     go_roundw
     case rel => exact ⟨i, m, y :: tail, by first | rfl | go_num, by omega, by rw [List.length_cons]; omega, HCH3, ⟨Kd.R_mono hst.1 (fun k hk => ⟨hk.1, hk.2.1⟩)⟩, ⟨HM9.out.kept hst.2 (by intro e; injection e with e; exact HGO.out.2 e.symm)⟩, ⟨below_set (below_set HB9.out HGB.out (j := i * 2) (v := .string m.f0)) HGB.out (j := i * 2 + 1) (v := .string m.f1)⟩, by simp; omega⟩
     case measure => simp [RowKit.intOf] <;> omega
theorem why_Chain.calls (A0 : Option Addr) (c0 : Nat) (l0 : List S49) (a1_0 a1_1 : ByteArray) (r1 : List S24) (r2 : Int) (w : World) (hr0 : Kd.C k49 w A0 l0.length l0) (hc0 : l0.length ≤ c0) (h : why_Chain.f l0 a1_0 a1_1 = some (r1, r2)) :
 Calls Tryz.prog 8 #[.slice A0 l0.length c0, .agg #[.string a1_0, .string a1_1]] w fun e w' => ∃ v, e = .returned (.tuple #[v, .int .i64 r2]) ∧ Kd.R k24 24 w' w.heap.size (fun _ => True) v r1 ∧ Below w.heap.size w w' := by
 unfold why_Chain.f at h
 split at h
 case isFalse => cases h
 case isTrue hc =>
  obtain ⟨hl, hb, ht⟩ := hc
  by_cases hk : okE l0 = true
  ·rw [if_pos hk] at h
   by_cases hm : mayN ⟨a1_0, a1_1⟩ = true
   ·rw [if_pos hm] at h
    obtain ⟨out, ho, h⟩ := Option.bind_eq_some_iff.1 h
    cases hd : lookF out ⟨a1_0, a1_1⟩ with
    | none =>
     rw [hd] at h
     simp only [Option.some.injEq, Prod.mk.injEq] at h
     obtain ⟨rfl, rfl⟩ := h
     exact chain_none A0 c0 l0 a1_0 a1_1 w hr0 hc0 hl hb hk ht hm out ho hd
    | some d =>
     rw [hd] at h
     simp only [] at h
     split at h
     case isFalse => cases h
     case isTrue hdd =>
      obtain ⟨d, rfl⟩ : ∃ d', d = d' + 1 := ⟨d - 1, by omega⟩
      obtain ⟨c, hc, h⟩ := Option.map_eq_some_iff.1 h
      simp only [Prod.mk.injEq] at h
      obtain ⟨rfl, rfl⟩ := h
      rw [Nat.add_sub_cancel] at hc
      exact chain_go A0 c0 l0 a1_0 a1_1 w hr0 hc0 hl hb hk ht hm out ho d (by omega) hd c hc
   ·rw [if_neg hm] at h
    simp only [Option.some.injEq, Prod.mk.injEq] at h
    obtain ⟨rfl, rfl⟩ := h
    exact chain_not A0 c0 l0 a1_0 a1_1 w hr0 hc0 hl hb hk ht (by simpa using hm)
  ·rw [if_neg hk] at h
   simp only [Option.some.injEq, Prod.mk.injEq] at h
   obtain ⟨rfl, rfl⟩ := h
   exact chain_bad A0 c0 l0 a1_0 a1_1 w hr0 hc0 hl hb (by simpa using hk)
end Go.Proofs.YtodkjmbmlobihaaGreatDoor.Q
end
section
namespace Go.Proofs.YtodkjmbmlobihaaGreatDoor.Q
open Go.Proofs.YtodkjmbmlobihaaGreatDoor.QB.D
open Go Go.RowKit Go.Lib Go.Proofs.YtodkjmbmlobihaaGreatDoorW.PrintWords Go.Proofs.YtodkjmbmlobihaaGreatDoorW.PrintLast Go.Proofs.YtodkjmbmlobihaaGreatDoorW.PrintMore Gw
set_option linter.unusedVariables false
set_option linter.unusedSimpArgs false
def ReachF (l : List S49) : Nat → S24 → Prop
 | 0, x => x = z24
 | d + 1, y => ∃ e ∈ l, e.f1 = y ∧ ReachF l d e.f0
def DistF (l : List S49) (d : Nat) (y : S24) : Prop := ReachF l d y ∧ ∀ n, n < d → ¬ ReachF l n y
theorem dist_uniq {l : List S49} {d n : Nat} {y : S24} (h : DistF l d y) (h' : DistF l n y) : d = n := by
 rcases Nat.lt_trichotomy d n with e | e | e
 ·exact absurd h.1 (h'.2 d e)
 ·exact e
 ·exact absurd h'.1 (h.2 n e)
theorem reach_dist {l : List S49} : ∀ (d : Nat) {y : S24}, ReachF l d y → ∃ n, n ≤ d ∧ DistF l n y := by
 intro d
 induction d using Nat.strongRecOn with
 | _ d ih =>
  intro y h
  by_cases hx : ∃ n, n < d ∧ ReachF l n y
  ·obtain ⟨n, hn, hr⟩ := hx
   obtain ⟨m, hm, hd⟩ := ih n hn hr
   exact ⟨m, by omega, hd⟩
  ·exact ⟨d, Nat.le_refl _, h, fun n hn hr => hx ⟨n, hn, hr⟩⟩
theorem dist_step {l : List S49} {d : Nat} {y : S24} (h : DistF l (d + 1) y) : ∃ e ∈ l, e.f1 = y ∧ DistF l d e.f0 := by
 obtain ⟨e, he, hy, hr⟩ := h.1
 exact ⟨e, he, hy, hr, fun n hn hr2 => h.2 (n + 1) (by omega) ⟨e, he, hy, hr2⟩⟩
theorem dist_down {l : List S49} : ∀ (n : Nat) {y : S24} (m : Nat), DistF l n y → m ≤ n → ∃ x, DistF l m x := by
 intro n
 induction n with
 | zero => intro y m h hm; exact ⟨y, by rw [show m = 0 by omega]; exact h⟩
 | succ n ih =>
  intro y m h hm
  by_cases e : m = n + 1
  ·exact ⟨y, by rw [e]; exact h⟩
  ·obtain ⟨e, _, _, hd⟩ := dist_step h
   exact ih m hd (by omega)
theorem may_z : mayN z24 = false := by decide +kernel
theorem ok_each {l : List S49} (h : okE l = true) {e : S49} (he : e ∈ l) : mayN e.f1 = true ∧ (e.f0 = z24 ∨ mayN e.f0 = true) := by
 unfold okE at h
 have h1 : l.any badE = false := by simpa using h
 have h2 : badE e = false := by
  rw [List.any_eq_false] at h1
  simpa using h1 e he
 unfold badE at h2
 simp only [Bool.or_eq_false_iff, Bool.not_eq_false', Bool.and_eq_false_iff, decide_eq_true_eq] at h2
 exact h2
theorem dist_may {l : List S49} (h : okE l = true) {d : Nat} {y : S24} (hd : DistF l (d + 1) y) : mayN y = true := by
 obtain ⟨e, he, rfl, _⟩ := hd.1
 exact (ok_each h he).1
theorem reach0 {l : List S49} (h : okE l = true) {e : S49} (he : e ∈ l) : ¬ ReachF l 0 e.f1 := fun hr => by
 have h1 := (ok_each h he).1
 have h2 : e.f1 = z24 := hr
 rw [h2, may_z] at h1
 cases h1
theorem lookF_none_or (out : List (S24 × Nat)) (y : S24) : lookF out y = none ∨ ∃ n, lookF out y = some n := by
 cases lookF out y with
 | none => exact Or.inl rfl
 | some n => exact Or.inr ⟨n, rfl⟩
theorem foldF_spec (l : List S49) (d : Nat) (level : List S24) (out : List (S24 × Nat)) : ∀ i, i ≤ l.length →
 (∀ y m, lookF out y = some m → lookF ((l.take i).foldl (stepF d level) (out, [])).1 y = some m) ∧
 (∀ y, lookF out y = none → (∃ e ∈ l.take i, e.f1 = y ∧ e.f0 ∈ level) → lookF ((l.take i).foldl (stepF d level) (out, [])).1 y = some d) ∧
 (∀ y, lookF out y = none → ¬ (∃ e ∈ l.take i, e.f1 = y ∧ e.f0 ∈ level) → lookF ((l.take i).foldl (stepF d level) (out, [])).1 y = none) ∧
 (∀ y, y ∈ ((l.take i).foldl (stepF d level) (out, [])).2 ↔ lookF out y = none ∧ ∃ e ∈ l.take i, e.f1 = y ∧ e.f0 ∈ level) := by
 intro i
 induction i with
 | zero =>
  intro _
  refine ⟨fun y m h => h, fun y _ h => ?_, fun y h _ => h, fun y => ?_⟩
  ·obtain ⟨e, he, _⟩ := h; cases he
  ·constructor
   ·intro h; cases h
   ·rintro ⟨_, e, he, _⟩; cases he
 | succ i ih =>
  intro hi
  have hil : i < l.length := by omega
  obtain ⟨ia, ib, ic, id⟩ := ih (by omega)
  have hmem : ∀ y, (∃ e ∈ l.take (i + 1), e.f1 = y ∧ e.f0 ∈ level) ↔ (∃ e ∈ l.take i, e.f1 = y ∧ e.f0 ∈ level) ∨ (l[i].f1 = y ∧ l[i].f0 ∈ level) := by
   intro y
   rw [List.take_succ_eq_append_getElem hil]
   constructor
   ·rintro ⟨e, he, h⟩
    rcases List.mem_append.1 he with he | he
    ·exact Or.inl ⟨e, he, h⟩
    ·rw [List.mem_singleton] at he
     subst he
     exact Or.inr h
   ·rintro (⟨e, he, h⟩ | h)
    ·exact ⟨e, List.mem_append_left _ he, h⟩
    ·exact ⟨l[i], List.mem_append_right _ List.mem_cons_self, h⟩
  rw [foldF_take l d level (out, []) i hil]
  generalize (l.take i).foldl (stepF d level) (out, []) = st at ia ib ic id ⊢
  generalize l[i] = e at hmem ⊢
  unfold stepF
  by_cases hc : (lookF st.1 e.f1).isNone ∧ e.f0 ∈ level
  ·rw [if_pos hc]
   have hn : lookF st.1 e.f1 = none := Option.isNone_iff_eq_none.1 hc.1
   have hout : lookF out e.f1 = none := by
    rcases lookF_none_or out e.f1 with h | ⟨n, h⟩
    ·exact h
    ·rw [ia _ _ h] at hn; cases hn
   have hnp : ¬ ∃ e' ∈ l.take i, e'.f1 = e.f1 ∧ e'.f0 ∈ level := fun h => by rw [ib _ hout h] at hn; cases hn
   refine ⟨fun y m h => ?_, fun y h hp => ?_, fun y h hp => ?_, fun y => ?_⟩
   ·show lookF (st.1 ++ [(e.f1, d)]) y = _
    rw [lookF_snoc, ia y m h]; rfl
   ·show lookF (st.1 ++ [(e.f1, d)]) y = _
    rw [lookF_snoc]
    rcases (hmem y).1 hp with h2 | h2
    ·rw [ib y h h2]; rfl
    ·rw [← h2.1, hn, if_pos rfl]; rfl
   ·show lookF (st.1 ++ [(e.f1, d)]) y = _
    rw [lookF_snoc, ic y h (fun h2 => hp ((hmem y).2 (Or.inl h2))), if_neg (fun h2 => hp ((hmem y).2 (Or.inr ⟨h2.symm, hc.2⟩)))]; rfl
   ·show y ∈ st.2 ++ [e.f1] ↔ _
    rw [List.mem_append, List.mem_singleton, id y, hmem y]
    constructor
    ·rintro (⟨h1, h2⟩ | h)
     ·exact ⟨h1, Or.inl h2⟩
     ·subst h; exact ⟨hout, Or.inr ⟨rfl, hc.2⟩⟩
    ·rintro ⟨h1, h2 | h2⟩
     ·exact Or.inl ⟨h1, h2⟩
     ·exact Or.inr h2.1.symm
  ·rw [if_neg hc]
   have hold : ∀ y, lookF out y = none → (e.f1 = y ∧ e.f0 ∈ level) → ∃ e' ∈ l.take i, e'.f1 = y ∧ e'.f0 ∈ level := by
    intro y h h2
    refine Classical.byContradiction fun h3 => hc ⟨?_, h2.2⟩
    rw [h2.1, ic y h h3]; rfl
   refine ⟨fun y m h => ia y m h, fun y h hp => ?_, fun y h hp => ic y h (fun h2 => hp ((hmem y).2 (Or.inl h2))), fun y => ?_⟩
   ·rcases (hmem y).1 hp with h2 | h2
    ·exact ib y h h2
    ·exact ib y h (hold y h h2)
   ·rw [id y, hmem y]
    constructor
    ·rintro ⟨h1, h2⟩; exact ⟨h1, Or.inl h2⟩
    ·rintro ⟨h1, h2 | h2⟩
     ·exact ⟨h1, h2⟩
     ·exact ⟨h1, hold y h1 h2⟩
theorem filter_lt {α : Type} (p q : α → Bool) : ∀ (l : List α), (∀ x ∈ l, q x = true → p x = true) → (∃ x ∈ l, p x = true ∧ q x = false) → (l.filter q).length < (l.filter p).length
 | [], _, h => by obtain ⟨x, hx, _⟩ := h; cases hx
 | y :: r, hs, h => by
  have hs' : ∀ x ∈ r, q x = true → p x = true := fun x hx => hs x (List.mem_cons_of_mem _ hx)
  have hle : (r.filter q).length ≤ (r.filter p).length := by
   clear h hs
   induction r with
   | nil => exact Nat.le_refl _
   | cons u r ih =>
    have ih' := ih (fun x hx => hs' x (List.mem_cons_of_mem _ hx))
    have hu := hs' u List.mem_cons_self
    cases hq : q u with
    | true => rw [List.filter_cons_of_pos hq, List.filter_cons_of_pos (hu hq)]; simp only [List.length_cons]; omega
    | false =>
     rw [List.filter_cons_of_neg (by rw [hq]; decide)]
     cases hp : p u with
     | true => rw [List.filter_cons_of_pos hp]; simp only [List.length_cons]; omega
     | false => rw [List.filter_cons_of_neg (by rw [hp]; decide)]; exact ih'
  obtain ⟨x, hx, h1, h2⟩ := h
  have hy := hs y List.mem_cons_self
  rcases List.mem_cons.1 hx with e | e
  ·subst e
   rw [List.filter_cons_of_neg (by rw [h2]; decide), List.filter_cons_of_pos h1]
   simp only [List.length_cons]; omega
  ·have ih := filter_lt p q r hs' ⟨x, e, h1, h2⟩
   cases hq : q y with
   | true => rw [List.filter_cons_of_pos hq, List.filter_cons_of_pos (hy hq)]; simp only [List.length_cons]; omega
   | false =>
    rw [List.filter_cons_of_neg (by rw [hq]; decide)]
    cases hp : p y with
    | true => rw [List.filter_cons_of_pos hp]; simp only [List.length_cons]; omega
    | false => rw [List.filter_cons_of_neg (by rw [hp]; decide)]; exact ih
def unmet (l : List S49) (out : List (S24 × Nat)) : Nat := (l.filter (fun e => (lookF out e.f1).isNone)).length
theorem depF_spec {l : List S49} (hok : okE l = true) : ∀ (k d : Nat) (level : List S24) (out : List (S24 × Nat)), 1 ≤ d → (∀ y, y ∈ level ↔ DistF l (d - 1) y) → (∀ y n, lookF out y = some n ↔ 1 ≤ n ∧ n ≤ d - 1 ∧ DistF l n y) →
 (unmet l out + 2 ≤ k ∨ (level = [] ∧ 1 ≤ k)) → ∃ out', depF l k d level out = some out' ∧ (∀ y n, lookF out' y = some n ↔ 1 ≤ n ∧ DistF l n y) ∧ (∀ y n, lookF out' y = some n → n ≤ d + k) := by
 intro k
 induction k with
 | zero => intro d level out _ _ _ h; rcases h with h | h <;> omega
 | succ k ih =>
  intro d level out hd h1 h2 hk
  unfold depF
  by_cases hl : level = []
  ·rw [if_pos hl]
   refine ⟨out, rfl, fun y n => ?_, fun y n h => by have := ((h2 y n).1 h).2.1; omega⟩
   rw [h2 y n]
   constructor
   ·rintro ⟨a, _, b⟩; exact ⟨a, b⟩
   ·rintro ⟨a, b⟩
    refine ⟨a, ?_, b⟩
    refine Nat.not_lt.1 fun hc => ?_
    obtain ⟨x, hx⟩ := dist_down n (d - 1) b (by omega)
    have := (h1 x).2 hx
    rw [hl] at this
    cases this
  ·rw [if_neg hl]
   obtain ⟨fa, fb, fc, fd⟩ := foldF_spec l d level out l.length (Nat.le_refl _)
   rw [List.take_length] at fa fb fc fd
   have hr : roundF l d level out = l.foldl (stepF d level) (out, []) := rfl
   rw [hr]
   generalize l.foldl (stepF d level) (out, []) = st at fa fb fc fd ⊢
   have H1 : ∀ y, y ∈ st.2 ↔ DistF l d y := by
    intro y
    rw [fd y]
    constructor
    ·rintro ⟨hn, e, he, hy, hlev⟩
     have hd0 := (h1 _).1 hlev
     refine ⟨?_, fun n hn2 hr => ?_⟩
     ·rw [show d = (d - 1) + 1 by omega]; exact ⟨e, he, hy, hd0.1⟩
     ·obtain ⟨m, hm, hdm⟩ := reach_dist n hr
      cases m with
      | zero => exact reach0 hok he (by rw [hy]; exact hdm.1)
      | succ m =>
       have := (h2 y (m + 1)).2 ⟨by omega, by omega, hdm⟩
       rw [hn] at this
       cases this
    ·intro hdy
     rw [show d = (d - 1) + 1 by omega] at hdy
     obtain ⟨e, he, hy, hd0⟩ := dist_step hdy
     refine ⟨?_, e, he, hy, (h1 _).2 hd0⟩
     rcases lookF_none_or out y with h | ⟨n, h⟩
     ·exact h
     ·have h3 := (h2 y n).1 h
      have := dist_uniq h3.2.2 hdy
      omega
   have H2 : ∀ y n, lookF st.1 y = some n ↔ 1 ≤ n ∧ n ≤ d + 1 - 1 ∧ DistF l n y := by
    intro y n
    rw [Nat.add_sub_cancel]
    rcases lookF_none_or out y with h | ⟨m, h⟩
    ·by_cases hp : ∃ e ∈ l, e.f1 = y ∧ e.f0 ∈ level
     ·rw [fb y h hp]
      have hdy := (H1 y).1 ((fd y).2 ⟨h, hp⟩)
      constructor
      ·intro e; injection e with e; subst e; exact ⟨hd, Nat.le_refl _, hdy⟩
      ·rintro ⟨_, _, h3⟩; rw [dist_uniq hdy h3]
     ·rw [fc y h hp]
      constructor
      ·intro e; cases e
      ·rintro ⟨a, b, h3⟩
       exfalso
       by_cases hnd : n = d
       ·subst hnd
        exact hp ((fd y).1 ((H1 y).2 h3)).2
       ·have := (h2 y n).2 ⟨a, by omega, h3⟩
        rw [h] at this
        cases this
    ·rw [fa y m h]
     have h3 := (h2 y m).1 h
     constructor
     ·intro e; injection e with e; subst e; exact ⟨h3.1, by omega, h3.2.2⟩
     ·rintro ⟨_, _, h4⟩; rw [dist_uniq h3.2.2 h4]
   obtain ⟨out', g1, g2, g3⟩ := ih (d + 1) st.2 st.1 (by omega) (fun y => by rw [Nat.add_sub_cancel]; exact H1 y) H2 (by
    have hk2 : unmet l out + 2 ≤ k + 1 := by
     rcases hk with h | h
     ·exact h
     ·exact absurd h.1 hl
    by_cases hs : st.2 = []
    ·exact Or.inr ⟨hs, by omega⟩
    ·refine Or.inl ?_
     obtain ⟨y, hy⟩ := List.exists_mem_of_ne_nil _ hs
     obtain ⟨hn, e, he, hy1, hy2⟩ := (fd y).1 hy
     have : unmet l st.1 < unmet l out := by
      refine filter_lt _ _ l (fun x hx hq => ?_) ⟨e, he, ?_, ?_⟩
      ·rcases lookF_none_or out x.f1 with h | ⟨m, h⟩
       ·rw [h]; rfl
       ·rw [fa _ _ h] at hq; cases hq
      ·rw [hy1, hn]; rfl
      ·rw [hy1, fb y hn ⟨e, he, hy1, hy2⟩]; rfl
     omega)
   exact ⟨out', g1, g2, fun y n h => by have := g3 y n h; omega⟩
theorem depths_spec {l : List S49} (hok : okE l = true) : ∃ out, depF l (l.length + 2) 1 [z24] [] = some out ∧ (∀ y n, lookF out y = some n ↔ 1 ≤ n ∧ DistF l n y) ∧ (∀ y n, lookF out y = some n → n ≤ l.length + 3) := by
 obtain ⟨out, h1, h2, h3⟩ := depF_spec hok (l.length + 2) 1 [z24] [] (Nat.le_refl _) (fun y => by
  rw [List.mem_singleton]
  exact ⟨fun h => ⟨h, fun n hn => by omega⟩, fun h => h.1⟩) (fun y n => by
  constructor
  ·intro h; cases h
  ·rintro ⟨a, b, _⟩; omega) (Or.inl (by
  have : unmet l [] ≤ l.length := List.length_filter_le _ _
  omega))
 exact ⟨out, h1, h2, fun y n h => by have := h3 y n h; omega⟩
theorem mem_parF {l : List S49} {out : List (S24 × Nat)} (h : ∀ y n, lookF out y = some n ↔ 1 ≤ n ∧ DistF l n y) (i : Nat) (y x : S24) : x ∈ parF l out i y ↔ (∃ e ∈ l, e.f1 = y ∧ e.f0 = x) ∧ DistF l (i + 1) x := by
 unfold parF
 rw [List.mem_map]
 constructor
 ·rintro ⟨e, he, rfl⟩
  obtain ⟨he1, he2⟩ := List.mem_filter.1 he
  unfold isParF at he2
  simp only [Bool.and_eq_true, decide_eq_true_eq] at he2
  refine ⟨⟨e, he1, he2.1, rfl⟩, ?_⟩
  rcases lookF_none_or out e.f0 with h3 | ⟨n, h3⟩
  ·rw [h3] at he2; cases he2.2
  ·rw [h3] at he2
   have h4 := (h _ _).1 h3
   have : n = i + 1 := he2.2
   rw [← this]; exact h4.2
 ·rintro ⟨⟨e, he, hy, rfl⟩, hd⟩
  refine ⟨e, List.mem_filter.2 ⟨he, ?_⟩, rfl⟩
  unfold isParF
  rw [(h _ _).2 ⟨by omega, hd⟩, decide_eq_true hy]
  simp
theorem chainF_spec {l : List S49} {out : List (S24 × Nat)} (hok : okE l = true) (h : ∀ y n, lookF out y = some n ↔ 1 ≤ n ∧ DistF l n y) : ∀ (i : Nat) (y : S24), DistF l (i + 1) y →
 ∃ c, chainF l out i y = some c ∧ c.length = i + 1 ∧ c[i]? = some y ∧ (∀ j x, c[j]? = some x → DistF l (j + 1) x) ∧ (∀ j x x', c[j]? = some x → c[j + 1]? = some x' → parF l out j x' ≠ [] ∧ x = minL (parF l out j x')) := by
 intro i
 induction i with
 | zero =>
  intro y hy
  refine ⟨[y], rfl, rfl, rfl, fun j x hx => ?_, fun j x x' _ hx => by simp at hx⟩
  cases j with
  | zero => injection hx with hx; subst hx; exact hy
  | succ j => simp at hx
 | succ i ih =>
  intro y hy
  obtain ⟨e, he, hey, hde⟩ := dist_step hy
  have hne : parF l out i y ≠ [] := List.ne_nil_of_mem ((mem_parF h i y e.f0).2 ⟨⟨e, he, hey, rfl⟩, hde⟩)
  have hall : (parF l out i y).all mayN = true := List.all_eq_true.2 fun x hx => dist_may hok ((mem_parF h i y x).1 hx).2
  have hm := (mem_parF h i y _).1 (minL_mem _ hne)
  obtain ⟨c, h1, h2, h3, h4, h5⟩ := ih _ hm.2
  refine ⟨c ++ [y], ?_, by simp [h2], ?_, fun j x hx => ?_, fun j x x' hx hx' => ?_⟩
  ·unfold chainF
   rw [if_pos ⟨hne, hall⟩, h1]
   rfl
  ·rw [List.getElem?_append_right (by omega), h2]; simp
  ·by_cases hj : j < c.length
   ·rw [List.getElem?_append_left hj] at hx; exact h4 j x hx
   ·rw [List.getElem?_append_right (by omega)] at hx
    have hj2 : j - c.length = 0 := by
     rcases Nat.eq_zero_or_pos (j - c.length) with e | e
     ·exact e
     ·rw [List.getElem?_eq_none (by simp; omega)] at hx; cases hx
    rw [hj2] at hx
    injection hx with hx
    subst hx
    have : j = i + 1 := by omega
    rw [this]; exact hy
  ·by_cases hj : j + 1 < c.length
   ·rw [List.getElem?_append_left (by omega)] at hx
    rw [List.getElem?_append_left hj] at hx'
    exact h5 j x x' hx hx'
   ·have hj3 : j + 1 = c.length := by
     refine Nat.le_antisymm (Nat.not_lt.1 fun hc => ?_) (by omega)
     rw [List.getElem?_eq_none (by simp; omega)] at hx'; cases hx'
    rw [List.getElem?_append_right (by omega), hj3, Nat.sub_self] at hx'
    injection hx' with hx'
    subst hx'
    rw [List.getElem?_append_left (by omega)] at hx
    have hji : j = i := by omega
    subst hji
    rw [h3] at hx
    injection hx with hx
    exact ⟨hne, hx.symm⟩
structure IsCh (l : List S49) (out : List (S24 × Nat)) (n : S24) (c : List S24) : Prop where
 pos : 1 ≤ c.length
 last : c[c.length - 1]? = some n
 dist : ∀ j x, c[j]? = some x → DistF l (j + 1) x
 par : ∀ j x x', c[j]? = some x → c[j + 1]? = some x' → parF l out j x' ≠ [] ∧ x = minL (parF l out j x')
theorem chain_cases {l : List S49} (hl : l.length ≤ 65536) (hb : ∀ e ∈ l, Brief e.f0 ∧ Brief e.f1) (n : S24) (hn : Brief n) :
 (why_Chain.f l n.f0 n.f1 = some ([], 1) ∧ ¬ (okE l = true ∧ mayN n = true)) ∨ (why_Chain.f l n.f0 n.f1 = some ([], 11) ∧ okE l = true ∧ mayN n = true ∧ ∀ d, ¬ DistF l (d + 1) n) ∨
 (∃ out c, why_Chain.f l n.f0 n.f1 = some (c, 0) ∧ okE l = true ∧ mayN n = true ∧ (∀ y m, lookF out y = some m ↔ 1 ≤ m ∧ DistF l m y) ∧ IsCh l out n c ∧ DistF l c.length n ∧ c.length ≤ l.length + 3 ∧ (∀ x ∈ c, Brief x)) := by
 have hc : l.length ≤ 65536 ∧ (∀ x ∈ l, BriefE x) ∧ Brief n := ⟨hl, hb, hn⟩
 by_cases hok : okE l = true
 ·by_cases hm : mayN n = true
  ·obtain ⟨out, h1, h2, h3⟩ := depths_spec hok
   have hf : why_Chain.f l n.f0 n.f1 = (match lookF out n with
    | none => some ([], 11)
    | some d => if 1 ≤ d ∧ d ≤ 65540 then (chainF l out (d - 1) n).map (fun c => (c, 0)) else none) := by
    unfold why_Chain.f
    rw [if_pos hc, if_pos hok, if_pos hm, h1]
    rfl
   rcases lookF_none_or out n with hd | ⟨d, hd⟩
   ·rw [hd] at hf
    refine Or.inr (Or.inl ⟨hf, hok, hm, fun d hdd => ?_⟩)
    have := (h2 n (d + 1)).2 ⟨by omega, hdd⟩
    rw [hd] at this
    cases this
   ·rw [hd] at hf
    have h4 := (h2 n d).1 hd
    have h5 := h3 n d hd
    obtain ⟨d', rfl⟩ : ∃ d', d = d' + 1 := ⟨d - 1, by omega⟩
    obtain ⟨c, c1, c2, c3, c4, c5⟩ := chainF_spec hok h2 d' n h4.2
    refine Or.inr (Or.inr ⟨out, c, ?_, hok, hm, h2, ⟨by omega, by rw [c2, Nat.add_sub_cancel]; exact c3, c4, c5⟩, by rw [c2]; exact h4.2, by omega, fun x hx => ?_⟩)
    ·rw [hf]
     simp only []
     rw [if_pos ⟨by omega, by omega⟩, Nat.add_sub_cancel, c1]
     rfl
    ·obtain ⟨t, ht, rfl⟩ := List.getElem_of_mem hx
     obtain ⟨e, he, hee, _⟩ := (c4 t _ (List.getElem?_eq_getElem ht)).1
     rw [← hee]
     exact (hb e he).2
  ·refine Or.inl ⟨?_, fun h => hm h.2⟩
   unfold why_Chain.f
   rw [if_pos hc, if_pos hok, if_neg hm]
 ·refine Or.inl ⟨?_, fun h => hok h.1⟩
  unfold why_Chain.f
  rw [if_pos hc, if_neg hok]
end Go.Proofs.YtodkjmbmlobihaaGreatDoor.Q
end
section
namespace Go.Proofs.YtodkjmbmlobihaaGreatDoor.Q
open Go.Proofs.YtodkjmbmlobihaaGreatDoor.QB.D
open Go Go.RowKit Go.Maps Go.Lib Go.Sort Go.Proofs.YtodkjmbmlobihaaGreatDoorW.PrintWords Go.Proofs.YtodkjmbmlobihaaGreatDoorW.PrintLast Go.Proofs.YtodkjmbmlobihaaGreatDoorW.PrintMore Gw
set_option linter.unusedVariables false
set_option linter.unusedSimpArgs false
def cellD (x : S46) : List Value := [.string x.f0.f0, .string x.f0.f1, .int .i64 x.f1]
def cellsD (xs : List S46) : List Value := xs.flatMap cellD
theorem cellsD_len : ∀ xs, (cellsD xs).length = xs.length * 3
 | [] => rfl
 | x :: xs => by
  show (cellD x ++ cellsD xs).length = _
  rw [List.length_append, cellsD_len xs]; simp [cellD]; omega
theorem cellsD_get : ∀ (xs : List S46) (j : Nat), (cellsD xs)[j]? = (xs[j / 3]?).bind (fun x => (cellD x)[j % 3]?) := by
 intro xs
 induction xs with
 | nil => intro j; simp [cellsD]
 | cons x xs ih =>
  intro j
  have h : cellsD (x :: xs) = cellD x ++ cellsD xs := rfl
  have hl : (cellD x).length = 3 := rfl
  rw [h]
  rcases Nat.lt_or_ge j 3 with hj | hj
  ·rw [List.getElem?_append_left (by omega), show j / 3 = 0 by omega, show j % 3 = j by omega]; rfl
  ·rw [List.getElem?_append_right (by omega), hl, ih, show j / 3 = (j - 3) / 3 + 1 by omega, List.getElem?_cons_succ, show j % 3 = (j - 3) % 3 by omega]
theorem deep_reps (w : World) (base : Nat) (ok : Nat → Prop) (xs : List S46) : Reps (k46.M w base ok) k46.sz xs (cellsD xs) := by
 refine ⟨cellsD_len xs, fun j p hj => ?_⟩
 obtain ⟨hjl, rfl⟩ := List.getElem?_eq_some_iff.1 hj
 have e : ((cellsD xs).drop (j * 3)).take 3 = cellD xs[j] := by
  apply List.ext_getElem?
  intro t
  rcases Nat.lt_or_ge t 3 with h | h
  ·rw [List.getElem?_take_of_lt h, List.getElem?_drop, cellsD_get, show (j * 3 + t) / 3 = j by omega, List.getElem?_eq_getElem hjl, show (j * 3 + t) % 3 = t by omega]
   rfl
  ·rw [List.getElem?_eq_none (by rw [List.length_take]; omega), List.getElem?_eq_none (by simp [cellD]; omega)]
 show k46.M w base ok xs[j] (((cellsD xs).drop (j * 3)).take 3)
 rw [e]
 exact k46_mkM _ _ _ _
theorem reps_deep {w : World} {base : Nat} {ok : Nat → Prop} {xs : List S46} {cs : List Value} (h : Reps (k46.M w base ok) k46.sz xs cs) : cs = cellsD xs := by
 obtain ⟨h1, h2⟩ := h
 have h1 : cs.length = xs.length * 3 := h1
 apply List.ext_getElem?
 intro j
 rw [cellsD_get]
 by_cases hj : j < xs.length * 3
 ·have hjl : j / 3 < xs.length := by omega
  have hM := h2 (j / 3) _ (List.getElem?_eq_getElem hjl)
  have e := k46_openM hM
  have e2 : ((cs.drop (j / 3 * 3)).take 3)[j % 3]? = cs[j]? := by
   rw [List.getElem?_take_of_lt (by omega), List.getElem?_drop, show j / 3 * 3 + j % 3 = j by omega]
  rw [List.getElem?_eq_getElem hjl, ← e2]
  show _ = (cellD xs[j / 3])[j % 3]?
  exact congrArg (fun l : List Value => l[j % 3]?) e
 ·rw [List.getElem?_eq_none (by omega), List.getElem?_eq_none (by omega)]; rfl
theorem isAggD (w : World) : (isAgg 46).run Tryz.prog w = .ok true w := by kernel_rfl
theorem sizeD (w : World) : (Go.sizeOf 46).run Tryz.prog w = .ok 3 w := by kernel_rfl
theorem dless_calls (k : Nat) (x y : S46) (r : Int) (w : World) (h : QB.D.why_order.f k x.f0.f0 x.f0.f1 y.f0.f0 y.f0.f1 = some r) :
 Calls Tryz.prog 23 #[.agg #[.string x.f0.f0, .string x.f0.f1, .int .i64 x.f1], .agg #[.string y.f0.f0, .string y.f0.f1, .int .i64 y.f1]] w fun e w' => e = .returned (.int .i64 r) ∧ QB.Below w.heap.size w w' := by
 have hu46 := Tryz.underlying46
 have hu24 := Tryz.underlying24
 have C1 := fun w => QB.D.why_order.calls k x.f0.f0 x.f0.f1 y.f0.f0 y.f0.f1 r w h
 clear h
 go_enter Tryz.func23, Tryz.ntmps23
 go_wp2_with fail
 refine (C1 _).mono ?_
 rintro e w1 ⟨rfl, hb1⟩
 have HB1 : Aside0 (QB.Below w.heap.size w w1) := ⟨(QB.below_alloc (QB.below_alloc (QB.Below.refl _ _) _) _).trans (hb1.mono (by simp; try omega))⟩
 clear hb1 C1
 go_wp2
 go_ret
 exact ⟨rfl, HB1.out⟩
theorem take_putD (cur : Array Value) (F : Array Value) (h : F.size ≤ cur.size) : (putCells id 0 F cur).toList.take F.size = F.toList := by
 apply List.ext_getElem?
 intro j
 rcases Nat.lt_or_ge j F.size with hj | hj
 ·rw [List.getElem?_take_of_lt hj, Array.getElem?_toList, Array.getElem?_toList]
  simp only [putCells, Array.getElem?_mapIdx]
  rw [Array.getElem?_eq_getElem (show j < cur.size by omega), Option.map_some, if_pos (by omega), Array.getElem?_eq_getElem hj]
  simp [hj]
 ·rw [List.getElem?_eq_none (by simp; omega), List.getElem?_eq_none (by simpa using hj)]
theorem aGood : TinyN (⟨⟨#[97]⟩, ⟨#[118, 48, 46, 48, 46, 48]⟩⟩ : S24) ∧ mayN ⟨⟨#[97]⟩, ⟨#[118, 48, 46, 48, 46, 48]⟩⟩ = true := ⟨by unfold TinyN Tiny; decide, by decide +kernel⟩
section
variable (dp : S24 → Int)
abbrev GD := { x : S46 // (TinyN x.f0 ∧ mayN x.f0 = true) ∧ x.f1 = dp x.f0 }
theorem gD (x : GD dp) : GoodN x.1.f0 := mayN_good x.2.1.1 x.2.1.2
instance : Inhabited (GD dp) := ⟨⟨⟨⟨⟨#[97]⟩, ⟨#[118, 48, 46, 48, 46, 48]⟩⟩, dp ⟨⟨#[97]⟩, ⟨#[118, 48, 46, 48, 46, 48]⟩⟩⟩, aGood, rfl⟩⟩
def encD (x : GD dp) : List Value := cellD x.1
def cfD (x y : GD dp) : Int := ordN x.1.f0 y.1.f0
theorem ltD (x y : GD dp) : ltOf (cfD dp) x y = decide (cfD dp x y < 0) := rfl
theorem swoD : SWO (ltOf (cfD dp)) where
 irrefl x := by
  rw [ltD dp, decide_eq_false_iff_not]
  have := (ordN_to.eq x.1.f0 x.1.f0 (gD dp x) (gD dp x)).2 rfl
  unfold cfD; omega
 trans x y z h1 h2 := by
  rw [ltD dp, decide_eq_true_eq] at *
  exact ordN_to.tr _ _ _ (gD dp x) (gD dp y) (gD dp z) h1 h2
 ntrans x y z h1 h2 := by
  rw [ltD dp, decide_eq_false_iff_not] at *
  have s1 := ordN_to.sym x.1.f0 y.1.f0 (gD dp x) (gD dp y)
  have s2 := ordN_to.sym y.1.f0 z.1.f0 (gD dp y) (gD dp z)
  have s3 := ordN_to.sym x.1.f0 z.1.f0 (gD dp x) (gD dp z)
  unfold cfD at *
  have := (ordN_to.le z.1.f0 y.1.f0 x.1.f0 (gD dp z) (gD dp y) (gD dp x) (by omega) (by omega)).1
  omega
theorem totD (x y : GD dp) (h1 : ltOf (cfD dp) x y = false) (h2 : ltOf (cfD dp) y x = false) : x = y := by
 rw [ltD dp, decide_eq_false_iff_not] at *
 have s1 := ordN_to.sym x.1.f0 y.1.f0 (gD dp x) (gD dp y)
 unfold cfD at *
 have e := (ordN_to.eq x.1.f0 y.1.f0 (gD dp x) (gD dp y)).1 (by omega)
 obtain ⟨⟨n, d⟩, hx1, hx2⟩ := x
 obtain ⟨⟨m, c⟩, hy1, hy2⟩ := y
 simp only at e hx2 hy2
 subst e hx2 hy2
 rfl
theorem orderW_val (k : Nat) (hk : 4294967310 ≤ k) (x y : S24) (hx : TinyN x ∧ mayN x = true) (hy : TinyN y ∧ mayN y = true) : why_order.f k x.f0 x.f1 y.f0 y.f1 = some (ordN x y) := by
 have q1 := hx.1.1
 have q2 := hy.1.1
 unfold Tiny at q1 q2
 obtain ⟨j, rfl⟩ : ∃ j, k = j + 3 := ⟨k - 3, by omega⟩
 unfold why_order.f node_Cmp.f
 rw [node_May_val _ x hx.1 (by omega), node_May_val _ y hy.1 (by omega), hx.2, hy.2]
 simp only [Option.bind_some, if_true]
 rw [order_val j x y (mayN_good hx.1 hx.2) (mayN_good hy.1 hy.2)]
 rfl
theorem cmpLaysD (blk off size : Nat) (w : World) : CmpLays Tryz.prog 23 #[] (encD dp) 3 (cfD dp) blk off size w := fun _ _ _ _ x y =>
 (dless_calls 4294967310 x.1 y.1 _ _ (orderW_val _ (Nat.le_refl _) x.1.f0 y.1.f0 x.2.1 y.2.1)).mono fun e w' h => ⟨h.1, h.2.grows⟩
theorem flat_cellsD (G : List (GD dp)) (j : Nat) (hj : j < G.length * 3) : some (flatK (encD dp) 3 G.toArray)[j]! = (cellsD (G.map Subtype.val))[j]? := by
 have h2 : j / 3 < G.length := by omega
 rw [get_flatK _ _ _ _ (by simpa using hj), cellsD_get, List.getElem?_map, List.getElem?_eq_getElem h2, Option.map_some, Option.bind_some]
 have : G.toArray[j / 3]! = G[j / 3] := by simp [h2]
 rw [this]
 rcases (by omega : j % 3 = 0 ∨ j % 3 = 1 ∨ j % 3 = 2) with e | e | e <;> rw [e] <;> rfl
theorem sortW_blockD (enc : GD dp → List Value) (w : World) (g m : Nat) (d : Array (GD dp)) (os : Array Obj) (cur : Array Value) (e : TypeId) (hg : w.heap[g]? = some (.cells cur e (0, 0))) :
 (sortWorldK enc 3 w g 0 m d os).heap[g]? = some (.cells (putCells id 0 (flatK enc 3 d) cur) e (0, 0)) := by
 have hlt : g < w.heap.size := by
  rcases Nat.lt_or_ge g w.heap.size with h | h
  ·exact h
  ·rw [Array.getElem?_eq_none h] at hg; cases hg
 unfold sortWorldK grow putRowK putRow mapBlock Sort.ahead
 simp only []
 rw [Array.getElem?_append_left (by simpa using hlt), Array.getElem?_modify, if_pos rfl, hg]
 rfl
theorem sortW_belowD (enc : GD dp → List Value) (w : World) (g m : Nat) (d : Array (GD dp)) (os : Array Obj) (b : Nat) (hb : b ≤ g) (hg : g < w.heap.size) : Below b w (sortWorldK enc 3 w g 0 m d os) := by
 unfold sortWorldK grow putRowK putRow mapBlock Sort.ahead
 refine ⟨rfl, rfl, rfl, by simp, fun k hk => ?_⟩
 simp only []
 rw [Array.getElem?_append_left (by simp; omega), Array.getElem?_modify, if_neg (by omega)]
theorem enc_lenD (x : GD dp) : ((encD dp) x).length = 3 := rfl
theorem enc_oneD (x : GD dp) : ∀ v ∈ (encD dp) x, v.oneCell' = true := fun v hv => by simp [encD, cellD] at hv; rcases hv with rfl | rfl | rfl <;> rfl
theorem sortDp_calls (L S : List S46) (hL : ∀ x ∈ L, (TinyN x.f0 ∧ mayN x.f0 = true) ∧ x.f1 = dp x.f0) (hn : L.length ≤ 4294967296) (hS : S.Perm L) (hS2 : S.Pairwise (fun x y => ordN x.f0 y.f0 ≤ 0)) (W : World) (base b0 : Nat) (ok ok' : Nat → Prop) (v : Value) (hR : Kd.R k46 46 W base ok v L) (hok' : ∀ k, ok k → ok' k) (hb0 : b0 ≤ base) :
 Calls Tryz.prog 22 #[v, .func (.func 23) #[] #[]] W fun e w' => e = .returned (.tuple #[]) ∧ Kd.R k46 46 w' base ok' v S ∧ Below b0 W w' := by
 obtain ⟨hok, inner, ho, hr⟩ := hR
 obtain rfl := reps_deep hr
 obtain ⟨_, ⟨rfl, hz⟩ | ⟨g, cap, cur, rfl, hg, hcell, hc1, hc2, hc3, hc4⟩⟩ := ho
 ·have hL0 : L = [] := List.length_eq_zero_iff.1 hz
  subst hL0
  have hS0 : S = [] := List.Perm.eq_nil hS
  subst hS0
  refine (AnyF.slices_SortFunc_none Tryz.sortDeep none 0 (.func (.func 23) #[] #[]) W).mono ?_
  rintro e w' ⟨rfl, rfl⟩
  exact ⟨rfl, Kd.R_nil _ _ _ _ _, Below.refl _ _⟩
 ·obtain ⟨G, rfl⟩ : ∃ G : List (GD dp), G.map Subtype.val = L := ⟨L.attach.map (fun x => ⟨x.1, hL x.1 x.2⟩), by simp [List.map_map, Function.comp_def, List.attach_map_subtype_val]⟩
  have hgl : g < W.heap.size := by
   rcases Nat.lt_or_ge g W.heap.size with h | h
   ·exact h
   ·rw [Array.getElem?_eq_none h] at hcell; cases hcell
  rw [List.length_map] at *
  have hsz2 : (cellsD (G.map Subtype.val)).length = G.length * 3 := by rw [cellsD_len, List.length_map]
  have hH : HoldsK (encD dp) 3 W g 0 G.toArray := by
   intro j hj
   have hj' : j < G.length * 3 := by simpa using hj
   refine ⟨?_, blk_frozen hcell _⟩
   rw [blk_cell hcell, Nat.zero_add]
   show cur[j]? = some (flatK (encD dp) 3 G.toArray)[j]!
   rw [flat_cellsD dp G j hj', ← hc4]
   rw [show k46.sz = 3 from rfl, List.getElem?_take_of_lt hj', Array.getElem?_toList]
  have eg : ∀ args w, (callFunc 23 args).run Tryz.prog w = .ok (.enter 23 args) w := enters_of Tryz.func23 (by kernel_rfl) rfl
  have hcon := AnyQ.slices_SortFunc_total Tryz.sortDeep 3 isAggD sizeD (encD dp) (enc_lenD dp) (enc_oneD dp) (cfD dp) (swoD dp) 23 #[] g 0 cap G.toArray W eg (cmpLaysD dp _ _ _ _) hH hgl (by simp; omega) (totD dp)
  refine Calls.mono hcon ?_
  rintro e w' ⟨rfl, n, os, rfl⟩
  refine ⟨rfl, ?_, sortW_belowD dp _ _ _ _ _ _ _ (by omega) hgl⟩
  have hM1 : (G.mergeSort fun x y => !(ltOf (cfD dp)) y x).Perm G := List.mergeSort_perm _ _
  have hM2 : (G.mergeSort fun x y => !(ltOf (cfD dp)) y x).Pairwise (fun x y => (!(ltOf (cfD dp)) y x) = true) := by
   refine List.pairwise_mergeSort (le := fun x y => !(ltOf (cfD dp)) y x) (fun a b c h1 h2 => ?_) (fun a b => ?_) G
   ·simp only [Bool.not_eq_true'] at *
    exact (swoD dp).ntrans _ _ _ h2 h1
   ·simp only [ltD dp]
    have := ordN_to.sym a.1.f0 b.1.f0 (gD dp a) (gD dp b)
    unfold cfD
    by_cases h : ordN b.1.f0 a.1.f0 < 0
    ·rw [decide_eq_true h, decide_eq_false (by omega)]; rfl
    ·rw [decide_eq_false h]; rfl
  have hSM : S = (G.mergeSort fun x y => !(ltOf (cfD dp)) y x).map Subtype.val := by
   refine List.Perm.eq_of_pairwise (le := fun x y => ordN x.f0 y.f0 ≤ 0) ?_ hS2 ?_ (hS.trans (hM1.map _).symm)
   ·intro a b ha hb h1 h2
    have qa := hL a (hS.mem_iff.1 ha)
    obtain ⟨y, _, rfl⟩ := List.mem_map.1 hb
    have ga := mayN_good qa.1.1 qa.1.2
    have gb := gD dp y
    have := ordN_to.sym a.f0 y.1.f0 ga gb
    have e := (ordN_to.eq a.f0 y.1.f0 ga gb).1 (by omega)
    obtain ⟨⟨m, c⟩, hy1, hy2⟩ := y
    obtain ⟨n, d⟩ := a
    have qa2 := qa.2
    simp only at e qa2 hy2
    subst e qa2 hy2
    rfl
   ·refine List.pairwise_map.2 (hM2.imp ?_)
    intro x y h
    simp only [Bool.not_eq_true', ltD dp, decide_eq_false_iff_not] at h
    have := ordN_to.sym x.1.f0 y.1.f0 (gD dp x) (gD dp y)
    unfold cfD at h
    omega
  have hlM := hM1.length_eq
  generalize hMM : (G.mergeSort fun x y => !(ltOf (cfD dp)) y x) = M at hSM hlM
  have hfs : (flatK (encD dp) 3 M.toArray).size = G.length * 3 := by simp [hlM]
  have hSl : S.length = G.length := by rw [hSM, List.length_map, hlM]
  refine ⟨fun k hk => hok' k (hok k hk), cellsD S, ?_, ?_⟩
  ·refine ⟨by rw [cellsD_len]; rfl, Or.inr ⟨g, cap, putCells id 0 (flatK (encD dp) 3 M.toArray) cur, by rw [hSl], hg, sortW_blockD dp _ _ _ _ _ _ _ _ hcell, by rw [hSl]; exact hc1, hc2, by simp [putCells]; exact hc3, ?_⟩⟩
   rw [show S.length * k46.sz = (flatK (encD dp) 3 M.toArray).size by rw [hfs, hSl]; rfl, take_putD _ _ (by rw [hfs, hc3]; exact Nat.mul_le_mul_right _ hc1)]
   apply List.ext_getElem?
   intro j
   by_cases hj : j < G.length * 3
   ·rw [hSM, ← flat_cellsD dp M j (by omega), Array.getElem?_toList, Array.getElem?_eq_getElem (by omega)]
    simp [hfs, hj]
   ·rw [List.getElem?_eq_none (by simp; omega), List.getElem?_eq_none (by rw [cellsD_len]; omega)]
  ·exact deep_reps _ _ _ _
end
end Go.Proofs.YtodkjmbmlobihaaGreatDoor.Q
end
section
namespace Go.Proofs.YtodkjmbmlobihaaGreatDoor.Q
open Go.Proofs.YtodkjmbmlobihaaGreatDoor.QB.D
open Go Go.RowKit Go.Maps Go.Lib Go.Proofs.YtodkjmbmlobihaaGreatDoorW.PrintWords Go.Proofs.YtodkjmbmlobihaaGreatDoorW.PrintLast Go.Proofs.YtodkjmbmlobihaaGreatDoorW.PrintMore Gw
set_option linter.unusedVariables false
set_option linter.unusedSimpArgs false
abbrev vNd (x : S24) : Value := .agg #[.string x.f0, .string x.f1]
theorem vNd_inj {x y : S24} (h : vNd x = vNd y) : x = y := by
 cases x; cases y
 simp at h
 rw [h.1, h.2]
def dpF (out : List (S24 × Nat)) (x : S24) : Int := (((lookF out x).getD 0 : Nat) : Int)
def deepsF (out : List (S24 × Nat)) (T : List S24) : List S46 := T.map fun x => ⟨x, dpF out x⟩
theorem infoD : (Tryz.prog.info? 46).map (fun i => (i.zero, i.size, i.bytes)) = some (some (.agg #[(.string ⟨#[]⟩), (.string ⟨#[]⟩), (.int .i64 0)]), 3, 40) := by kernel_rfl
theorem sub_lenD : ∀ {l m : List S24}, l.Nodup → (∀ x ∈ l, x ∈ m) → l.length ≤ m.length
 | [], m, _, _ => Nat.zero_le _
 | x :: l, m, h, hs => by
  rw [List.nodup_cons] at h
  have hx := hs x List.mem_cons_self
  have := sub_lenD (l := l) (m := m.erase x) h.2 fun y hy => (List.mem_erase_of_ne (fun e => h.1 (by rw [← e]; exact hy))).2 (hs y (List.mem_cons_of_mem _ hy))
  rw [List.length_erase_of_mem hx] at this
  have := List.length_pos_of_mem hx
  rw [List.length_cons]
  omega
set_option maxHeartbeats 4000000 in
set_option maxRecDepth 100000 in
theorem deps_bad (A0 : Option Addr) (c0 : Nat) (l0 : List S49) (w : World) (hr0 : Kd.C k49 w A0 l0.length l0) (hc0 : l0.length ≤ c0) (hl : l0.length ≤ 65536) (hb : ∀ x ∈ l0, BriefE x) (hk : okE l0 = false) :
 Calls Tryz.prog 7 #[.slice A0 l0.length c0] w fun e w' => ∃ v, e = .returned (.tuple #[v, .int .i64 1]) ∧ Kd.R k46 46 w' w.heap.size (fun _ => True) v [] ∧ Below w.heap.size w w' := by
 have hK : lack_Check.f l0 = some 1 := by
  have h : lack_Check.f l0 = some (kI (okE l0)) := if_pos ⟨by omega, fun x hx => ⟨(hb x hx).1.tiny, (hb x hx).2.tiny⟩⟩
  rw [hk] at h; exact h
 have CK := fun (W : World) (h : Kd.C k49 W A0 l0.length l0) => lack_Check.calls A0 c0 l0 1 W h hc0 hK
 have HR0 := Aside0.mk hr0
 clear hr0 hb hK hk
 go_enter Tryz.func7, Tryz.ntmps7
 go_wp2_with fail
 refine (CK _ HR0.out).mono ?_
 rintro e w1 ⟨rfl, hb1⟩
 have HB1 := Aside0.mk hb1
 clear hb1 CK
 go_wp2
 go_ret2
 exact ⟨_, rfl, Kd.R_nil _ _ _ _ _, HB1.out⟩
set_option maxHeartbeats 8000000 in
set_option maxRecDepth 100000 in
theorem deps_go (A0 : Option Addr) (c0 : Nat) (l0 : List S49) (w : World) (hr0 : Kd.C k49 w A0 l0.length l0) (hc0 : l0.length ≤ c0) (hl : l0.length ≤ 65536) (hb : ∀ x ∈ l0, BriefE x) (hk : okE l0 = true)
 (out : List (S24 × Nat)) (hout : depF l0 (l0.length + 2) 1 [z24] [] = some out) (T : List S24) (hT : T.Nodup) (hT2 : ∀ x, x ∈ T ↔ (lookF out x).isSome = true) (hT3 : T.Pairwise fun x y => ordN x y ≤ 0) (hT4 : ∀ x ∈ T, TinyN x ∧ mayN x = true) (hTl : T.length ≤ 65536) :
 Calls Tryz.prog 7 #[.slice A0 l0.length c0] w fun e w' => ∃ v, e = .returned (.tuple #[v, .int .i64 0]) ∧ Kd.R k46 46 w' w.heap.size (fun _ => True) v (deepsF out T) ∧ Below w.heap.size w w' := by
 have hu24 := Tryz.underlying24
 have hu46 := Tryz.underlying46
 have hK : lack_Check.f l0 = some 0 := by
  have h : lack_Check.f l0 = some (kI (okE l0)) := if_pos ⟨by omega, fun x hx => ⟨(hb x hx).1.tiny, (hb x hx).2.tiny⟩⟩
  rw [hk] at h; exact h
 have CK := fun (W : World) (h : Kd.C k49 W A0 l0.length l0) => lack_Check.calls A0 c0 l0 0 W h hc0 hK
 have hns : ∀ x ∈ l0, NS x.f0 ∧ NS x.f1 := fun x hx => by have := hb x hx; unfold NS maxLen; omega
 have CD := fun (W : World) (h : Kd.C k49 W A0 l0.length l0) => depths_calls A0 c0 l0 W h hl hns (l0.length + 2) (by omega) out hout
 have HR0 := Aside0.mk hr0
 have HT := Aside0.mk hT
 have HT2 := Aside0.mk hT2
 have HT3 := Aside0.mk hT3
 have HT4 := Aside0.mk hT4
 clear hr0 hb hK hk hns hout hT hT2 hT3 hT4
 go_enter Tryz.func7, Tryz.ntmps7
 go_wp2_with fail
 refine (CK _ HR0.out).mono ?_
 rintro e w1 ⟨rfl, hb1⟩
 have HB1 := Aside0.mk hb1
 clear hb1 CK
 go_wp2_with fail
 refine (CD _ (Kd.C_below HR0.out HB1.out)).mono ?_
 rintro e w2 ⟨gm, nm, D, rfl, hgm, hM, hD, hb2⟩
 have HB2 : Aside0 (Below w.heap.size w w2) := ⟨HB1.out.trans (hb2.mono HB1.out.size)⟩
 have HM := Aside0.mk hM
 have HD := Aside0.mk hD
 have hgm2 : w.heap.size ≤ gm := Nat.le_trans HB1.out.size hgm
 have hgmlt := hM.lt
 clear hM hD hb2 CD
 go_wp2_with (first
  | (at_range; refine wpList_range_own _ rfl _ 52 rfl 24 3 law_node Tryz.underlying52 _ gm nm _ rfl HM.out ?_; intro w3 hrg0 hg0 hs0)
  | fail)
 go_frame
 go_loopw [5] (fun v5 wr => ∃ (left : Lit → Bool) (cnt : Nat) (ns : List S24), wr.ranges Tryz.prog 24 (plainElem Tryz.prog 3) gm w2.heap.size nm D left cnt ∧ ns.length + cnt ≤ Maps.size D ∧ Aside0 (ColN D left ns) ∧ Aside0 (Kd.R k46 46 wr w.heap.size (fun k => k ≠ gm ∧ k ≠ w2.heap.size) v5 (deepsF out ns)) ∧ Aside0 (Below w.heap.size w wr) ∧ w2.heap.size + 1 ≤ wr.heap.size)
  (fun _ wr => wr.rangeLeft gm w2.heap.size)
 case atStart =>
  exact ⟨_, _, [], hrg0, by simp, ⟨ColN.start D⟩, ⟨Kd.R_nil _ _ _ _ _⟩, ⟨HB2.out.grown hg0 HB2.out.size (fun k e => by cases e)⟩, by omega⟩
 case round =>
  obtain ⟨left, cnt, ns, hrg, hcs, hC, HO, HB, hz⟩ := hrel
  have hnl : ns.length ≤ 65536 := by
   have hTs : ∀ x ∈ ns, x ∈ T := fun x hx => by
    have h1 := hC.out.ns x hx
    have h2 := ((hC.out.mem x h1).1 hx).1
    rw [HD.out.has x h1] at h2
    exact (HT2.out x).2 h2
   have : ns.length ≤ T.length := sub_lenD hC.out.nodup hTs
   omega
  go_wp2_with (first
   | (at_next; refine wpList_next_ranges _ rfl _ rfl 24 law_node (plainElem Tryz.prog 3) vNd (Value.int .i64) (fun key kl hk => by obtain ⟨x, hx, _⟩ := keyOf_node_inv hk; exact ⟨x, hx⟩) (fun v y h => by obtain ⟨c, rfl, _⟩ := plainElem_int_inv Tryz.underlying3 h; exact ⟨c, rfl⟩) gm w2.heap.size nm _ _ _ rfl hrg ?_ ?_)
   | fail)
  ·intro hc0' hl0
   have hmem : ∀ x, x ∈ ns ↔ x ∈ T := fun x => by
    have key : ∀ x, NS x → (x ∈ ns ↔ x ∈ T) := fun x hx => by rw [hC.out.mem x hx, hl0, HD.out.has x hx, HT2.out x]; simp
    constructor
    ·intro hx; exact (key x (hC.out.ns x hx)).1 hx
    ·intro hx
     have h1 := (HT4.out x hx).1
     exact (key x (by unfold TinyN Tiny at h1; unfold NS maxLen; omega)).2 hx
   have hperm : (deepsF out T).Perm (deepsF out ns) := ((List.perm_ext_iff_of_nodup HT.out hC.out.nodup).2 fun x => (hmem x).symm).map _
   have hok : ∀ x ∈ deepsF out ns, (TinyN x.f0 ∧ mayN x.f0 = true) ∧ x.f1 = dpF out x.f0 := fun x hx => by
    obtain ⟨n, hn, rfl⟩ := List.mem_map.1 hx
    exact ⟨HT4.out n ((hmem n).1 hn), rfl⟩
   have CSo := sortDp_calls (dpF out) (deepsF out ns) (deepsF out T) hok (by unfold deepsF; rw [List.length_map]; omega) hperm (List.pairwise_map.2 HT3.out) wr w.heap.size w.heap.size (fun k => k ≠ gm ∧ k ≠ w2.heap.size) (fun _ => True) u5 HO.out (fun _ _ => trivial) (Nat.le_refl _)
   clear hmem hperm hok hrg hC HO
   go_wp2_with fail
   refine CSo.mono ?_
   rintro e w5 ⟨rfl, hR5, hb5⟩
   have HR5 := Aside0.mk hR5
   have HB5 := Aside0.mk (HB.out.trans hb5)
   clear hR5 hb5 CSo
   go_wp2
   go_ret2
   exact ⟨_, rfl, HR5.out, HB5.out⟩
  ·intro x c kl yd yp w4 cnt4 hkey hlk hv hat hrg4 hlt hg4 hs4 hen
   obtain ⟨x', ex, hnx, rfl⟩ := keyOf_node_inv hkey
   obtain rfl : x = x' := vNd_inj ex
   have hcv : c = dpF out x := by
    obtain ⟨c', e1, e2⟩ := plainElem_int_inv Tryz.underlying3 hv
    have h1 := (hat (.lit (.int .i64 0))).symm.trans (HD.out.at_ x hnx)
    have h2 := (congrArg Prod.fst e2.1).symm.trans h1
    simp only [DataW.lit.injEq, Lit.int.injEq, true_and] at h2
    simp only [Value.int.injEq, true_and] at e1
    unfold dpF
    omega
   subst hcv
   have HC4 := Aside0.mk (hC.out.step hnx hlk hat)
   have HO4 : Aside0 (Kd.R k46 46 w4 w.heap.size (fun k => k ≠ gm ∧ k ≠ w2.heap.size) u5 (deepsF out ns)) := ⟨Kd.R_mono (Kd.R_grown (Kd.R_bound HO.out) hg4 (fun k hk e => hk.1.2 (Option.some.inj e))) (fun k hk => hk.1)⟩
   have HB4 : Aside0 (Below w.heap.size w w4) := ⟨HB.out.grown hg4 HB.out.size (fun k e => by cases e; exact HB2.out.size)⟩
   have HRG4 := Aside0.mk hrg4
   have HO5 := Aside0.mk (Kd.R_alloc HO4.out (.cells #[.string x.f0, .string x.f1] 24 (0, 0)))
   have HB5 := Aside0.mk (below_alloc HB4.out (.cells #[.string x.f0, .string x.f1] 24 (0, 0)))
   have hsz : (deepsF out ns).length = ns.length := List.length_map _
   have hle := hrg.left_eq
   clear hkey hlk hv hat hrg4 hg4 hC HO HB hrg
   go_wp2_with (first
    | ((with_reducible refine gate_builtin (b := .append) (xs := #[.tmp 21, .tmp 25]) rfl ?_); at_builtin; refine Kd.R_append k46 (w0 := w) w.heap.size rfl (.tmp 21) (.tmp 25) 27 46 (.agg #[(.string ⟨#[]⟩), (.string ⟨#[]⟩), (.int .i64 0)]) 40 rfl Tryz.underlying27 infoD rfl (by decide) (by omega) u5 (deepsF out ns) ⟨x, dpF out x⟩ [.string x.f0, .string x.f1, .int .i64 (dpF out x)] (fun k => k ≠ gm ∧ k ≠ w2.heap.size) (fun _ => False) rfl (by rw [World.size_alloc, hs4]; rfl) ?aP (fun _ hk => hk.elim) ?aF ?aO ?aB ?aS ?aL ?_; (case aP => exact k46_mkM _ _ _ _); (case aB => exact HB5.out); (case aF => exact (fun k hk => by have hk2 : (w4.alloc (.cells #[.string x.f0, .string x.f1] 24 (0, 0))).heap.size ≤ k := hk; rw [World.size_alloc, hs4] at hk2; exact ⟨by omega, by omega⟩)); (case aO => exact HO5.out); (case aS => exact HB5.out.size); (case aL => omega); intro v9 w9 ho9 hb9 hg9 hat9)
    | fail)
   have HO9 := Aside0.mk ho9
   have HB9 := Aside0.mk hb9
   have hrg9 := (HRG4.out.alloc (.cells #[.string x.f0, .string x.f1] 24 (0, 0))).kept hg9 (fun e => (Kd.R_away HO5.out (fun k hk => hk.1)) e) (fun e => (Kd.R_away HO5.out (fun k hk => hk.2)) e)
   have hz9 := hg9.size
   clear ho9 hb9
   go_roundw
   case rel => exact ⟨_, cnt4, ns ++ [x], hrg9, by simp; omega, HC4, by unfold deepsF at HO9 ⊢; rw [List.map_append]; exact HO9, HB9, by rw [World.size_alloc] at hz9; omega⟩
   case measure => rw [hrg9.left_eq, hle]; exact hlt
end Go.Proofs.YtodkjmbmlobihaaGreatDoor.Q
end
section
namespace Go.Proofs.YtodkjmbmlobihaaGreatDoor.Q
open Go.Proofs.YtodkjmbmlobihaaGreatDoor.QB.D
open Go Go.RowKit Go.Lib Go.Proofs.YtodkjmbmlobihaaGreatDoorW.PrintWords Go.Ev Gw
set_option linter.unusedVariables false
set_option maxRecDepth 100000
abbrev Nd := S24
abbrev Ne := S49
abbrev Dp := S46
def evQ (e : Ne) : PV := .ag [.s (.string e.f0.f0), .s (.string e.f0.f1), .s (.string e.f1.f0), .s (.string e.f1.f1)]
theorem flatQ : Flat k49 (fun e => [.string e.f0.f0, .string e.f0.f1, .string e.f1.f0, .string e.f1.f1]) evQ := ⟨fun w x => k49_mk w x, fun h => k49_open h, fun _ => rfl⟩
def evD (x : Dp) : PV := .ag [.s (.string x.f0.f0), .s (.string x.f0.f1), .s (.int .i64 x.f1)]
theorem flatD : Flat k46 (fun x => [.string x.f0.f0, .string x.f0.f1, .int .i64 x.f1]) evD := ⟨fun w x => k46_mk w x, fun h => k46_open h, fun _ => rfl⟩
section
variable {F : Nat → Nat → Prop} {w : World} {f : FuncId} {fn : Func}
theorem pc_rowN {α : Type} {d : Kd α} {raw : α → List Value} {enc : α → PV} (hfl : Flat d raw enc) (hf : Tryz.prog.funcs[f]? = some fn) (hn : (fn.name == "runtime.NumGoroutine") = false) (hb : fn.body.isSome = true) {z : Nat} (hz : z = d.sz) (l : List α) (hl : l.length ≤ 9223372036854775807) (x : Nd) (r : PV)
 (h : ∀ w A c, d.C w A l.length l → l.length ≤ c → Calls Tryz.prog f #[.slice A l.length c, .agg #[.string x.f0, .string x.f1]] w fun e w' => ∃ v, e = .returned v ∧ Below w.heap.size w w' ∧ ∀ F, Res F w.heap.size no0 w' r v) : PC f [.sl 0 z (l.map enc), evN x] r :=
 pc_mk ⟨fn, hf, hn, hb⟩ (noXo_of rfl) fun w F vs hv => by
  match vs, hv with
  | [u, u'], hv =>
   obtain ⟨A, c, rfl, hc, hC⟩ := hfl.toC hv.1 hz hl
   rw [evN_eq hv.2.1]
   exact (h w A c hC hc).mono fun e w' ⟨v, he, hb, hr⟩ => ⟨v, he, hb, hr F⟩
  | [], hv => exact hv.elim
  | [_], hv => exact hv.2.elim
  | _ :: _ :: _ :: _, hv => exact hv.2.2.elim
end
theorem few18_pc (l : List Ne) : PC 5 [.sl 0 4 (l.map evQ)] (.sl 6 4 ((fewE l).map evQ)) := by
 refine pc_of tt_ok tt_follows Tryz.func5 rfl (by kernel_rfl) (by kernel_rfl) (Nat.le_of_ble_eq_true rfl) rfl ?_
 conv => whnf
 refine ⟨Nat, fun i => i ≤ l.length ∧ i ≤ 30, fun i => [(9, .sl 32 4 (((l.take i).map oneE).map evQ)), (12, .s (.int .i64 i)), (92, .fr (((l.take i).map oneE).map evQ).length 4)], [0, 6], fun i => l.length - i, 0, ⟨Nat.zero_le _, Nat.zero_le _⟩, ?_, fun i hi => ?_⟩
 ·refine ⟨⟨⟨rfl, Or.inr rfl, Or.inr (Or.inr rfl)⟩, Nat.le_refl _, rfl, trivial, Or.inl rfl, trivial, trivial⟩, ?_⟩
  repeat' (first | exact trivial | refine ⟨?_, ?_⟩ | (((conv => lhs; whnf) <;> (try (conv => rhs; whnf))) <;> exact rfl))
 ·obtain ⟨h1, h2⟩ := hi
  conv => whnf
  constructor
  ·intro h
   have hil := ltm h
   conv => whnf
   constructor
   ·intro h
    have hi24 : i < 30 := by have := of_decide_eq_true h; omega
    have hst := take_succ_map oneE l i hil
    have e1 : ((l.take i).map oneE).map evQ ++ [evQ (oneE l[i])] = ((l.take (i + 1)).map oneE).map evQ := by rw [hst, List.map_append]; rfl
    conv => whnf
    refine ⟨_, idx_map evQ l i hil, ?_⟩
    conv => whnf
    refine ⟨_, one5_pc l[i].f0, ?_⟩
    conv => whnf
    refine ⟨_, idx_map evQ l i hil, ?_⟩
    conv => whnf
    refine ⟨_, one5_pc l[i].f1, ?_⟩
    conv => whnf
    refine ⟨by show (((l.take i).map oneE).map evQ).length + 1 ≤ 9223372036854775807 ∧ ((((l.take i).map oneE).map evQ).length + 1) * 64 ≤ 140737488355328; rw [List.length_map, List.length_map, List.length_take]; omega, rfl, ?_⟩
    conv => whnf
    refine ⟨by kernel_rfl, ?_⟩
    conv => whnf
    refine ⟨i + 1, ⟨hil, hi24⟩, less1 hil, ⟨⟨⟨e1, Or.inl rfl, Or.inr (Or.inl rfl)⟩, Nat.le_refl _, incI hi24 (by decide), trivial, Or.inr (congrArg (fun l => PV.fr (List.length l) 4) e1), trivial, trivial⟩, ?_⟩⟩
    repeat' (first | exact trivial | refine ⟨?_, ?_⟩ | (((conv => lhs; whnf) <;> (try (conv => rhs; whnf))) <;> exact rfl))
   ·intro h
    have hi24 : ¬ i < 30 := by have := of_decide_eq_false h; omega
    conv => whnf
    refine ⟨?_, Or.inl rfl, Or.inr rfl⟩
    unfold fewE
    obtain rfl : i = 30 := by omega
    rfl
  ·intro h
   have hil := gem h h1
   conv => whnf
   refine ⟨?_, Or.inl rfl, Or.inr rfl⟩
   unfold fewE
   rw [List.take_of_length_le (by omega), List.take_of_length_le (by omega)]
theorem chain_pc (l : List Ne) (n : Nd) (c : List Nd) (e : Int) (hl : l.length ≤ 65536) (h : why_Chain.f l n.f0 n.f1 = some (c, e)) : PC 8 [.sl 0 4 (l.map evQ), evN n] (.tu [.sl 4 2 (c.map evN), .s (.int .i64 e)]) :=
 pc_rowN flatQ Tryz.func8 (by kernel_rfl) rfl rfl l (by omega) n _ fun w A k hC hc =>
  (why_Chain.calls A k l n.f0 n.f1 c e w hC hc h).mono fun e w' ⟨v, he, hr, hb⟩ => ⟨_, he, hb, fun F => (flatN.res hr).pair (fun ps e => by cases e)⟩
theorem depsBad_pc (l : List Ne) (hl : l.length ≤ 65536) (hb : ∀ e ∈ l, Brief e.f0 ∧ Brief e.f1) (hk : okE l = false) : PC 7 [.sl 0 4 (l.map evQ)] (.tu [.sl 5 3 (([] : List Dp).map evD), .s (.int .i64 1)]) :=
 pc_row flatQ Tryz.func7 (by kernel_rfl) rfl rfl l (by omega) _ fun w A k hC hc =>
  (deps_bad A k l w hC hc hl hb hk).mono fun e w' ⟨v, he, hr, hb⟩ => ⟨_, he, hb, fun F => (flatD.res hr).pair (fun ps e => by cases e)⟩
theorem depsGo_pc (l : List Ne) (hl : l.length ≤ 65536) (hb : ∀ e ∈ l, Brief e.f0 ∧ Brief e.f1) (hk : okE l = true) (out : List (Nd × Nat)) (hout : depF l (l.length + 2) 1 [z24] [] = some out) (T : List Nd) (hT : IsSet T) (hT2 : ∀ x, x ∈ T ↔ (lookF out x).isSome = true) (hTl : T.length ≤ 65536) :
 PC 7 [.sl 0 4 (l.map evQ)] (.tu [.sl 5 3 ((deepsF out T).map evD), .s (.int .i64 0)]) :=
 pc_row flatQ Tryz.func7 (by kernel_rfl) rfl rfl l (by omega) _ fun w A k hC hc =>
  (deps_go A k l w hC hc hl hb hk out hout T hT.nodup hT2 (hT.lt.imp fun h => Int.le_of_lt h) (fun x hx => ⟨⟨(hT.good x hx).1, (hT.good x hx).2.1⟩, hT.may x hx⟩) hTl).mono fun e w' ⟨v, he, hr, hb⟩ => ⟨_, he, hb, fun F => (flatD.res hr).pair (fun ps e => by cases e)⟩
end Go.Proofs.YtodkjmbmlobihaaGreatDoor.Q
end
section
namespace Go.Proofs.YtodkjmbmlobihaaGreatDoor.Q
open Go.Proofs.YtodkjmbmlobihaaGreatDoor.QB.D
open Go Go.RowKit Go.Lib Go.Proofs.YtodkjmbmlobihaaGreatDoorW.PrintWords Go.Ev Gw
set_option linter.unusedVariables false
set_option linter.unusedSimpArgs false
structure OkL (l : List Ne) : Prop where
 ok : okE l = true
 b : ∀ e ∈ l, Brief e.f0 ∧ Brief e.f1
 n : l.length ≤ 30
open Classical in
noncomputable def setP (l : List Ne) (p : Nd → Prop) : List Nd := rsetN ((l.map (·.f1)).filter fun y => decide (p y))
open Classical in
theorem setP_facts {l : List Ne} (h : OkL l) (p : Nd → Prop) : IsSet (setP l p) ∧ ∀ y, y ∈ setP l p ↔ (∃ e ∈ l, e.f1 = y) ∧ p y := by
 have hm : ∀ y, y ∈ (l.map (·.f1)).filter (fun y => decide (p y)) ↔ (∃ e ∈ l, e.f1 = y) ∧ p y := fun y => by
  rw [List.mem_filter, List.mem_map, decide_eq_true_eq]
 have f := rsetN_facts ((l.map (·.f1)).filter fun y => decide (p y)) (fun y hy => by
  obtain ⟨⟨e, he, rfl⟩, _⟩ := (hm y).1 hy
  exact (h.b e he).2.tiny) (fun y hy => by
  obtain ⟨⟨e, he, rfl⟩, _⟩ := (hm y).1 hy
  exact (ok_each h.ok he).1) [] IsSet.nil
 exact ⟨f.1, fun y => by
  refine (f.2 y).trans ?_
  rw [hm]
  exact ⟨fun h => h.elim (fun h => by cases h) id, Or.inr⟩⟩
theorem setP_brief {l : List Ne} (h : OkL l) (p : Nd → Prop) : ∀ y ∈ setP l p, Brief y := fun y hy => by
 obtain ⟨⟨e, he, rfl⟩, _⟩ := ((setP_facts h p).2 y).1 hy
 exact (h.b e he).2
theorem setP_len {l : List Ne} (h : OkL l) (p : Nd → Prop) : (setP l p).length ≤ 30 := by
 have h1 := sub_lenD (m := l.map (·.f1)) (setP_facts h p).1.nodup fun x hx => by
  obtain ⟨⟨e, he, rfl⟩, _⟩ := ((setP_facts h p).2 x).1 hx
  exact List.mem_map.2 ⟨e, he, rfl⟩
 rw [List.length_map] at h1
 exact Nat.le_trans h1 h.n
noncomputable def lev (l : List Ne) (d : Nat) : List Nd := setP l (DistF l d)
theorem mem_lev {l : List Ne} (h : OkL l) (d : Nat) (y : Nd) : y ∈ lev l (d + 1) ↔ DistF l (d + 1) y := by
 rw [lev, (setP_facts h _).2]
 refine ⟨And.right, fun hd => ⟨?_, hd⟩⟩
 obtain ⟨e, he, hy, _⟩ := dist_step hd
 exact ⟨e, he, hy⟩
theorem lev_le {l : List Ne} (h : OkL l) {d : Nat} (hne : lev l (d + 1) ≠ []) : d + 1 ≤ 33 := by
 obtain ⟨out, _, h2, h3⟩ := depths_spec h.ok
 obtain ⟨y, hy⟩ := List.exists_mem_of_ne_nil _ hne
 have := h3 y (d + 1) ((h2 y (d + 1)).2 ⟨by omega, (mem_lev h d y).1 hy⟩)
 have := h.n
 omega
noncomputable def reachS (l : List Ne) : List Nd := setP l (fun y => ∃ j, DistF l (j + 1) y)
theorem mem_reachS {l : List Ne} (h : OkL l) (y : Nd) : y ∈ reachS l ↔ ∃ j, DistF l (j + 1) y := by
 rw [reachS, (setP_facts h _).2]
 refine ⟨And.right, fun hd => ⟨?_, hd⟩⟩
 obtain ⟨j, hd⟩ := hd
 obtain ⟨e, he, hy, _⟩ := dist_step hd
 exact ⟨e, he, hy⟩
theorem reachS_look {l : List Ne} (h : OkL l) {out : List (Nd × Nat)} (ho : ∀ y n, lookF out y = some n ↔ 1 ≤ n ∧ DistF l n y) (y : Nd) : y ∈ reachS l ↔ (lookF out y).isSome = true := by
 rw [mem_reachS h, Option.isSome_iff_exists]
 constructor
 ·rintro ⟨j, hj⟩; exact ⟨j + 1, (ho y _).2 ⟨by omega, hj⟩⟩
 ·rintro ⟨n, hn⟩
  obtain ⟨h1, h2⟩ := (ho y n).1 hn
  exact ⟨n - 1, by rw [show n - 1 + 1 = n by omega]; exact h2⟩
theorem dp_at {l : List Ne} {out : List (Nd × Nat)} (ho : ∀ y n, lookF out y = some n ↔ 1 ≤ n ∧ DistF l n y) {d : Nat} {y : Nd} (hd : DistF l (d + 1) y) : dpF out y = ((d + 1 : Nat) : Int) := by
 unfold dpF
 rw [(ho y (d + 1)).2 ⟨by omega, hd⟩]; rfl
theorem dp_none {l : List Ne} {out : List (Nd × Nat)} (ho : ∀ y n, lookF out y = some n ↔ 1 ≤ n ∧ DistF l n y) {y : Nd} (hd : ∀ d, ¬ DistF l (d + 1) y) : dpF out y = 0 := by
 unfold dpF
 rcases lookF_none_or out y with h | ⟨n, h⟩
 ·rw [h]; rfl
 ·obtain ⟨h1, h2⟩ := (ho y n).1 h
  exact absurd (by rw [show n - 1 + 1 = n by omega]; exact h2) (hd (n - 1))
end Go.Proofs.YtodkjmbmlobihaaGreatDoor.Q
end
