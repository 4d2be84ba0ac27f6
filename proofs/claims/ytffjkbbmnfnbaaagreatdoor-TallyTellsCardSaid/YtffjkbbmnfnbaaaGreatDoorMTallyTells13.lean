/- Part 13 of this claim: several texts one behind the other: EvTf, EvTg, EvTh, EvTi, EvTj, EvTk, EvTl, EvTm, EvTn, EvTo, EvTp, EvTq, EvTr, EvXa, EvXb. What each shows stands in its theorems; conditions: sizes of texts and lists, as the functions' definitions say. -/
import Derived.Test.YtffjkbbmnfnbaaaGreatDoorMTallyTells12
import Derived.Test.YtffjkbbmnfnbaaaGreatDoorMTallyTells11
section
namespace Go.Proofs.YtffjkbbmnfnbaaaGreatDoor.Q
open Go.Proofs.YtffjkbbmnfnbaaaGreatDoor.QB.D
open Go Go.RowKit Go.Lib Go.Proofs.YtffjkbbmnfnbaaaGreatDoorW.PrintWords Go.Ev Gw
set_option linter.unusedVariables false
set_option maxRecDepth 100000
theorem vord_eq {a b : ByteArray} (ha : isVersion (bs a) = true) (hb : isVersion (bs b) = true) : vord a b = verC (vOf (bs a)) (vOf (bs b)) := by
 unfold vord
 rw [vparts_of ha, vparts_of hb]
 rfl
theorem vord_tr {a b d : ByteArray} (ha : isVersion (bs a) = true) (hb : isVersion (bs b) = true) (hd : isVersion (bs d) = true) (h1 : vord a b < 0) (h2 : vord b d < 0) : vord a d < 0 := by
 rw [vord_eq ha hb] at h1
 rw [vord_eq hb hd] at h2
 rw [vord_eq ha hd]
 exact verC_to.tr _ _ _ trivial trivial trivial h1 h2
theorem okV_chain {v : List ByteArray} (h : ∀ k, VOk v k) (i : Nat) : ∀ j (hi : i < v.length) (hj : j < v.length), i < j → vord v[i] v[j] < 0
 | 0, _, _, hlt => absurd hlt (Nat.not_lt_zero _)
 | j + 1, hi, hj, hlt => by
  have h1 := (h (j + 1) hj).2 (Nat.succ_pos j)
  by_cases he : i = j
  ·subst he; exact h1
  ·exact vord_tr (h i hi).1 (h j (by omega)).1 (h (j + 1) hj).1 (okV_chain h i j hi (by omega) (by omega)) h1
theorem okT_chain {l : List RW} (h : OkT l) (i : Nat) : ∀ j (hi : i < l.length) (hj : j < l.length), i < j → lexC (bs l[i].p) (bs l[j].p) < 0
 | 0, _, _, hlt => absurd hlt (Nat.not_lt_zero _)
 | j + 1, hi, hj, hlt => by
  have h1 := (h (j + 1) hj).2.2.1 (Nat.succ_pos j)
  by_cases he : i = j
  ·subst he; exact h1
  ·exact lexC_to.tr _ _ _ trivial trivial trivial (okT_chain h i j hi (by omega) (by omega)) h1
theorem okT_mono {l : List RW} (h : OkT l) (p : ByteArray) (i j : Nat) (hi : i < l.length) (hj : j < l.length) (hij : i ≤ j) (hn : fcmp p l[j] < 0) : fcmp p l[i] < 0 := by
 by_cases he : i = j
 ·subst he; exact hn
 ·exact lexC_to.tr _ _ _ trivial trivial trivial (okT_chain h i j hi hj (by omega)) hn
theorem bsF_lt {α : Type} {c : α → Int} {l : List α} (h : bsF c l = true) : bsI c l < l.length := by
 unfold bsF at h
 cases hq : l[bsI c l]? with
 | none => rw [hq] at h; cases h
 | some x => exact (List.getElem?_eq_some_iff.1 hq).1
theorem okFi_Rx (l : List RW) : okFi (l.map evRx) := fun x hx p hp => by
 obtain ⟨r, _, rfl⟩ := List.mem_map.1 hx
 rcases List.mem_cons.1 hp with rfl | hp
 ·trivial
 ·rw [List.mem_singleton.1 hp]
  intro y hy q hq
  obtain ⟨s, _, rfl⟩ := List.mem_map.1 hy
  rw [List.mem_singleton.1 hq]
  exact fun e => by cases e
def dropRow (r : RW) (s : ByteArray) : RW := ⟨r.p, r.v.filter fun x => !(x.toList == s.toList)⟩
noncomputable def dropV (l : List RW) (n : S36) : List RW × Int :=
 if chkT l ≠ 0 ∨ mayN n = false then (l, 1)
 else if bsF (fcmp n.f0) l = false then (l, 2)
 else match l[bsI (fcmp n.f0) l]? with
  | some r => if (r.v.any fun x => n.f1.toList == x.toList) = false then (l, 2)
   else if (dropRow r n.f1).v = [] then (l.take (bsI (fcmp n.f0) l) ++ l.drop (bsI (fcmp n.f0) l + 1), 0)
   else (l.set (bsI (fcmp n.f0) l) (dropRow r n.f1), 0)
  | none => (l, 2)
theorem drop_pc (l : List RW) (n : S36) (hl : l.length ≤ 1000000) (ht : TinyR l) (hn : TinyN n) : PC 26 [.sl 0 2 (l.map evRw), evN n] (.tu [.sl 0 2 ((dropV l n).1.map evRw), .s (.int .i64 (dropV l n).2)]) := by
 have hlm : (l.map evRw).length = l.length := List.length_map ..
 refine pc_of (tt_ok.wx [(47, 1), (49, 1), (63, 2)] [4] false [59, 64]) tt_follows Tryz.func26 rfl (by kernel_rfl) (by kernel_rfl) (Nat.le_of_ble_eq_true rfl) rfl ?_
 conv => whnf
 refine ⟨_, check_pc l hl ht, ?_⟩
 conv => whnf
 constructor
 ·intro h
  have h : chkT l ≠ 0 := by simpa using h
  have e : dropV l n = (l, 1) := if_pos (Or.inl h)
  conv => whnf
  rw [e]
  exact ⟨⟨rfl, Or.inl rfl, trivial⟩, rfl, trivial⟩
 intro hc
 have hc : chkT l = 0 := by simpa using hc
 have hok : OkT l := by
  unfold chkT at hc
  by_cases h : OkT l
  ·exact h
  ·rw [if_neg h] at hc; cases hc
 conv => whnf
 refine ⟨_, nodeMay_pc n hn, ?_⟩
 conv => whnf
 constructor
 ·intro h
  have h : mayN n = false := Eq.mp (Bool.not_eq_true' _) h
  have e : dropV l n = (l, 1) := if_pos (Or.inr h)
  conv => whnf
  rw [e]
  exact ⟨⟨rfl, Or.inl rfl, trivial⟩, rfl, trivial⟩
 intro hm
 have hm : mayN n = true := by simpa using hm
 have hno : ¬ (chkT l ≠ 0 ∨ mayN n = false) := fun h => h.elim (fun h => h hc) (fun h => by rw [hm] at h; cases h)
 conv => whnf
 refine ⟨_, find_pc l n.f0 hl (okT_mono hok n.f0), ?_⟩
 conv => whnf
 constructor
 ·intro hf
  have hf : bsF (fcmp n.f0) l = false := Eq.mp (Bool.not_eq_true' _) hf
  have e : dropV l n = (l, 2) := by unfold dropV; rw [if_neg hno, if_pos hf]
  conv => whnf
  refine ⟨by kernel_rfl, ?_⟩
  conv => whnf
  conv => whnf
  rw [e]
  exact ⟨⟨rfl, Or.inl rfl, trivial⟩, rfl, trivial⟩
 intro hf
 have hf : bsF (fcmp n.f0) l = true := by simpa using hf
 have hil := bsF_lt hf
 have hrm := List.getElem_mem hil
 have hget : l[bsI (fcmp n.f0) l]? = some l[bsI (fcmp n.f0) l] := List.getElem?_eq_getElem hil
 have hvn := ht.n _ hrm
 have hix : 0 + ((bsI (fcmp n.f0) l : Nat) : Int).toNat = bsI (fcmp n.f0) l := by omega
 conv => whnf
 refine ⟨_, idx_map evRw l _ hil, ?_⟩
 conv => whnf
 refine ⟨_, containsS_pc l[bsI (fcmp n.f0) l].v n.f1 hvn, ?_⟩
 conv => whnf
 refine ⟨by kernel_rfl, ?_⟩
 conv => whnf
 constructor
 ·intro hk
  have hk : (l[bsI (fcmp n.f0) l].v.any fun x => n.f1.toList == x.toList) = false := Eq.mp (Bool.not_eq_true' _) hk
  have e : dropV l n = (l, 2) := by unfold dropV; rw [if_neg hno, if_neg (by rw [hf]; decide), hget]; exact if_pos hk
  conv => whnf
  rw [e]
  exact ⟨⟨rfl, Or.inl rfl, trivial⟩, rfl, trivial⟩
 intro hk
 have hk : (l[bsI (fcmp n.f0) l].v.any fun x => n.f1.toList == x.toList) = true := by simpa using hk
 have e : dropV l n = if (dropRow l[bsI (fcmp n.f0) l] n.f1).v = [] then (l.take (bsI (fcmp n.f0) l) ++ l.drop (bsI (fcmp n.f0) l + 1), 0) else (l.set (bsI (fcmp n.f0) l) (dropRow l[bsI (fcmp n.f0) l] n.f1), 0) := by unfold dropV; rw [if_neg hno, if_neg (by rw [hf]; decide), hget]; exact if_neg (by rw [hk]; decide)
 conv => whnf
 refine ⟨_, own_pc l hl ht.n, ?_⟩
 conv => whnf
 refine ⟨by rw [lenV_eq, List.length_map]; omega, ?_⟩
 conv => whnf
 refine ⟨evRx l[bsI (fcmp n.f0) l], by rw [hix, List.getElem?_map, hget]; rfl, ?_⟩
 conv => whnf
 refine ⟨.rw 0 2 ((l.map evRx).set (bsI (fcmp n.f0) l) (.ag [.s (.string l[bsI (fcmp n.f0) l].p), .any])), by rw [hix]; rfl, ?_⟩
 conv => whnf
 refine ⟨.xo 1 (l[bsI (fcmp n.f0) l].v.map evS), by rw [List.take_of_length_le (Nat.le_refl _)], noX_S _, ?_⟩
 conv => whnf
 refine ⟨_, deleteFS_pc l[bsI (fcmp n.f0) l].v hvn _ [.s (.string n.f0), .s (.string n.f1)] (fun x => x.toList == n.f1.toList) (fun x => dropF_pc x n.f0 n.f1), ?_⟩
 conv => whnf
 refine ⟨fun x hx p hp => ?_, ?_⟩
 ·obtain ⟨q, _, rfl⟩ := List.mem_map.1 hx
  rw [List.mem_singleton.1 hp]; rfl
 conv => whnf
 refine ⟨by rw [lenV_eq, List.length_map]; omega, ?_⟩
 conv => whnf
 refine ⟨.ag [.s (.string l[bsI (fcmp n.f0) l].p), .any], by rw [hix]; exact List.getElem?_set_self (by rw [List.length_map]; exact hil), ?_⟩
 conv => whnf
 refine ⟨.xo 1 ((dropRow l[bsI (fcmp n.f0) l] n.f1).v.map evS), by rw [List.take_of_length_le (Nat.le_refl _)]; rfl, noX_S _, ?_⟩
 conv => whnf
 have hset : (l.set (bsI (fcmp n.f0) l) (dropRow l[bsI (fcmp n.f0) l] n.f1))[bsI (fcmp n.f0) l]? = some (dropRow l[bsI (fcmp n.f0) l] n.f1) := List.getElem?_set_self hil
 have hslen : (l.set (bsI (fcmp n.f0) l) (dropRow l[bsI (fcmp n.f0) l] n.f1)).length = l.length := List.length_set ..
 generalize hS : l.set (bsI (fcmp n.f0) l) (dropRow l[bsI (fcmp n.f0) l] n.f1) = S at e hset hslen
 refine ⟨.rw 0 2 (S.map evRx), ?_, ?_⟩
 ·rw [← hS, hix, List.set_set, List.map_set]; rfl
 conv => whnf
 refine ⟨by rw [lenV_eq, List.length_map]; omega, ?_⟩
 conv => whnf
 refine ⟨evRx (dropRow l[bsI (fcmp n.f0) l] n.f1), by rw [hix, List.getElem?_map, hset]; rfl, ?_⟩
 conv => whnf
 have hfzx : ∀ L : List RW, some (PV.rw 0 2 ((L.map evRx).map PV.fzE)) = some (.rw 0 2 (L.map evRw)) := fun L => by rw [List.map_map, show (PV.fzE ∘ evRx) = evRw from funext evRx_fz]
 have hfzw : ∀ L : List RW, (L.map evRw).map PV.fzE = L.map evRw := fun L => by rw [List.map_map]; rfl
 have hfiw : ∀ L : List RW, okFi (L.map evRw) := fun L x hx p hp => by
  obtain ⟨r, _, rfl⟩ := List.mem_map.1 hx
  rcases List.mem_cons.1 hp with rfl | hp
  ·trivial
  ·rw [List.mem_singleton.1 hp]; trivial
 constructor
 ·intro hz
  have hz : (dropRow l[bsI (fcmp n.f0) l] n.f1).v = [] := by
   have : (((List.map evS (dropRow l[bsI (fcmp n.f0) l] n.f1).v).length : Nat) : Int) = 0 := eq_of_beq hz
   rw [List.length_map] at this
   exact List.eq_nil_of_length_eq_zero (by omega)
  rw [if_pos hz] at e
  have hSt : S.take (bsI (fcmp n.f0) l) = l.take (bsI (fcmp n.f0) l) := by rw [← hS, List.take_set_of_le (Nat.le_refl _)]
  have hSd : S.drop (bsI (fcmp n.f0) l + 1) = l.drop (bsI (fcmp n.f0) l + 1) := by rw [← hS, List.drop_set_of_lt (by omega)]
  conv => whnf
  refine ⟨.rw 0 2 (S.map evRw), hfzx S, okFi_Rx S, ?_⟩
  conv => whnf
  refine ⟨.xo 2 (S.map evRw), by rw [List.take_of_length_le (by simp [hslen])], noX_R S, ?_⟩
  conv => whnf
  refine ⟨_, pc_le (deleteR_pc (S.map evRw) (bsI (fcmp n.f0) l) (by rw [List.length_map]; omega) (by rw [List.length_map]; omega) (noX_R S)) ⟨rfl, rfl, incI hil (by omega), trivial⟩, ?_⟩
  conv => whnf
  refine ⟨.rw 0 2 ((l.take (bsI (fcmp n.f0) l) ++ l.drop (bsI (fcmp n.f0) l + 1)).map evRw), ?_, ?_, ?_⟩
  ·rw [← List.map_take, ← List.map_drop, ← List.map_append, hfzw, hSt, hSd]
  ·rw [← List.map_take, ← List.map_drop, ← List.map_append]; exact hfiw _
  conv => whnf
  refine ⟨.sl 0 2 ((l.take (bsI (fcmp n.f0) l) ++ l.drop (bsI (fcmp n.f0) l + 1)).map evRw), ?_, noX_R _, ?_⟩
  ·rw [List.take_of_length_le (by simp [hslen])]; rfl
  conv => whnf
  rw [e]
  exact ⟨⟨rfl, Or.inl rfl, trivial⟩, rfl, trivial⟩
 ·intro hz
  have hz : (dropRow l[bsI (fcmp n.f0) l] n.f1).v ≠ [] := fun h => by rw [h] at hz; cases hz
  rw [if_neg hz] at e
  conv => whnf
  refine ⟨.rw 0 2 (S.map evRw), hfzx S, okFi_Rx S, ?_⟩
  conv => whnf
  refine ⟨.sl 0 2 (S.map evRw), by rw [List.take_of_length_le (by simp [hslen])]; rfl, noX_R _, ?_⟩
  conv => whnf
  rw [e]
  exact ⟨⟨rfl, Or.inl rfl, trivial⟩, rfl, trivial⟩
noncomputable def bestV (l : List RW) (p : ByteArray) : ByteArray × Int :=
 if chkT l ≠ 0 ∨ isPath (bs p) = false then (⟨#[]⟩, 1)
 else if bsF (fcmp p) l = false then (⟨#[]⟩, 2)
 else match l[bsI (fcmp p) l]? with
  | some r => (r.v.getLastD ⟨#[]⟩, 0)
  | none => (⟨#[]⟩, 2)
theorem chk_ok {l : List RW} (hc : chkT l = 0) : OkT l := by
 unfold chkT at hc
 by_cases h : OkT l
 ·exact h
 ·rw [if_neg h] at hc; cases hc
theorem best_pc (l : List RW) (p : ByteArray) (hl : l.length ≤ 1000000) (ht : TinyR l) (hp : Tiny p) : PC 13 [.sl 0 2 (l.map evRw), evS p] (.tu [evS (bestV l p).1, .s (.int .i64 (bestV l p).2)]) := by
 have hlm : (l.map evRw).length = l.length := List.length_map ..
 refine pc_of tt_ok tt_follows Tryz.func13 rfl (by kernel_rfl) (by kernel_rfl) (Nat.le_of_ble_eq_true rfl) rfl ?_
 conv => whnf
 refine ⟨_, check_pc l hl ht, ?_⟩
 conv => whnf
 constructor
 ·intro h
  have h : chkT l ≠ 0 := by simpa using h
  have e : bestV l p = (⟨#[]⟩, 1) := if_pos (Or.inl h)
  conv => whnf
  rw [e]
  exact ⟨rfl, rfl, trivial⟩
 intro hc
 have hc : chkT l = 0 := by simpa using hc
 have hok := chk_ok hc
 conv => whnf
 refine ⟨_, pathMay_pc p hp, ?_⟩
 conv => whnf
 constructor
 ·intro h
  have h : isPath (bs p) = false := Eq.mp (Bool.not_eq_true' _) h
  have e : bestV l p = (⟨#[]⟩, 1) := if_pos (Or.inr h)
  conv => whnf
  rw [e]
  exact ⟨rfl, rfl, trivial⟩
 intro hm
 have hm : isPath (bs p) = true := by simpa using hm
 have hno : ¬ (chkT l ≠ 0 ∨ isPath (bs p) = false) := fun h => h.elim (fun h => h hc) (fun h => by rw [hm] at h; cases h)
 conv => whnf
 refine ⟨_, find_pc l p hl (okT_mono hok p), ?_⟩
 conv => whnf
 constructor
 ·intro hf
  have hf : bsF (fcmp p) l = false := Eq.mp (Bool.not_eq_true' _) hf
  have e : bestV l p = (⟨#[]⟩, 2) := by unfold bestV; rw [if_neg hno, if_pos hf]
  conv => whnf
  rw [e]
  exact ⟨rfl, rfl, trivial⟩
 intro hf
 have hf : bsF (fcmp p) l = true := by simpa using hf
 have hil := bsF_lt hf
 have hrm := List.getElem_mem hil
 have hget : l[bsI (fcmp p) l]? = some l[bsI (fcmp p) l] := List.getElem?_eq_getElem hil
 have hvn := ht.n _ hrm
 have hne : 0 < l[bsI (fcmp p) l].v.length := List.length_pos_iff.2 (hok _ hil).2.1
 have e : bestV l p = (l[bsI (fcmp p) l].v.getLastD ⟨#[]⟩, 0) := by unfold bestV; rw [if_neg hno, if_neg (by rw [hf]; decide), hget]
 have hw : IntKind.i64.wrap (((l[bsI (fcmp p) l].v.map evS).length : Int) - 1) = ((l[bsI (fcmp p) l].v.length - 1 : Nat) : Int) := by rw [List.length_map, IntKind.wrap_i64]; omega
 have hlast : l[bsI (fcmp p) l].v.getLastD ⟨#[]⟩ = l[bsI (fcmp p) l].v[l[bsI (fcmp p) l].v.length - 1]'(by omega) := by
  rw [List.getLastD_eq_getLast?, List.getLast?_eq_getElem?, List.getElem?_eq_getElem (by omega)]; rfl
 conv => whnf
 refine ⟨_, idx_map evRw l _ hil, ?_⟩
 conv => whnf
 refine ⟨_, idx_map evRw l _ hil, ?_⟩
 conv => whnf
 refine ⟨_, idx_mapI evS l[bsI (fcmp p) l].v (l[bsI (fcmp p) l].v.length - 1) hw (by omega), ?_⟩
 conv => whnf
 refine ⟨by kernel_rfl, ?_⟩
 conv => whnf
 conv => whnf
 rw [e, hlast]
 exact ⟨rfl, rfl, trivial⟩
def nodesR (r : RW) : List S36 := r.v.map fun s => ⟨r.p, s⟩
def allN (l : List RW) : List S36 := l.flatMap nodesR
theorem allN_take (l : List RW) (i : Nat) (h : i < l.length) : allN (l.take (i + 1)) = allN (l.take i) ++ nodesR l[i] := by
 unfold allN
 rw [List.take_succ_eq_append_getElem h, List.flatMap_append]
 simp
theorem allN_le (l : List RW) (i : Nat) : (allN (l.take i)).length ≤ (allN l).length := by
 conv => rhs; rw [← List.take_append_drop i l]
 unfold allN
 rw [List.flatMap_append, List.length_append]
 omega
theorem all_pc (l : List RW) (hl : l.length ≤ 1000000) (ht : TinyR l) (hn : (allN l).length ≤ 1000000) : PC 11 [.sl 0 2 (l.map evRw)] (.tu [.sl 4 2 ((if chkT l = 0 then allN l else []).map evN), .s (.int .i64 (chkT l))]) := by
 have hlm : (l.map evRw).length = l.length := List.length_map ..
 refine pc_of tt_ok tt_follows Tryz.func11 rfl (by kernel_rfl) (by kernel_rfl) (Nat.le_of_ble_eq_true rfl) rfl ?_
 conv => whnf
 refine ⟨_, check_pc l hl ht, ?_⟩
 conv => whnf
 constructor
 ·intro h
  have h : chkT l ≠ 0 := by simpa using h
  conv => whnf
  rw [if_neg h]
  exact ⟨⟨rfl, Or.inr rfl, Or.inl rfl⟩, rfl, trivial⟩
 intro hc
 have hc : chkT l = 0 := by simpa using hc
 conv => whnf
 refine ⟨Nat, fun i => i ≤ l.length, fun i => [(51, .s (.int .i64 i)), (15, .sl 36 2 ((allN (l.take i)).map evN)), (104, .fr ((allN (l.take i)).map evN).length 2)], [6, 9, 45, 48], fun i => l.length - i, 0, Nat.zero_le _, ?_, fun i hi => ?_⟩
 ·refine ⟨⟨rfl, trivial, ⟨rfl, Or.inr rfl, Or.inr (Or.inr rfl)⟩, Nat.le_refl _, Or.inl rfl, trivial, trivial⟩, ?_⟩
  repeat' (first | exact trivial | refine ⟨?_, ?_⟩ | (((conv => lhs; whnf) <;> (try (conv => rhs; whnf))) <;> exact rfl))
 conv => whnf
 constructor
 ·intro h
  have hil := ltm h
  have hle := allN_le l (i + 1)
  rw [allN_take l i hil, List.length_append] at hle
  have hnl : (nodesR l[i]).length = l[i].v.length := List.length_map _
  conv => whnf
  refine ⟨_, idx_map evRw l i hil, ?_⟩
  conv => whnf
  refine ⟨Nat, fun k => k ≤ l[i].v.length, fun k => [(72, .s (.int .i64 k)), (15, .sl 36 2 ((allN (l.take i) ++ (nodesR l[i]).take k).map evN)), (104, .fr ((allN (l.take i) ++ (nodesR l[i]).take k).map evN).length 2)], [6, 9, 21, 22, 45, 48, 51, 66, 69], fun k => l[i].v.length - k, 0, Nat.zero_le _, ?_, fun k hk => ?_⟩
  ·have e0 : allN (l.take i) ++ (nodesR l[i]).take 0 = allN (l.take i) := by simp
   refine ⟨⟨rfl, trivial, ⟨by rw [e0], Or.inl rfl, Or.inr (Or.inl rfl)⟩, Nat.le_refl _, Or.inr (congrArg (fun q : List S36 => PV.fr (q.map evN).length 2) e0.symm), trivial, trivial⟩, ?_⟩
   repeat' (first | exact trivial | refine ⟨?_, ?_⟩ | (((conv => lhs; whnf) <;> (try (conv => rhs; whnf))) <;> exact rfl))
  conv => whnf
  constructor
  ·intro h
   have hkl : k < l[i].v.length := ltm h
   have hlen : ((allN (l.take i) ++ (nodesR l[i]).take k).map evN).length ≤ 1000000 := by
    rw [List.length_map, List.length_append, List.length_take]; omega
   have hnx : (nodesR l[i]).take (k + 1) = (nodesR l[i]).take k ++ [⟨l[i].p, l[i].v[k]⟩] := by
    rw [List.take_succ_eq_append_getElem (by omega)]
    congr 2
    exact List.getElem_map _
   have hmm : (allN (l.take i) ++ (nodesR l[i]).take (k + 1)).map evN = (allN (l.take i) ++ (nodesR l[i]).take k).map evN ++ [evN ⟨l[i].p, l[i].v[k]⟩] := by rw [hnx, ← List.append_assoc, List.map_append]; rfl
   conv => whnf
   refine ⟨_, idx_map evS l[i].v k hkl, ?_⟩
   conv => whnf
   refine ⟨?_, rfl, ?_⟩
   ·show _ + 1 ≤ 9223372036854775807 ∧ (_ + 1) * 32 ≤ 140737488355328
    omega
   conv => whnf
   refine ⟨k + 1, hkl, less1 hkl, ⟨⟨incI hkl (by omega), trivial, ⟨?_, Or.inl rfl, Or.inr (Or.inl rfl)⟩, Nat.le_refl _, Or.inr ?_, trivial, trivial⟩, ?_⟩⟩
   ·exact hmm.symm
   ·exact congrArg (fun q : List PV => PV.fr q.length 2) hmm.symm
   ·repeat' (first | exact trivial | refine ⟨?_, ?_⟩ | (((conv => lhs; whnf) <;> (try (conv => rhs; whnf))) <;> exact rfl))
  ·intro h
   have hke : k = l[i].v.length := gem h hk
   conv => whnf
   have e1 : allN (l.take i) ++ (nodesR l[i]).take k = allN (l.take (i + 1)) := by rw [allN_take l i hil, List.take_of_length_le (l := nodesR l[i]) (by omega)]
   refine ⟨i + 1, hil, less1 hil, ⟨⟨incI hil (by omega), trivial, ⟨by rw [e1], Or.inl rfl, Or.inr (Or.inl rfl)⟩, Nat.le_refl _, Or.inr (congrArg (fun q : List S36 => PV.fr (q.map evN).length 2) e1), trivial, trivial⟩, ?_⟩⟩
   repeat' (first | exact trivial | refine ⟨?_, ?_⟩ | (((conv => lhs; whnf) <;> (try (conv => rhs; whnf))) <;> exact rfl))
 ·intro h
  have hil := gem h hi
  subst hil
  conv => whnf
  have e2 : allN (l.take l.length) = allN l := by rw [List.take_length]
  rw [if_pos hc, hc]
  refine ⟨⟨by rw [e2], Or.inl rfl, ?_⟩, rfl, trivial⟩
  exact Or.inr rfl
theorem nodeSet_pc (l : List S36) (hl : l.length ≤ 1000000) (ht : ∀ x ∈ l, TinyN x) : PC 34 [.sl 0 2 (l.map evN)] (.tu [.sl 4 2 ((if l.all mayN then setN l else []).map evN), .s (.int .i64 (if l.all mayN then 0 else 1))]) :=
 pc_row flatN Tryz.func34 (by kernel_rfl) rfl rfl l (by omega) _ fun w A c hC hc =>
  (node_Set.calls A c l _ _ w hC hc (by
   unfold node_Set.f
   rw [if_pos ⟨by omega, ht⟩]
   split <;> rfl)).mono fun e w' ⟨v, he, hr, hb⟩ => ⟨_, he, hb, fun F => (flatN.res hr).pair (fun ps e => by cases e)⟩
def snocR (l : List RW) (x : S36) : List RW :=
 match l.getLast? with
 | some r => if eqS r.p x.f0 then l.dropLast ++ [⟨r.p, r.v ++ [x.f1]⟩] else l ++ [⟨x.f0, [x.f1]⟩]
 | none => [⟨x.f0, [x.f1]⟩]
def rowsN (l : List S36) : List RW := l.foldl snocR []
def evRy (r : RW) : PV := .ag [.s (.string r.p), match r.v with | [s] => .sl 1 1 [evS s] | v => .xo 1 (v.map evS)]
theorem rowsN_take (l : List S36) (i : Nat) (h : i < l.length) : rowsN (l.take (i + 1)) = snocR (rowsN (l.take i)) l[i] := by
 unfold rowsN
 rw [List.take_succ_eq_append_getElem h, List.foldl_append]
 rfl
theorem set_last {α : Type} (L : List α) (y : α) (h : 0 < L.length) : L.set (L.length - 1) y = L.dropLast ++ [y] := by
 obtain ⟨M, z, rfl⟩ : ∃ M z, L = M ++ [z] := ⟨_, _, (List.dropLast_concat_getLast (List.length_pos_iff.1 h)).symm⟩
 simp
theorem snocR_same {L : List RW} {R : RW} {x : S36} (h : L[L.length - 1]? = some R) (hq : eqS R.p x.f0 = true) : snocR L x = L.dropLast ++ [⟨R.p, R.v ++ [x.f1]⟩] := by
 unfold snocR
 rw [List.getLast?_eq_getElem?, h]
 exact if_pos hq
theorem snocR_other {L : List RW} {x : S36} (h : ∀ R, L[L.length - 1]? = some R → eqS R.p x.f0 = false) : snocR L x = L ++ [⟨x.f0, [x.f1]⟩] := by
 unfold snocR
 rw [List.getLast?_eq_getElem?]
 cases hq : L[L.length - 1]? with
 | none =>
  have hl : ¬ L.length - 1 < L.length := fun e => by rw [List.getElem?_eq_getElem e] at hq; cases hq
  have : L = [] := List.eq_nil_of_length_eq_zero (by omega)
  subst this; rfl
 | some R => exact if_neg (by rw [h R hq]; decide)
theorem app_row {xs : List PV} {y : PV} {n : Nat} (h : xs.length = n) : List.take n xs ++ [y] ++ List.drop (n + 1) xs = xs ++ [y] := by
 rw [List.take_of_length_le (by omega), List.drop_of_length_le (by omega), List.append_nil]
theorem evRy_fz (r : RW) : (evRy r).fzE = evRw r := by
 obtain ⟨p, v⟩ := r
 rcases v with _ | ⟨s, _ | ⟨s2, t⟩⟩ <;> rfl
theorem okFi_Ry (l : List RW) : okFi (l.map evRy) := fun x hx p hp => by
 obtain ⟨⟨q, v⟩, _, rfl⟩ := List.mem_map.1 hx
 rcases List.mem_cons.1 hp with rfl | hp
 ·trivial
 ·rw [List.mem_singleton.1 hp]
  have hS : ∀ v : List ByteArray, ∀ y ∈ v.map evS, ∀ p ∈ y.cells, p ≠ PV.any := fun v y hy q hq => by
   obtain ⟨s, _, rfl⟩ := List.mem_map.1 hy
   rw [List.mem_singleton.1 hq]
   exact fun e => by cases e
  rcases v with _ | ⟨s, _ | ⟨s2, t⟩⟩
  ·exact hS []
  ·trivial
  ·exact hS (s :: s2 :: t)
theorem noX_y (n : S36) : noX [evRy ⟨n.f0, [n.f1]⟩] := fun x hx p hp => by
 rw [List.mem_singleton.1 hx] at hp
 rcases List.mem_cons.1 hp with rfl | hp
 ·rfl
 ·rw [List.mem_singleton.1 hp]; rfl
theorem of_pc (l : List S36) (hl : l.length ≤ 1000000) (ht : ∀ x ∈ l, TinyN x) (hs : (setN l).length ≤ 1000000) (hr : ∀ i, (rowsN ((setN l).take i)).length ≤ 1000000) (hrv : ∀ i, ∀ r ∈ rowsN ((setN l).take i), r.v ≠ [] ∧ r.v.length ≤ 1000000) : PC 12 [.sl 0 2 (l.map evN)] (.tu [.sl 0 2 ((if l.all mayN then rowsN (setN l) else []).map evRw), .s (.int .i64 (if l.all mayN then 0 else 1))]) := by
 refine pc_of (tt_ok.wx [(6, 2), (45, 1), (49, 1), (58, 2), (59, 2)] [2] false [62]) tt_follows Tryz.func12 rfl (by kernel_rfl) (by kernel_rfl) (Nat.le_of_ble_eq_true rfl) rfl ?_
 conv => whnf
 refine ⟨_, nodeSet_pc l hl ht, ?_⟩
 conv => whnf
 cases hm : l.all mayN
 ·refine ⟨fun _ => ?_, (fun h => by cases h)⟩
  conv => whnf
  exact ⟨⟨rfl, Or.inr rfl, trivial⟩, rfl, trivial⟩
 refine ⟨(fun h => by cases h), fun _ => ?_⟩
 conv => whnf
 refine ⟨Nat, fun i => i ≤ (setN l).length, fun i => [(60, .s (.int .i64 i)), (18, .vw 6 0 2 0 (rowsN ((setN l).take i)).length), (19, .rw 0 2 ((rowsN ((setN l).take i)).map evRy))], [6, 9, 38, 54, 57], fun i => (setN l).length - i, 0, Nat.zero_le _, ?_, fun i hi => ?_⟩
 ·refine ⟨⟨rfl, trivial, rfl, rfl, rfl, Nat.two_pos, trivial⟩, ?_⟩
  repeat' (first | exact trivial | refine ⟨?_, ?_⟩ | (((conv => lhs; whnf) <;> (try (conv => rhs; whnf))) <;> exact rfl))
  (conv => whnf)
  exact Nat.le_refl _
 conv => whnf
 constructor
 ·intro h
  have hil : i < (setN l).length := ltm h
  conv => whnf
  refine ⟨_, idx_map evN (setN l) i hil, ?_⟩
  conv => whnf
  have hLn := hr i
  have hsn := rowsN_take (setN l) i hil
  constructor
  ·intro hg
   have hg : IntKind.i64.wrap (((rowsN ((setN l).take i)).length : Int) - 1) ≥ 0 := of_decide_eq_true hg
   have hn0 : 0 < (rowsN ((setN l).take i)).length := by rw [IntKind.wrap_i64] at hg; omega
   have hw : IntKind.i64.wrap (((rowsN ((setN l).take i)).length : Int) - 1) = (((rowsN ((setN l).take i)).length - 1 : Nat) : Int) := by rw [IntKind.wrap_i64]; omega
   have hgl : (rowsN ((setN l).take i))[(rowsN ((setN l).take i)).length - 1]? = some ((rowsN ((setN l).take i))[(rowsN ((setN l).take i)).length - 1]'(by omega)) := List.getElem?_eq_getElem (by omega)
   have hix : 0 + (IntKind.i64.wrap (((rowsN ((setN l).take i)).length : Int) - 1)).toNat = (rowsN ((setN l).take i)).length - 1 := by rw [hw]; omega
   generalize hR : (rowsN ((setN l).take i))[(rowsN ((setN l).take i)).length - 1]'(by omega) = R at hgl
   have hgy : ((rowsN ((setN l).take i)).map evRy)[0 + (IntKind.i64.wrap (((rowsN ((setN l).take i)).length : Int) - 1)).toNat]? = some (evRy R) := by rw [hix, List.getElem?_map, hgl]; rfl
   conv => whnf
   refine ⟨by rw [lenV_eq, hw]; omega, ?_⟩
   conv => whnf
   refine ⟨evRy R, hgy, ?_⟩
   conv => whnf
   refine ⟨by kernel_rfl, ?_⟩
   conv => whnf
   constructor
   ·intro hq
    have hq : eqS R.p (setN l)[i].f0 = true := hq
    have hsame := snocR_same hgl hq
    have hcon : ((rowsN ((setN l).take i)).map evRy).set ((rowsN ((setN l).take i)).length - 1) (evRy ⟨R.p, R.v ++ [(setN l)[i].f1]⟩) = (rowsN ((setN l).take (i + 1))).map evRy := by
     rw [hsn, hsame, List.map_append]
     have := set_last ((rowsN ((setN l).take i)).map evRy) (evRy ⟨R.p, R.v ++ [(setN l)[i].f1]⟩) (by rw [List.length_map]; exact hn0)
     rw [List.length_map] at this
     rw [this, List.map_dropLast]; rfl
    have hlen' : (rowsN ((setN l).take (i + 1))).length = (rowsN ((setN l).take i)).length := by rw [hsn, hsame, List.length_append, List.length_dropLast]; show _ + 1 = _; omega
    have hRv := hrv i R (List.mem_of_getElem? hgl)
    obtain ⟨Rp, Rv⟩ := R
    conv => whnf
    refine ⟨by rw [lenV_eq, hw]; omega, ?_⟩
    conv => whnf
    rcases Rv with _ | ⟨s, _ | ⟨s2, t⟩⟩
    ·exact absurd rfl hRv.1
    ·refine ⟨evRy ⟨Rp, [s]⟩, hgy, ?_⟩
     conv => whnf
     refine ⟨by show (1 + 1 : Nat) ≤ 9223372036854775807 ∧ (1 + 1) * 16 ≤ 140737488355328; omega, ?_⟩
     conv => whnf
     refine ⟨Or.inr (by simp), .rw 0 1 ([s, (setN l)[i].f1].map evS), rfl, ?_⟩
     conv => whnf
     refine ⟨by rw [lenV_eq, hw]; omega, ?_⟩
     conv => whnf
     refine ⟨evRy ⟨Rp, [s]⟩, hgy, ?_⟩
     conv => whnf
     refine ⟨.xo 1 ([s, (setN l)[i].f1].map evS), rfl, noX_S _, ?_⟩
     conv => whnf
     refine ⟨.rw 0 2 ((rowsN ((setN l).take (i + 1))).map evRy), by rw [hix, ← hcon]; rfl, ?_⟩
     conv => whnf
     refine ⟨by kernel_rfl, ?_⟩
     conv => whnf
     refine ⟨i + 1, hil, less1 hil, ⟨⟨incI hil (by omega), trivial, ?_, rfl, rfl, Nat.two_pos, trivial⟩, ?_⟩⟩
     ·exact congrArg (fun q : Nat => PV.vw 6 0 2 0 q) hlen'.symm
     ·repeat' (first | exact trivial | refine ⟨?_, ?_⟩ | (((conv => lhs; whnf) <;> (try (conv => rhs; whnf))) <;> exact rfl))
      (conv => whnf)
      exact Nat.le_refl _
    ·refine ⟨evRy ⟨Rp, s :: s2 :: t⟩, hgy, ?_⟩
     conv => whnf
     refine ⟨.rw 0 2 (((rowsN ((setN l).take i)).map evRy).set ((rowsN ((setN l).take i)).length - 1) (.ag [.s (.string Rp), .any])), by rw [hix]; rfl, ?_⟩
     conv => whnf
     have hvl : ((s :: s2 :: t).map evS).length ≤ 1000000 := by rw [List.length_map]; exact hRv.2
     refine ⟨by show _ + 1 ≤ 9223372036854775807 ∧ (_ + 1) * 16 ≤ 140737488355328; omega, ?_⟩
     conv => whnf
     refine ⟨.rw 2 1 ((s :: s2 :: t ++ [(setN l)[i].f1]).map evS), by rw [List.map_append]; exact congrArg (fun q : List PV => some (PV.rw 2 1 q)) (app_row rfl), ?_⟩
     conv => whnf
     refine ⟨by rw [lenV_eq, hw]; omega, ?_⟩
     conv => whnf
     refine ⟨.ag [.s (.string Rp), .any], by rw [hix]; exact List.getElem?_set_self (by rw [List.length_map]; omega), ?_⟩
     conv => whnf
     refine ⟨.xo 1 ((s :: s2 :: t ++ [(setN l)[i].f1]).map evS), by rw [List.take_of_length_le (by show _ ≤ ((s :: s2 :: t).map evS).length + 1; rw [List.length_map, List.length_append, List.length_map]; exact Nat.le_refl _)], noX_S _, ?_⟩
     conv => whnf
     refine ⟨.rw 0 2 ((rowsN ((setN l).take (i + 1))).map evRy), by rw [hix, List.set_set, ← hcon]; rfl, ?_⟩
     conv => whnf
     refine ⟨by kernel_rfl, ?_⟩
     conv => whnf
     refine ⟨i + 1, hil, less1 hil, ⟨⟨incI hil (by omega), trivial, ?_, rfl, rfl, Nat.two_pos, trivial⟩, ?_⟩⟩
     ·exact congrArg (fun q : Nat => PV.vw 6 0 2 0 q) hlen'.symm
     ·repeat' (first | exact trivial | refine ⟨?_, ?_⟩ | (((conv => lhs; whnf) <;> (try (conv => rhs; whnf))) <;> exact rfl))
      (conv => whnf)
      exact Nat.le_refl _
   ·intro hq
    have hq : eqS R.p (setN l)[i].f0 = false := hq
    have hoth := snocR_other (x := (setN l)[i]) (fun R' hR' => by rw [hgl] at hR'; obtain rfl := Option.some.inj hR'; exact hq)
    conv => whnf
    refine ⟨.sl 0 2 [evRy ⟨(setN l)[i].f0, [(setN l)[i].f1]⟩], rfl, noX_y _, ?_⟩
    conv => whnf
    refine ⟨by show (rowsN ((setN l).take i)).length + 1 ≤ 9223372036854775807 ∧ ((rowsN ((setN l).take i)).length + 1) * 40 ≤ 140737488355328; omega, ?_⟩
    conv => whnf
    refine ⟨.rw 2 2 ((rowsN ((setN l).take (i + 1))).map evRy), by rw [hsn, hoth, List.map_append]; exact congrArg (fun q : List PV => some (PV.rw 2 2 q)) (app_row (xs := (rowsN ((setN l).take i)).map evRy) (y := evRy ⟨(setN l)[i].f0, [(setN l)[i].f1]⟩) (n := (rowsN ((setN l).take i)).length) (List.length_map _)), ?_⟩
    conv => whnf
    refine ⟨i + 1, hil, less1 hil, ⟨⟨incI hil (by omega), trivial, ?_, rfl, rfl, Nat.two_pos, trivial⟩, ?_⟩⟩
    ·exact congrArg (fun q : Nat => PV.vw 6 0 2 0 q) (show (rowsN ((setN l).take i)).length + 1 = (rowsN ((setN l).take (i + 1))).length by rw [hsn, hoth, List.length_append]; rfl)
    ·repeat' (first | exact trivial | refine ⟨?_, ?_⟩ | (((conv => lhs; whnf) <;> (try (conv => rhs; whnf))) <;> exact rfl))
     (conv => whnf)
     exact Nat.le_refl _
  ·intro hg
   have hn0 : (rowsN ((setN l).take i)).length = 0 := by
    have hg : ¬ IntKind.i64.wrap (((rowsN ((setN l).take i)).length : Int) - 1) ≥ 0 := of_decide_eq_false hg
    rw [IntKind.wrap_i64] at hg; omega
   have hoth := snocR_other (L := (rowsN ((setN l).take i))) (x := (setN l)[i]) (fun R' hR' => by rw [List.getElem?_eq_none (by omega)] at hR'; cases hR')
   conv => whnf
   refine ⟨by kernel_rfl, ?_⟩
   conv => whnf
   conv => whnf
   refine ⟨.sl 0 2 [evRy ⟨(setN l)[i].f0, [(setN l)[i].f1]⟩], rfl, noX_y _, ?_⟩
   conv => whnf
   refine ⟨by show (rowsN ((setN l).take i)).length + 1 ≤ 9223372036854775807 ∧ ((rowsN ((setN l).take i)).length + 1) * 40 ≤ 140737488355328; omega, ?_⟩
   conv => whnf
   refine ⟨.rw 2 2 ((rowsN ((setN l).take (i + 1))).map evRy), by rw [hsn, hoth, List.map_append]; exact congrArg (fun q : List PV => some (PV.rw 2 2 q)) (app_row (xs := (rowsN ((setN l).take i)).map evRy) (y := evRy ⟨(setN l)[i].f0, [(setN l)[i].f1]⟩) (n := (rowsN ((setN l).take i)).length) (List.length_map _)), ?_⟩
   conv => whnf
   refine ⟨i + 1, hil, less1 hil, ⟨⟨incI hil (by omega), trivial, ?_, rfl, rfl, Nat.two_pos, trivial⟩, ?_⟩⟩
   ·exact congrArg (fun q : Nat => PV.vw 6 0 2 0 q) (show (rowsN ((setN l).take i)).length + 1 = (rowsN ((setN l).take (i + 1))).length by rw [hsn, hoth, List.length_append]; rfl)
   ·repeat' (first | exact trivial | refine ⟨?_, ?_⟩ | (((conv => lhs; whnf) <;> (try (conv => rhs; whnf))) <;> exact rfl))
    (conv => whnf)
    exact Nat.le_refl _
 ·intro h
  have hil : i = (setN l).length := gem h hi
  subst hil
  have hfull : rowsN ((setN l).take (setN l).length) = rowsN (setN l) := by rw [List.take_length]
  conv => whnf
  refine ⟨.rw 0 2 ((rowsN (setN l)).map evRw), by rw [List.map_map, show (PV.fzE ∘ evRy) = evRw from funext evRy_fz, hfull], okFi_Ry _, ?_⟩
  conv => whnf
  refine ⟨.sl 0 2 ((rowsN (setN l)).map evRw), by rw [List.take_of_length_le (by rw [List.length_map, hfull]; exact Nat.le_refl _)]; rfl, noX_R _, ?_⟩
  conv => whnf
  exact ⟨⟨rfl, Or.inl rfl, trivial⟩, rfl, trivial⟩
theorem all16_pc (l : List RW) (hl : l.length ≤ 1000000) (hv : ∀ r ∈ l, r.v.length ≤ 1000000) (hn : (allN l).length ≤ 1000000) : PC 21 [.sl 0 2 (l.map evRw)] (.sl 4 2 ((allN l).map evN)) := by
 have hlm : (l.map evRw).length = l.length := List.length_map ..
 refine pc_of tt_ok tt_follows Tryz.func21 rfl (by kernel_rfl) (by kernel_rfl) (Nat.le_of_ble_eq_true rfl) rfl ?_
 conv => whnf
 refine ⟨Nat, fun i => i ≤ l.length, fun i => [(12, .s (.int .i64 i)), (9, .sl 40 2 ((allN (l.take i)).map evN)), (116, .fr ((allN (l.take i)).map evN).length 2)], [0, 6], fun i => l.length - i, 0, Nat.zero_le _, ?_, fun i hi => ?_⟩
 ·refine ⟨⟨rfl, trivial, ⟨rfl, Or.inr rfl, Or.inr (Or.inr rfl)⟩, Nat.le_refl _, Or.inl rfl, trivial, trivial⟩, ?_⟩
  repeat' (first | exact trivial | refine ⟨?_, ?_⟩ | (((conv => lhs; whnf) <;> (try (conv => rhs; whnf))) <;> exact rfl))
 conv => whnf
 constructor
 ·intro h
  have hil := ltm h
  have hle := allN_le l (i + 1)
  rw [allN_take l i hil, List.length_append] at hle
  have hnl : (nodesR l[i]).length = l[i].v.length := List.length_map _
  have hvn := hv _ (List.getElem_mem hil)
  conv => whnf
  refine ⟨Nat, fun k => k ≤ l[i].v.length, fun k => [(15, .s (.int .i64 k)), (9, .sl 40 2 ((allN (l.take i) ++ (nodesR l[i]).take k).map evN)), (116, .fr ((allN (l.take i) ++ (nodesR l[i]).take k).map evN).length 2)], [0, 6, 12], fun k => l[i].v.length - k, 0, Nat.zero_le _, ?_, fun k hk => ?_⟩
  ·have e0 : allN (l.take i) ++ (nodesR l[i]).take 0 = allN (l.take i) := by simp
   refine ⟨⟨rfl, trivial, ⟨by rw [e0], Or.inl rfl, Or.inr (Or.inl rfl)⟩, Nat.le_refl _, Or.inr (congrArg (fun q : List S36 => PV.fr (q.map evN).length 2) e0.symm), trivial, trivial⟩, ?_⟩
   repeat' (first | exact trivial | refine ⟨?_, ?_⟩ | (((conv => lhs; whnf) <;> (try (conv => rhs; whnf))) <;> exact rfl))
  conv => whnf
  refine ⟨_, idx_map evRw l i hil, ?_⟩
  conv => whnf
  constructor
  ·intro h
   have hkl : k < l[i].v.length := ltm h
   have hlen : ((allN (l.take i) ++ (nodesR l[i]).take k).map evN).length ≤ 1000000 := by
    rw [List.length_map, List.length_append, List.length_take]; omega
   have hnx : (nodesR l[i]).take (k + 1) = (nodesR l[i]).take k ++ [⟨l[i].p, l[i].v[k]⟩] := by
    rw [List.take_succ_eq_append_getElem (by omega)]
    congr 2
    exact List.getElem_map _
   have hmm : (allN (l.take i) ++ (nodesR l[i]).take (k + 1)).map evN = (allN (l.take i) ++ (nodesR l[i]).take k).map evN ++ [evN ⟨l[i].p, l[i].v[k]⟩] := by rw [hnx, ← List.append_assoc, List.map_append]; rfl
   conv => whnf
   refine ⟨_, idx_map evRw l i hil, ?_⟩
   conv => whnf
   refine ⟨_, idx_map evRw l i hil, ?_⟩
   conv => whnf
   refine ⟨_, idx_map evS l[i].v k hkl, ?_⟩
   conv => whnf
   refine ⟨?_, rfl, ?_⟩
   ·show _ + 1 ≤ 9223372036854775807 ∧ (_ + 1) * 32 ≤ 140737488355328
    omega
   conv => whnf
   refine ⟨by kernel_rfl, ?_⟩
   conv => whnf
   conv => whnf
   refine ⟨k + 1, hkl, less1 hkl, ⟨⟨incI hkl (by omega), trivial, ⟨?_, Or.inl rfl, Or.inr (Or.inl rfl)⟩, Nat.le_refl _, Or.inr ?_, trivial, trivial⟩, ?_⟩⟩
   ·exact hmm.symm
   ·exact congrArg (fun q : List PV => PV.fr q.length 2) hmm.symm
   ·repeat' (first | exact trivial | refine ⟨?_, ?_⟩ | (((conv => lhs; whnf) <;> (try (conv => rhs; whnf))) <;> exact rfl))
  ·intro h
   have hke : k = l[i].v.length := gem h hk
   conv => whnf
   have e1 : allN (l.take i) ++ (nodesR l[i]).take k = allN (l.take (i + 1)) := by rw [allN_take l i hil, List.take_of_length_le (l := nodesR l[i]) (by omega)]
   refine ⟨i + 1, hil, less1 hil, ⟨⟨incI hil (by omega), trivial, ⟨by rw [e1], Or.inl rfl, Or.inr (Or.inl rfl)⟩, Nat.le_refl _, Or.inr (congrArg (fun q : List S36 => PV.fr (q.map evN).length 2) e1), trivial, trivial⟩, ?_⟩⟩
   repeat' (first | exact trivial | refine ⟨?_, ?_⟩ | (((conv => lhs; whnf) <;> (try (conv => rhs; whnf))) <;> exact rfl))
 ·intro h
  have hil := gem h hi
  subst hil
  conv => whnf
  have e2 : allN (l.take l.length) = allN l := by rw [List.take_length]
  refine ⟨by rw [e2], Or.inl rfl, ?_⟩
  exact Or.inr rfl
def b16s (p : ByteArray) (a : ByteArray × Bool) (r : RW) : ByteArray × Bool := if eqS r.p p = true ∧ 0 < r.v.length then (r.v.getLastD ⟨#[]⟩, true) else a
def b16 (p : ByteArray) (l : List RW) : ByteArray × Bool := l.foldl (b16s p) (⟨#[]⟩, false)
theorem b16_take (p : ByteArray) (l : List RW) (i : Nat) (h : i < l.length) : b16 p (l.take (i + 1)) = b16s p (b16 p (l.take i)) l[i] := by
 unfold b16
 rw [List.take_succ_eq_append_getElem h, List.foldl_append]
 rfl
theorem best16_pc (l : List RW) (p : ByteArray) (hl : l.length ≤ 1000000) (hv : ∀ r ∈ l, r.v.length ≤ 1000000) : PC 22 [.sl 0 2 (l.map evRw), evS p] (.tu [evS (b16 p l).1, .s (.bool (b16 p l).2)]) := by
 have hlm : (l.map evRw).length = l.length := List.length_map ..
 refine pc_of tt_ok tt_follows Tryz.func22 rfl (by kernel_rfl) (by kernel_rfl) (Nat.le_of_ble_eq_true rfl) rfl ?_
 conv => whnf
 refine ⟨Nat, fun i => i ≤ l.length, fun i => [(24, .s (.int .i64 i)), (18, evS (b16 p (l.take i)).1), (21, .s (.bool (b16 p (l.take i)).2))], [0, 3], fun i => l.length - i, 0, Nat.zero_le _, ?_, fun i hi => ?_⟩
 ·refine ⟨⟨rfl, trivial, rfl, trivial, rfl, trivial, trivial⟩, ?_⟩
  repeat' (first | exact trivial | refine ⟨?_, ?_⟩ | (((conv => lhs; whnf) <;> (try (conv => rhs; whnf))) <;> exact rfl))
 conv => whnf
 constructor
 ·intro h
  have hil := ltm h
  have hvn := hv _ (List.getElem_mem hil)
  have hst := b16_take p l i hil
  have keep : ¬ (eqS l[i].p p = true ∧ 0 < l[i].v.length) → b16 p (l.take (i + 1)) = b16 p (l.take i) := fun h => by rw [hst]; exact if_neg h
  conv => whnf
  refine ⟨_, idx_map evRw l i hil, ?_⟩
  conv => whnf
  constructor
  ·intro hq
   have hq : eqS l[i].p p = true := hq
   conv => whnf
   refine ⟨_, idx_map evRw l i hil, ?_⟩
   conv => whnf
   constructor
   ·intro hg
    have hg : 0 < l[i].v.length := by
     have : (((l[i].v.map evS).length : Nat) : Int) > 0 := of_decide_eq_true hg
     rw [List.length_map] at this; omega
    have hnew : b16 p (l.take (i + 1)) = (l[i].v.getLastD ⟨#[]⟩, true) := by rw [hst]; exact if_pos ⟨hq, hg⟩
    have hw : IntKind.i64.wrap (((l[i].v.map evS).length : Int) - 1) = ((l[i].v.length - 1 : Nat) : Int) := by rw [List.length_map, IntKind.wrap_i64]; omega
    have hlast : l[i].v.getLastD ⟨#[]⟩ = l[i].v[l[i].v.length - 1]'(by omega) := by
     rw [List.getLastD_eq_getLast?, List.getLast?_eq_getElem?, List.getElem?_eq_getElem (by omega)]; rfl
    conv => whnf
    refine ⟨_, idx_map evRw l i hil, ?_⟩
    conv => whnf
    refine ⟨_, idx_map evRw l i hil, ?_⟩
    conv => whnf
    refine ⟨_, idx_mapI evS l[i].v (l[i].v.length - 1) hw (by omega), ?_⟩
    conv => whnf
    refine ⟨by kernel_rfl, ?_⟩
    conv => whnf
    conv => whnf
    refine ⟨i + 1, hil, less1 hil, ⟨⟨incI hil (by omega), trivial, ?_, trivial, ?_, trivial, trivial⟩, ?_⟩⟩
    ·exact congrArg evS (show l[i].v[l[i].v.length - 1]'(by omega) = (b16 p (l.take (i + 1))).1 by rw [hnew, hlast])
    ·exact congrArg (fun b : Bool => PV.s (.bool b)) (show true = (b16 p (l.take (i + 1))).2 by rw [hnew])
    ·repeat' (first | exact trivial | refine ⟨?_, ?_⟩ | (((conv => lhs; whnf) <;> (try (conv => rhs; whnf))) <;> exact rfl))
   ·intro hg
    have hg : ¬ 0 < l[i].v.length := by
     have : ¬ (((l[i].v.map evS).length : Nat) : Int) > 0 := of_decide_eq_false hg
     rw [List.length_map] at this; omega
    have hk := keep fun h => hg h.2
    conv => whnf
    refine ⟨i + 1, hil, less1 hil, ⟨⟨incI hil (by omega), trivial, ?_, trivial, ?_, trivial, trivial⟩, ?_⟩⟩
    ·exact congrArg (fun q : ByteArray × Bool => evS q.1) hk.symm
    ·exact congrArg (fun q : ByteArray × Bool => PV.s (.bool q.2)) hk.symm
    ·repeat' (first | exact trivial | refine ⟨?_, ?_⟩ | (((conv => lhs; whnf) <;> (try (conv => rhs; whnf))) <;> exact rfl))
  ·intro hq
   have hq : eqS l[i].p p = false := hq
   have hk := keep fun h => by rw [hq] at h; cases h.1
   conv => whnf
   refine ⟨i + 1, hil, less1 hil, ⟨⟨incI hil (by omega), trivial, ?_, trivial, ?_, trivial, trivial⟩, ?_⟩⟩
   ·exact congrArg (fun q : ByteArray × Bool => evS q.1) hk.symm
   ·exact congrArg (fun q : ByteArray × Bool => PV.s (.bool q.2)) hk.symm
   ·repeat' (first | exact trivial | refine ⟨?_, ?_⟩ | (((conv => lhs; whnf) <;> (try (conv => rhs; whnf))) <;> exact rfl))
 ·intro h
  have hil := gem h hi
  subst hil
  have e : b16 p (l.take l.length) = b16 p l := by rw [List.take_length]
  conv => whnf
  exact ⟨congrArg (fun q : ByteArray × Bool => evS q.1) e, congrArg (fun q : ByteArray × Bool => PV.s (.bool q.2)) e, trivial⟩
theorem snocR_lastp (L : List RW) (x : S36) : ∃ R, (snocR L x)[(snocR L x).length - 1]? = some R ∧ R.p = x.f0 := by
 unfold snocR
 split
 ·split
  ·rename_i r hr hq
   exact ⟨⟨r.p, r.v ++ [x.f1]⟩, by simp, eqS_iff.1 hq⟩
  ·exact ⟨⟨x.f0, [x.f1]⟩, by simp, rfl⟩
 ·exact ⟨⟨x.f0, [x.f1]⟩, rfl, rfl⟩
theorem noX_n (s : ByteArray) : noX [PV.ag [.s (.string s), .sl 1 0 []]] := fun x hx p hp => by
 rw [List.mem_singleton.1 hx] at hp
 rcases List.mem_cons.1 hp with rfl | hp
 ·rfl
 ·rw [List.mem_singleton.1 hp]; rfl
theorem of16_pc (l : List S36) (hl : l.length ≤ 1000000) (hr : ∀ i, (rowsN (l.take i)).length ≤ 1000000) (hrv : ∀ i, ∀ r ∈ rowsN (l.take i), r.v ≠ [] ∧ r.v.length ≤ 1000000) : PC 16 [.sl 0 2 (l.map evN)] (.sl 0 2 ((rowsN l).map evRw)) := by
 have hlm : (l.map evN).length = l.length := List.length_map ..
 refine pc_of (tt_ok.wx [(3, 2), (34, 2), (35, 2), (46, 1), (53, 1)] [2] false [56]) tt_follows Tryz.func16 rfl (by kernel_rfl) (by kernel_rfl) (Nat.le_of_ble_eq_true rfl) rfl ?_
 conv => whnf
 refine ⟨Nat, fun i => i ≤ l.length, fun i => [(12, .s (.int .i64 i)), (9, .vw 3 0 2 0 (rowsN (l.take i)).length), (10, .rw 0 2 ((rowsN (l.take i)).map evRx))], [0], fun i => l.length - i, 0, Nat.zero_le _, ?_, fun i hi => ?_⟩
 ·refine ⟨⟨rfl, trivial, rfl, rfl, rfl, Nat.two_pos, trivial⟩, ?_⟩
  repeat' (first | exact trivial | refine ⟨?_, ?_⟩ | (((conv => lhs; whnf) <;> (try (conv => rhs; whnf))) <;> exact rfl))
 conv => whnf
 constructor
 ·intro h
  have hil := ltm h
  conv => whnf
  have hLn := hr i
  have hsn := rowsN_take l i hil
  constructor
  ·intro h0
   have h0 : i = 0 := by have : (i : Int) = 0 := eq_of_beq h0
                         omega
   have hoth : snocR (rowsN (l.take i)) l[i] = (rowsN (l.take i)) ++ [⟨l[i].f0, [l[i].f1]⟩] := by subst h0; rfl
   conv => whnf
   refine ⟨by kernel_rfl, ?_⟩
   conv => whnf
   have hlen1 : (rowsN (l.take i)).length + 1 = (rowsN (l.take (i + 1))).length := by rw [hsn, hoth, List.length_append]; rfl
   have hwk : IntKind.i64.wrap ((((rowsN (l.take i)).length + 1 : Nat) : Int) - 1) = ((rowsN (l.take i)).length : Int) := by rw [IntKind.wrap_i64]; omega
   have hat : ((rowsN (l.take i)).map evRx ++ [PV.ag [.s (.string l[i].f0), .sl 1 0 []]])[0 + (IntKind.i64.wrap ((((rowsN (l.take i)).length + 1 : Nat) : Int) - 1)).toNat]? = some (.ag [.s (.string l[i].f0), .sl 1 0 []]) := by
    rw [hwk, show 0 + (((rowsN (l.take i)).length : Int)).toNat = (rowsN (l.take i)).length by omega, List.getElem?_append_right (by rw [List.length_map]; exact Nat.le_refl _), List.length_map, Nat.sub_self]; rfl
   conv => whnf
   refine ⟨_, idx_map evN l i hil, ?_⟩
   conv => whnf
   refine ⟨.sl 0 2 [.ag [.s (.string l[i].f0), .sl 1 0 []]], rfl, noX_n _, ?_⟩
   conv => whnf
   refine ⟨by show (rowsN (l.take i)).length + 1 ≤ 9223372036854775807 ∧ ((rowsN (l.take i)).length + 1) * 40 ≤ 140737488355328; omega, ?_⟩
   conv => whnf
   refine ⟨.rw 2 2 ((rowsN (l.take i)).map evRx ++ [.ag [.s (.string l[i].f0), .sl 1 0 []]]), congrArg (fun q : List PV => some (PV.rw 2 2 q)) (app_row (xs := (rowsN (l.take i)).map evRx) (y := .ag [.s (.string l[i].f0), .sl 1 0 []]) (n := (rowsN (l.take i)).length) (List.length_map _)), ?_⟩
   conv => whnf
   refine ⟨by show 0 ≤ IntKind.i64.wrap ((((rowsN (l.take i)).length + 1 : Nat) : Int) - 1) ∧ IntKind.i64.wrap ((((rowsN (l.take i)).length + 1 : Nat) : Int) - 1) < (((rowsN (l.take i)).length + 1 : Nat) : Int); rw [hwk]; omega, ?_⟩
   conv => whnf
   refine ⟨_, hat, ?_⟩
   conv => whnf
   refine ⟨_, idx_map evN l i hil, ?_⟩
   conv => whnf
   refine ⟨by show (0 + 1 : Nat) ≤ 9223372036854775807 ∧ (0 + 1) * 16 ≤ 140737488355328; omega, ?_⟩
   conv => whnf
   refine ⟨Or.inl rfl, .rw 0 1 [evS l[i].f1], rfl, ?_⟩
   conv => whnf
   refine ⟨by show 0 ≤ IntKind.i64.wrap ((((rowsN (l.take i)).length + 1 : Nat) : Int) - 1) ∧ IntKind.i64.wrap ((((rowsN (l.take i)).length + 1 : Nat) : Int) - 1) < (((rowsN (l.take i)).length + 1 : Nat) : Int); rw [hwk]; omega, ?_⟩
   conv => whnf
   refine ⟨_, hat, ?_⟩
   conv => whnf
   refine ⟨.xo 1 [evS l[i].f1], rfl, noX_S [l[i].f1], ?_⟩
   conv => whnf
   refine ⟨.rw 2 2 ((rowsN (l.take (i + 1))).map evRx), ?_, ?_⟩
   ·show some (PV.rw 2 2 (((rowsN (l.take i)).map evRx ++ [PV.ag [.s (.string l[i].f0), .sl 1 0 []]]).set (0 + (IntKind.i64.wrap ((((rowsN (l.take i)).length + 1 : Nat) : Int) - 1)).toNat) (evRx ⟨l[i].f0, [l[i].f1]⟩))) = _
    rw [hwk, show 0 + (((rowsN (l.take i)).length : Int)).toNat = (rowsN (l.take i)).length by omega, List.set_append_right _ _ (by rw [List.length_map]; exact Nat.le_refl _), List.length_map, Nat.sub_self, hsn, hoth, List.map_append]; rfl
   conv => whnf
   refine ⟨by kernel_rfl, ?_⟩
   conv => whnf
   conv => whnf
   refine ⟨i + 1, hil, less1 hil, ⟨⟨incI hil (by omega), trivial, ?_, rfl, rfl, Nat.two_pos, trivial⟩, ?_⟩⟩
   ·exact congrArg (fun q : Nat => PV.vw 3 0 2 0 q) hlen1
   ·repeat' (first | exact trivial | refine ⟨?_, ?_⟩ | (((conv => lhs; whnf) <;> (try (conv => rhs; whnf))) <;> exact rfl))
  ·intro h0
   have h0 : 0 < i := by
    have : ¬ (i : Int) = 0 := fun e => by rw [e] at h0; cases h0
    omega
   have hw1 : IntKind.i64.wrap ((i : Int) - 1) = ((i - 1 : Nat) : Int) := by rw [IntKind.wrap_i64]; omega
   obtain ⟨R, hgl, hRp⟩ := snocR_lastp (rowsN (l.take (i - 1))) (l[i - 1]'(by omega))
   rw [← rowsN_take l (i - 1) (by omega), show i - 1 + 1 = i by omega] at hgl
   have hn0 : 0 < (rowsN (l.take i)).length := by have := (List.getElem?_eq_some_iff.1 hgl).1; omega
   conv => whnf
   refine ⟨_, idx_map evN l i hil, ?_⟩
   conv => whnf
   refine ⟨_, idx_mapI evN l (i - 1) hw1 (by omega), ?_⟩
   conv => whnf
   refine ⟨by kernel_rfl, ?_⟩
   conv => whnf
   constructor
   ·intro hq
    have hq : eqS l[i].f0 (l[i - 1]'(by omega)).f0 = false := Eq.mp (Bool.not_eq_true' _) hq
    have hoth := snocR_other (L := (rowsN (l.take i))) (x := l[i]) (fun R' hR' => by
     rw [hgl] at hR'
     obtain rfl := Option.some.inj hR'
     cases he : eqS R.p l[i].f0
     ·rfl
     ·rw [hRp, eqS_iff] at he
      rw [he, eqS_iff.2 rfl] at hq
      cases hq)
    have hlen1 : (rowsN (l.take i)).length + 1 = (rowsN (l.take (i + 1))).length := by rw [hsn, hoth, List.length_append]; rfl
    have hwk : IntKind.i64.wrap ((((rowsN (l.take i)).length + 1 : Nat) : Int) - 1) = ((rowsN (l.take i)).length : Int) := by rw [IntKind.wrap_i64]; omega
    have hat : ((rowsN (l.take i)).map evRx ++ [PV.ag [.s (.string l[i].f0), .sl 1 0 []]])[0 + (IntKind.i64.wrap ((((rowsN (l.take i)).length + 1 : Nat) : Int) - 1)).toNat]? = some (.ag [.s (.string l[i].f0), .sl 1 0 []]) := by
     rw [hwk, show 0 + (((rowsN (l.take i)).length : Int)).toNat = (rowsN (l.take i)).length by omega, List.getElem?_append_right (by rw [List.length_map]; exact Nat.le_refl _), List.length_map, Nat.sub_self]; rfl
    conv => whnf
    refine ⟨_, idx_map evN l i hil, ?_⟩
    conv => whnf
    refine ⟨.sl 0 2 [.ag [.s (.string l[i].f0), .sl 1 0 []]], rfl, noX_n _, ?_⟩
    conv => whnf
    refine ⟨by show (rowsN (l.take i)).length + 1 ≤ 9223372036854775807 ∧ ((rowsN (l.take i)).length + 1) * 40 ≤ 140737488355328; omega, ?_⟩
    conv => whnf
    refine ⟨.rw 2 2 ((rowsN (l.take i)).map evRx ++ [.ag [.s (.string l[i].f0), .sl 1 0 []]]), congrArg (fun q : List PV => some (PV.rw 2 2 q)) (app_row (xs := (rowsN (l.take i)).map evRx) (y := .ag [.s (.string l[i].f0), .sl 1 0 []]) (n := (rowsN (l.take i)).length) (List.length_map _)), ?_⟩
    conv => whnf
    refine ⟨by show 0 ≤ IntKind.i64.wrap ((((rowsN (l.take i)).length + 1 : Nat) : Int) - 1) ∧ IntKind.i64.wrap ((((rowsN (l.take i)).length + 1 : Nat) : Int) - 1) < (((rowsN (l.take i)).length + 1 : Nat) : Int); rw [hwk]; omega, ?_⟩
    conv => whnf
    refine ⟨_, hat, ?_⟩
    conv => whnf
    refine ⟨_, idx_map evN l i hil, ?_⟩
    conv => whnf
    refine ⟨by show (0 + 1 : Nat) ≤ 9223372036854775807 ∧ (0 + 1) * 16 ≤ 140737488355328; omega, ?_⟩
    conv => whnf
    refine ⟨Or.inl rfl, .rw 0 1 [evS l[i].f1], rfl, ?_⟩
    conv => whnf
    refine ⟨by show 0 ≤ IntKind.i64.wrap ((((rowsN (l.take i)).length + 1 : Nat) : Int) - 1) ∧ IntKind.i64.wrap ((((rowsN (l.take i)).length + 1 : Nat) : Int) - 1) < (((rowsN (l.take i)).length + 1 : Nat) : Int); rw [hwk]; omega, ?_⟩
    conv => whnf
    refine ⟨_, hat, ?_⟩
    conv => whnf
    refine ⟨.xo 1 [evS l[i].f1], rfl, noX_S [l[i].f1], ?_⟩
    conv => whnf
    refine ⟨.rw 2 2 ((rowsN (l.take (i + 1))).map evRx), ?_, ?_⟩
    ·show some (PV.rw 2 2 (((rowsN (l.take i)).map evRx ++ [PV.ag [.s (.string l[i].f0), .sl 1 0 []]]).set (0 + (IntKind.i64.wrap ((((rowsN (l.take i)).length + 1 : Nat) : Int) - 1)).toNat) (evRx ⟨l[i].f0, [l[i].f1]⟩))) = _
     rw [hwk, show 0 + (((rowsN (l.take i)).length : Int)).toNat = (rowsN (l.take i)).length by omega, List.set_append_right _ _ (by rw [List.length_map]; exact Nat.le_refl _), List.length_map, Nat.sub_self, hsn, hoth, List.map_append]; rfl
    conv => whnf
    refine ⟨by kernel_rfl, ?_⟩
    conv => whnf
    conv => whnf
    refine ⟨i + 1, hil, less1 hil, ⟨⟨incI hil (by omega), trivial, ?_, rfl, rfl, Nat.two_pos, trivial⟩, ?_⟩⟩
    ·exact congrArg (fun q : Nat => PV.vw 3 0 2 0 q) hlen1
    ·repeat' (first | exact trivial | refine ⟨?_, ?_⟩ | (((conv => lhs; whnf) <;> (try (conv => rhs; whnf))) <;> exact rfl))
   ·intro hq
    have hq : eqS l[i].f0 (l[i - 1]'(by omega)).f0 = true := by
     have : (!eqS l[i].f0 (l[i - 1]'(by omega)).f0) = false := hq
     simpa using this
    have hsame := snocR_same (L := (rowsN (l.take i))) (x := l[i]) hgl (by rw [hRp, eqS_iff]; exact (eqS_iff.1 hq).symm)
    have hlen1 : (rowsN (l.take i)).length = (rowsN (l.take (i + 1))).length := by rw [hsn, hsame, List.length_append, List.length_dropLast]; show _ = _ + 1; omega
    have hw : IntKind.i64.wrap (((rowsN (l.take i)).length : Int) - 1) = (((rowsN (l.take i)).length - 1 : Nat) : Int) := by rw [IntKind.wrap_i64]; omega
    have hix : 0 + (IntKind.i64.wrap (((rowsN (l.take i)).length : Int) - 1)).toNat = (rowsN (l.take i)).length - 1 := by rw [hw]; omega
    have hcon : ((rowsN (l.take i)).map evRx).set ((rowsN (l.take i)).length - 1) (evRx ⟨R.p, R.v ++ [l[i].f1]⟩) = (rowsN (l.take (i + 1))).map evRx := by
     rw [hsn, hsame, List.map_append]
     have := set_last ((rowsN (l.take i)).map evRx) (evRx ⟨R.p, R.v ++ [l[i].f1]⟩) (by rw [List.length_map]; exact hn0)
     rw [List.length_map] at this
     rw [this, List.map_dropLast]; rfl
    have hRv := (hrv i R (List.mem_of_getElem? hgl)).2
    conv => whnf
    refine ⟨by rw [lenV_eq, hw]; omega, ?_⟩
    conv => whnf
    refine ⟨evRx R, by rw [hix, List.getElem?_map, hgl]; rfl, ?_⟩
    conv => whnf
    refine ⟨.rw 0 2 (((rowsN (l.take i)).map evRx).set ((rowsN (l.take i)).length - 1) (.ag [.s (.string R.p), .any])), by rw [hix]; rfl, ?_⟩
    conv => whnf
    refine ⟨_, idx_map evN l i hil, ?_⟩
    conv => whnf
    refine ⟨by show (R.v.map evS).length + 1 ≤ 9223372036854775807 ∧ ((R.v.map evS).length + 1) * 16 ≤ 140737488355328; rw [List.length_map]; omega, ?_⟩
    conv => whnf
    refine ⟨.rw 2 1 ((R.v ++ [l[i].f1]).map evS), by rw [List.map_append]; exact congrArg (fun q : List PV => some (PV.rw 2 1 q)) (app_row (xs := R.v.map evS) (y := evS l[i].f1) rfl), ?_⟩
    conv => whnf
    refine ⟨by rw [lenV_eq, hw]; omega, ?_⟩
    conv => whnf
    refine ⟨.ag [.s (.string R.p), .any], by rw [hix]; exact List.getElem?_set_self (by rw [List.length_map]; omega), ?_⟩
    conv => whnf
    refine ⟨.xo 1 ((R.v ++ [l[i].f1]).map evS), by rw [List.take_of_length_le (by show _ ≤ (R.v.map evS).length + 1; rw [List.length_map, List.length_append, List.length_map]; exact Nat.le_refl _)], noX_S _, ?_⟩
    conv => whnf
    refine ⟨.rw 0 2 ((rowsN (l.take (i + 1))).map evRx), by rw [hix, List.set_set, ← hcon]; rfl, ?_⟩
    conv => whnf
    refine ⟨by kernel_rfl, ?_⟩
    conv => whnf
    conv => whnf
    refine ⟨i + 1, hil, less1 hil, ⟨⟨incI hil (by omega), trivial, ?_, rfl, rfl, Nat.two_pos, trivial⟩, ?_⟩⟩
    ·exact congrArg (fun q : Nat => PV.vw 3 0 2 0 q) hlen1
    ·repeat' (first | exact trivial | refine ⟨?_, ?_⟩ | (((conv => lhs; whnf) <;> (try (conv => rhs; whnf))) <;> exact rfl))
 ·intro h
  have hil := gem h hi
  subst hil
  have hfull : rowsN (l.take l.length) = rowsN l := by rw [List.take_length]
  conv => whnf
  refine ⟨.rw 0 2 ((rowsN l).map evRw), by rw [List.map_map, show (PV.fzE ∘ evRx) = evRw from funext evRx_fz, hfull], okFi_Rx _, ?_⟩
  conv => whnf
  refine ⟨.sl 0 2 ((rowsN l).map evRw), by rw [List.take_of_length_le (by rw [List.length_map, hfull]; exact Nat.le_refl _)]; rfl, noX_R _, ?_⟩
  conv => whnf
  exact ⟨rfl, Or.inl rfl, trivial⟩
def NOk (l : List S36) (i : Nat) : Prop := ∀ h : i < l.length, mayN l[i] = true ∧ (0 < i → ordN (l[i - 1]'(by omega)) l[i] < 0)
def Ok5 (l : List S36) : Prop := ∀ i, NOk l i
open Classical in
noncomputable def ok5B (l : List S36) : Bool := decide (Ok5 l)
open Classical in
theorem ok5_good {l : List S36} (h : Ok5 l) : ok5B l = true := by
 unfold ok5B
 exact decide_eq_true h
open Classical in
theorem ok5_bad {l : List S36} (i : Nat) (h : ¬ NOk l i) : ok5B l = false := by
 unfold ok5B
 exact decide_eq_false fun e => h (e i)
theorem check5_pc (l : List S36) (hl : l.length ≤ 1000000) (hb : ∀ x ∈ l, Brief x) : PC 33 [.sl 0 2 (l.map evN)] (.s (.bool (ok5B l))) := by
 have hlm : (l.map evN).length = l.length := List.length_map ..
 refine pc_of tt_ok tt_follows Tryz.func33 rfl (by kernel_rfl) (by kernel_rfl) (Nat.le_of_ble_eq_true rfl) rfl ?_
 conv => whnf
 refine ⟨Nat, fun i => i ≤ l.length ∧ ∀ j, j < i → NOk l j, fun i => [(9, .s (.int .i64 i))], [0], fun i => l.length - i, 0, ⟨Nat.zero_le _, fun j h => absurd h (Nat.not_lt_zero _)⟩, ?_, fun i hi => ?_⟩
 ·refine ⟨⟨rfl, trivial, trivial⟩, ?_⟩
  repeat' (first | exact trivial | refine ⟨?_, ?_⟩ | (((conv => lhs; whnf) <;> (try (conv => rhs; whnf))) <;> exact rfl))
 obtain ⟨h1, h2⟩ := hi
 conv => whnf
 constructor
 ·intro h
  have hil := ltm h
  have hm := List.getElem_mem hil
  have bad : ¬ NOk l i → PV.s (.bool false) = PV.s (.bool (ok5B l)) := fun h => by rw [ok5_bad i h]
  have next : NOk l i → ∀ j, j < i + 1 → NOk l j := fun h j hj => by
   by_cases hji : j < i
   ·exact h2 j hji
   ·obtain rfl : j = i := by omega
    exact h
  conv => whnf
  refine ⟨_, idx_map evN l i hil, ?_⟩
  conv => whnf
  refine ⟨_, ref5May_pc l[i] (hb _ hm), ?_⟩
  conv => whnf
  constructor
  ·intro hq
   have hq : mayN l[i] = false := Eq.mp (Bool.not_eq_true' _) hq
   conv => whnf
   refine ⟨by kernel_rfl, ?_⟩
   conv => whnf
   conv => whnf
   exact bad fun h => by rw [(h hil).1] at hq; cases hq
  intro hq
  have hq : mayN l[i] = true := by simpa using hq
  conv => whnf
  constructor
  ·intro hg
   have hi0 : 0 < i := by have : (i : Int) > 0 := of_decide_eq_true hg
                          omega
   have hw : IntKind.i64.wrap ((i : Int) - 1) = ((i - 1 : Nat) : Int) := by rw [IntKind.wrap_i64]; omega
   conv => whnf
   refine ⟨evN (l[i - 1]'(by omega)), idx_mapI evN l (i - 1) hw (by omega), ?_⟩
   conv => whnf
   refine ⟨_, idx_map evN l i hil, ?_⟩
   conv => whnf
   refine ⟨_, less5_pc (l[i - 1]'(by omega)) l[i] (hb _ (List.getElem_mem _)) (hb _ hm) (h2 (i - 1) (by omega) (by omega)).1 hq, ?_⟩
   conv => whnf
   refine ⟨by kernel_rfl, ?_⟩
   conv => whnf
   constructor
   ·intro hq2
    have hq2 : decide (ordN (l[i - 1]'(by omega)) l[i] < 0) = false := Eq.mp (Bool.not_eq_true' _) hq2
    conv => whnf
    exact bad fun h => of_decide_eq_false hq2 ((h hil).2 hi0)
   ·intro hq2
    have hq2 : decide (ordN (l[i - 1]'(by omega)) l[i] < 0) = true := by
     have : (!decide (ordN (l[i - 1]'(by omega)) l[i] < 0)) = false := hq2
     simpa using this
    conv => whnf
    refine ⟨i + 1, ⟨hil, next fun _ => ⟨hq, fun _ => of_decide_eq_true hq2⟩⟩, less1 hil, ⟨⟨incI hil (by omega), trivial, trivial⟩, ?_⟩⟩
    repeat' (first | exact trivial | refine ⟨?_, ?_⟩ | (((conv => lhs; whnf) <;> (try (conv => rhs; whnf))) <;> exact rfl))
  ·intro hg
   have hi0 : ¬ 0 < i := by have : ¬ (i : Int) > 0 := of_decide_eq_false hg
                            omega
   conv => whnf
   refine ⟨by kernel_rfl, ?_⟩
   conv => whnf
   conv => whnf
   refine ⟨i + 1, ⟨hil, next fun _ => ⟨hq, fun h => absurd h hi0⟩⟩, less1 hil, ⟨⟨incI hil (by omega), trivial, trivial⟩, ?_⟩⟩
   repeat' (first | exact trivial | refine ⟨?_, ?_⟩ | (((conv => lhs; whnf) <;> (try (conv => rhs; whnf))) <;> exact rfl))
 ·intro h
  have hil := gem h h1
  subst hil
  conv => whnf
  have e : ok5B l = true := ok5_good fun i hi => h2 i hi hi
  rw [e] <;> rfl
theorem may16_pc (l : List RW) (hl : l.length ≤ 1000000) (hv : ∀ r ∈ l, r.v.length ≤ 1000000) (hn : (allN l).length ≤ 1000000) (hb : ∀ x ∈ allN l, Brief x) (hr : ∀ i, (rowsN ((allN l).take i)).length ≤ 1000000) (hrv : ∀ i, ∀ r ∈ rowsN ((allN l).take i), r.v ≠ [] ∧ r.v.length ≤ 1000000) :
 PC 18 [.sl 0 2 (l.map evRw)] (.s (.bool (ok5B (allN l) && eqB eqR l (rowsN (allN l))))) := by
 refine pc_of tt_ok tt_follows Tryz.func18 rfl (by kernel_rfl) (by kernel_rfl) (Nat.le_of_ble_eq_true rfl) rfl ?_
 conv => whnf
 refine ⟨_, all16_pc l hl hv hn, ?_⟩
 conv => whnf
 refine ⟨_, check5_pc (allN l) hn hb, ?_⟩
 conv => whnf
 constructor
 ·intro h
  have h : ok5B (allN l) = true := h
  conv => whnf
  refine ⟨_, of16_pc (allN l) hn hr hrv, ?_⟩
  conv => whnf
  refine ⟨_, same16_pc l (rowsN (allN l)) hl hv, ?_⟩
  conv => whnf
  conv => whnf
  rw [h]; rfl
 ·intro h
  have h : ok5B (allN l) = false := h
  conv => whnf
  rw [h]; rfl
end Go.Proofs.YtffjkbbmnfnbaaaGreatDoor.Q
end
section
namespace Go.Proofs.YtffjkbbmnfnbaaaGreatDoor.Q
open Go Go.RowKit Go.Lib Go.Proofs.YtffjkbbmnfnbaaaGreatDoorW.PrintWords Go.Ev
set_option linter.unusedVariables false
set_option maxRecDepth 100000
theorem same5_pc (l m : List S36) (hl : l.length ≤ 1000000) : PC 20 [.sl 0 2 (l.map evN), .sl 0 2 (m.map evN)] (.s (.bool (eqB eqN l m))) := by
 refine pc_of tt_ok tt_follows Tryz.func20 rfl (by kernel_rfl) (by kernel_rfl) (Nat.le_of_ble_eq_true rfl) rfl ?_
 conv => whnf
 constructor
 ·intro h
  have hne : l.length ≠ m.length := by have : ¬ (l.length : Int) = m.length := by simpa using h
                                       omega
  conv => whnf
  rw [eqB_len (fun _ _ => eqN_iff) hne]; rfl
 ·intro h
  have hlm : l.length = m.length := by have : (l.length : Int) = m.length := by simpa using h
                                       omega
  conv => whnf
  refine ⟨Nat, fun i => i ≤ l.length ∧ ∀ j (h1 : j < l.length) (h2 : j < m.length), j < i → eqN l[j] m[j] = true, fun i => [(15, .s (.int .i64 i))], [0, 3], fun i => l.length - i, 0, ⟨Nat.zero_le _, fun j _ _ h => absurd h (Nat.not_lt_zero _)⟩, ?_, fun i hi => ?_⟩
  ·refine ⟨⟨rfl, trivial, trivial⟩, ?_⟩
   repeat' (first | exact trivial | refine ⟨?_, ?_⟩ | (((conv => lhs; whnf) <;> (try (conv => rhs; whnf))) <;> exact rfl))
  ·obtain ⟨h1, h2⟩ := hi
   conv => whnf
   constructor
   ·intro h
    have hil := ltm h
    have him : i < m.length := by omega
    conv => whnf
    refine ⟨_, idx_map evN l i hil, ?_⟩
    conv => whnf
    refine ⟨_, idx_map evN m i him, ?_⟩
    conv => whnf
    refine ⟨eqtN, ?_⟩
    conv => whnf
    refine ⟨by kernel_rfl, ?_⟩
    conv => whnf
    constructor
    ·intro hq
     have hq' : eqN l[i] m[i] = false := by have : (!eqN l[i] m[i]) = true := hq; simpa using this
     conv => whnf
     rw [eqB_false (fun _ _ => eqN_iff) i hil him hq']; rfl
    ·intro hq
     have hq' : eqN l[i] m[i] = true := by have : (!eqN l[i] m[i]) = false := hq; simpa using this
     conv => whnf
     refine ⟨i + 1, ⟨by omega, fun j g1 g2 g3 => ?_⟩, less1 hil, ⟨⟨incI hil (by omega), trivial, trivial⟩, ?_⟩⟩
     ·by_cases hji : j < i
      ·exact h2 j g1 g2 hji
      ·obtain rfl : j = i := by omega
       exact hq'
     ·repeat' (first | exact trivial | refine ⟨?_, ?_⟩ | (((conv => lhs; whnf) <;> (try (conv => rhs; whnf))) <;> exact rfl))
   ·intro h
    have hil := gem h h1
    conv => whnf
    rw [eqB_all (fun _ _ => eqN_iff) hlm (fun j g1 g2 => h2 j g1 g2 (by omega))]; rfl
end Go.Proofs.YtffjkbbmnfnbaaaGreatDoor.Q
end
section
namespace Go.Proofs.YtffjkbbmnfnbaaaGreatDoor.Q
open Go.Proofs.YtffjkbbmnfnbaaaGreatDoor.QB.D
open Go Go.RowKit Go.Lib Go.Proofs.YtffjkbbmnfnbaaaGreatDoorW.PrintWords Go.Ev Gw
set_option linter.unusedVariables false
set_option linter.unusedSimpArgs false
abbrev Nd := S36
theorem orI0 {x y : Int} (h : x = 0) : orI x y = y := if_pos h
theorem orI1 {x y : Int} (h : x ≠ 0) : orI x y = x := if_neg h
theorem isV_of {x : Nd} (h : mayN x = true) : isVersion (bs x.f1) = true := by
 unfold mayN isNode np at h
 rw [Bool.and_eq_true] at h
 exact h.2
theorem isP_of {x : Nd} (h : mayN x = true) : isPath (bs x.f0) = true := by
 unfold mayN isNode np at h
 rw [Bool.and_eq_true] at h
 exact h.1
theorem mayN_mk {p v : ByteArray} (hp : isPath (bs p) = true) (hv : isVersion (bs v) = true) : mayN ⟨p, v⟩ = true := by
 unfold mayN isNode np
 rw [Bool.and_eq_true]
 exact ⟨hp, hv⟩
theorem ordN_path {p : ByteArray} {u v : ByteArray} (hu : isVersion (bs u) = true) (hv : isVersion (bs v) = true) : ordN ⟨p, u⟩ ⟨p, v⟩ = vord u v := by
 show orI (lexC (bs p) (bs p)) (verC (vOf (bs u)) (vOf (bs v))) = _
 rw [orI0 ((lexC_eq _ _).2 rfl), vord_eq hu hv]
theorem ordN_less {x y : Nd} (h : lexC (bs x.f0) (bs y.f0) < 0) : ordN x y < 0 := by
 show orI (lexC (bs x.f0) (bs y.f0)) _ < 0
 rw [orI1 (by omega)]
 exact h
theorem ordN_le {x y : Nd} (h : ordN x y < 0) (hp : x.f0 ≠ y.f0) : lexC (bs x.f0) (bs y.f0) < 0 := by
 have h : orI (lexC (bs x.f0) (bs y.f0)) (verC (vOf (bs x.f1)) (vOf (bs y.f1))) < 0 := h
 rw [orI1 (fun e => hp (bs_inj ((lexC_eq _ _).1 e)))] at h
 exact h
structure GR (r : RW) : Prop where
 p : isPath (bs r.p) = true
 ne : r.v ≠ []
 v : ∀ s ∈ r.v, isVersion (bs s) = true
 lt : r.v.Pairwise fun a b => vord a b < 0
structure GRs (l : List RW) : Prop where
 r : ∀ r ∈ l, GR r
 lt : l.Pairwise fun a b => lexC (bs a.p) (bs b.p) < 0
theorem OkT.gr {l : List RW} (h : OkT l) : GRs l := by
 refine ⟨fun r hr => ?_, ?_⟩
 ·obtain ⟨i, hi, rfl⟩ := List.getElem_of_mem hr
  have hk := h i hi
  refine ⟨hk.1, hk.2.1, fun s hs => ?_, ?_⟩
  ·obtain ⟨k, hk', rfl⟩ := List.getElem_of_mem hs
   exact (hk.2.2.2 k hk').1
  ·rw [List.pairwise_iff_getElem]
   intro a b ha hb hab
   exact okV_chain hk.2.2.2 a b ha hb hab
 ·rw [List.pairwise_iff_getElem]
  intro a b ha hb hab
  exact okT_chain h a b ha hb hab
theorem GRs.okT {l : List RW} (h : GRs l) : OkT l := fun i hi => by
 have hr := h.r _ (List.getElem_mem hi)
 refine ⟨hr.p, hr.ne, fun h0 => List.pairwise_iff_getElem.1 h.lt (i - 1) i (by omega) hi (by omega), fun k hk => ⟨hr.v _ (List.getElem_mem hk), fun h0 => List.pairwise_iff_getElem.1 hr.lt (k - 1) k (by omega) hk (by omega)⟩⟩
theorem chk_good {l : List RW} (h : GRs l) : chkT l = 0 := if_pos h.okT
def TinyRs (l : List RW) : Prop := ∀ r ∈ l, Tiny r.p ∧ ∀ s ∈ r.v, Tiny s
theorem mem_allN {l : List RW} {x : Nd} : x ∈ allN l ↔ ∃ r ∈ l, r.p = x.f0 ∧ x.f1 ∈ r.v := by
 unfold allN nodesR
 rw [List.mem_flatMap]
 refine exists_congr fun r => and_congr_right fun hr => ?_
 rw [List.mem_map]
 constructor
 ·rintro ⟨s, hs, rfl⟩; exact ⟨rfl, hs⟩
 ·rintro ⟨h1, h2⟩; exact ⟨x.f1, h2, by cases x; simp at h1 ⊢; exact h1⟩
theorem GRs.set {l : List RW} (h : GRs l) (ht : TinyRs l) : IsSet (allN l) := by
 have hm : ∀ x ∈ allN l, mayN x = true ∧ TinyN x := fun x hx => by
  obtain ⟨r, hr, hp, hv⟩ := mem_allN.1 hx
  refine ⟨?_, ?_⟩
  ·obtain ⟨p, s⟩ := x
   exact mayN_mk (by have := (h.r r hr).p; rw [hp] at this; exact this) ((h.r r hr).v _ hv)
  ·have := (ht r hr).1
   rw [hp] at this
   exact ⟨this, (ht r hr).2 _ hv⟩
 refine ⟨fun x hx => mayN_good (hm x hx).2 (hm x hx).1, fun x hx => (hm x hx).1, ?_⟩
 unfold allN
 rw [List.pairwise_flatMap]
 refine ⟨fun r hr => ?_, h.lt.imp fun hab x hx y hy => ?_⟩
 ·unfold nodesR
  rw [List.pairwise_map]
  refine List.Pairwise.imp_of_mem (fun ha hb hab => ?_) (h.r r hr).lt
  rw [ordN_path ((h.r r hr).v _ ha) ((h.r r hr).v _ hb)]
  exact hab
 ·obtain ⟨s, _, rfl⟩ := List.mem_map.1 hx
  obtain ⟨t, _, rfl⟩ := List.mem_map.1 hy
  exact ordN_less hab
theorem snocR_in (D : List RW) (r : RW) (x : Nd) (h : r.p = x.f0) : snocR (D ++ [r]) x = D ++ [⟨r.p, r.v ++ [x.f1]⟩] := by
 unfold snocR
 simp [eqS_iff.2 h]
theorem snocR_out (D : List RW) (r : RW) (x : Nd) (h : r.p ≠ x.f0) : snocR (D ++ [r]) x = D ++ [r] ++ [⟨x.f0, [x.f1]⟩] := by
 unfold snocR
 have : eqS r.p x.f0 = false := by
  cases hq : eqS r.p x.f0
  ·rfl
  ·exact absurd (eqS_iff.1 hq) h
 simp [this]
theorem fold_in (p : ByteArray) : ∀ (v : List ByteArray) (D : List RW) (u : List ByteArray), (v.map fun s => (⟨p, s⟩ : Nd)).foldl snocR (D ++ [⟨p, u⟩]) = D ++ [⟨p, u ++ v⟩]
 | [], D, u => by simp
 | s :: v, D, u => by
  rw [List.map_cons, List.foldl_cons, snocR_in D ⟨p, u⟩ ⟨p, s⟩ rfl, fold_in p v D (u ++ [s])]
  simp
theorem fold_row (D : List RW) (r : RW) (hne : r.v ≠ []) (h : ∀ q, D.getLast? = some q → q.p ≠ r.p) : (nodesR r).foldl snocR D = D ++ [r] := by
 obtain ⟨p, v⟩ := r
 cases v with
 | nil => exact absurd rfl hne
 | cons s v =>
  show ((⟨p, s⟩ : Nd) :: v.map fun s => (⟨p, s⟩ : Nd)).foldl snocR D = _
  rw [List.foldl_cons]
  have e : snocR D ⟨p, s⟩ = D ++ [⟨p, [s]⟩] := by
   rcases List.eq_nil_or_concat D with rfl | ⟨D', q, rfl⟩
   ·rfl
   ·rw [List.concat_eq_append] at h ⊢
    exact snocR_out D' q ⟨p, s⟩ (h q (by simp))
  rw [e, fold_in p v D [s]]
  rfl
theorem lexC_self (a : List Nat) : lexC a a = 0 := (lexC_eq _ _).2 rfl
theorem fold_all : ∀ (l D : List RW), (∀ r ∈ l, r.v ≠ []) → l.Pairwise (fun a b => lexC (bs a.p) (bs b.p) < 0) → (∀ q, D.getLast? = some q → ∀ r ∈ l, lexC (bs q.p) (bs r.p) < 0) → (allN l).foldl snocR D = D ++ l
 | [], D, _, _, _ => by simp [allN]
 | r :: l, D, h1, h2, h3 => by
  rw [List.pairwise_cons] at h2
  rw [show allN (r :: l) = nodesR r ++ allN l from rfl, List.foldl_append, fold_row D r (h1 r List.mem_cons_self) (fun q hq e => by
   have := h3 q hq r List.mem_cons_self
   rw [e, lexC_self] at this
   omega), fold_all l (D ++ [r]) (fun x hx => h1 x (List.mem_cons_of_mem _ hx)) h2.2 (fun q hq x hx => by
   rw [List.getLast?_append] at hq
   simp at hq
   subst hq
   exact h2.1 x hx)]
  simp
theorem GRs.back {l : List RW} (h : GRs l) : rowsN (allN l) = l := by
 unfold rowsN
 rw [fold_all l [] (fun r hr => (h.r r hr).ne) h.lt (fun q hq => by cases hq)]
 rfl
theorem allN_snoc (L : List RW) (x : Nd) : allN (snocR L x) = allN L ++ [x] := by
 rcases List.eq_nil_or_concat L with rfl | ⟨D, r, rfl⟩
 ·rfl
 ·rw [List.concat_eq_append]
  by_cases h : r.p = x.f0
  ·rw [snocR_in D r x h]
   unfold allN nodesR
   obtain ⟨p, v⟩ := x
   simp at h
   subst h
   simp
  ·rw [snocR_out D r x h]
   unfold allN nodesR
   simp
theorem allN_fold : ∀ (s : List Nd) (L : List RW), allN (s.foldl snocR L) = allN L ++ s
 | [], L => by simp
 | x :: s, L => by rw [List.foldl_cons, allN_fold s, allN_snoc]; simp
theorem allN_rows (s : List Nd) : allN (rowsN s) = s := allN_fold s []
theorem snoc_ne {L : List RW} (h : ∀ r ∈ L, r.v ≠ []) (x : Nd) : ∀ r ∈ snocR L x, r.v ≠ [] := by
 rcases List.eq_nil_or_concat L with rfl | ⟨D, q, rfl⟩
 ·intro r hr
  rw [show snocR [] x = [⟨x.f0, [x.f1]⟩] from rfl, List.mem_singleton] at hr
  subst hr; simp
 ·rw [List.concat_eq_append] at h ⊢
  intro r hr
  by_cases e : q.p = x.f0
  ·rw [snocR_in D q x e] at hr
   rcases List.mem_append.1 hr with hr | hr
   ·exact h r (List.mem_append_left _ hr)
   ·rw [List.mem_singleton] at hr; subst hr; simp
  ·rw [snocR_out D q x e] at hr
   rcases List.mem_append.1 hr with hr | hr
   ·exact h r hr
   ·rw [List.mem_singleton] at hr; subst hr; simp
theorem fold_ne : ∀ (s : List Nd) (L : List RW), (∀ r ∈ L, r.v ≠ []) → ∀ r ∈ s.foldl snocR L, r.v ≠ []
 | [], L, h => h
 | x :: s, L, h => fold_ne s _ (snoc_ne h x)
theorem rows_ne (s : List Nd) : ∀ r ∈ rowsN s, r.v ≠ [] := fold_ne s [] (fun r hr => by cases hr)
theorem allN_cons (r : RW) (l : List RW) : (allN (r :: l)).length = r.v.length + (allN l).length := by
 rw [show allN (r :: l) = nodesR r ++ allN l from rfl, List.length_append]
 unfold nodesR
 rw [List.length_map]
theorem rows_le : ∀ {l : List RW}, (∀ r ∈ l, r.v ≠ []) → l.length ≤ (allN l).length
 | [], _ => Nat.le_refl _
 | r :: l, h => by
  have h1 := rows_le (l := l) (fun x hx => h x (List.mem_cons_of_mem _ hx))
  have h2 := List.length_pos_iff.2 (h r List.mem_cons_self)
  rw [allN_cons, List.length_cons]
  omega
theorem row_le : ∀ {l : List RW}, ∀ r ∈ l, r.v.length ≤ (allN l).length
 | [], r, h => by cases h
 | q :: l, r, h => by
  rw [allN_cons]
  rcases List.mem_cons.1 h with rfl | h
  ·omega
  ·have := row_le (l := l) r h; omega
theorem rowsN_len (s : List Nd) : (rowsN s).length ≤ s.length := by
 have := rows_le (rows_ne s)
 rwa [allN_rows] at this
theorem rowsN_v (s : List Nd) : ∀ r ∈ rowsN s, r.v ≠ [] ∧ r.v.length ≤ s.length := fun r hr => ⟨rows_ne s r hr, by
 have := row_le r hr
 rwa [allN_rows] at this⟩
theorem snoc_good {L : List RW} {x : Nd} (h : GRs L) (hm : mayN x = true) (hl : ∀ y ∈ allN L, ordN y x < 0) : GRs (snocR L x) := by
 have hv := isV_of hm
 have hp := isP_of hm
 have one : GR ⟨x.f0, [x.f1]⟩ := ⟨hp, by simp, fun s hs => by simp at hs; subst hs; exact hv, List.pairwise_singleton _ _⟩
 rcases List.eq_nil_or_concat L with rfl | ⟨D, q, rfl⟩
 ·exact ⟨fun r hr => by rw [show snocR [] x = [⟨x.f0, [x.f1]⟩] from rfl, List.mem_singleton] at hr; subst hr; exact one, List.pairwise_singleton _ _⟩
 ·rw [List.concat_eq_append] at h hl ⊢
  have gq := h.r q (by simp)
  have hlt := List.pairwise_append.1 h.lt
  by_cases e : q.p = x.f0
  ·rw [snocR_in D q x e]
   refine ⟨fun r hr => ?_, List.pairwise_append.2 ⟨hlt.1, List.pairwise_singleton _ _, fun a ha b hb => ?_⟩⟩
   ·rcases List.mem_append.1 hr with hr | hr
    ·exact h.r r (List.mem_append_left _ hr)
    ·rw [List.mem_singleton] at hr
     subst hr
     refine ⟨gq.p, by simp, fun s hs => ?_, List.pairwise_append.2 ⟨gq.lt, List.pairwise_singleton _ _, fun a ha b hb => ?_⟩⟩
     ·rcases List.mem_append.1 hs with hs | hs
      ·exact gq.v s hs
      ·rw [List.mem_singleton] at hs; subst hs; exact hv
     ·rw [List.mem_singleton] at hb
      subst hb
      have := hl ⟨q.p, a⟩ (mem_allN.2 ⟨q, by simp, rfl, ha⟩)
      rw [show x = ⟨q.p, x.f1⟩ by rw [e]] at this
      rwa [ordN_path (gq.v a ha) hv] at this
   ·rw [List.mem_singleton] at hb
    subst hb
    exact hlt.2.2 a ha q (by simp)
  ·rw [snocR_out D q x e]
   obtain ⟨s, hs⟩ := List.exists_mem_of_ne_nil _ gq.ne
   have hqx : lexC (bs q.p) (bs x.f0) < 0 := ordN_le (hl ⟨q.p, s⟩ (mem_allN.2 ⟨q, by simp, rfl, hs⟩)) e
   refine ⟨fun r hr => ?_, List.pairwise_append.2 ⟨h.lt, List.pairwise_singleton _ _, fun a ha b hb => ?_⟩⟩
   ·rcases List.mem_append.1 hr with hr | hr
    ·exact h.r r hr
    ·rw [List.mem_singleton] at hr; subst hr; exact one
   ·rw [List.mem_singleton] at hb
    subst hb
    rcases List.mem_append.1 ha with ha | ha
    ·exact lexC_to.tr _ _ _ trivial trivial trivial (hlt.2.2 a ha q (by simp)) hqx
    ·rw [List.mem_singleton] at ha; subst ha; exact hqx
theorem fold_good : ∀ (s : List Nd) (L : List RW), GRs L → IsSet (allN L ++ s) → GRs (s.foldl snocR L)
 | [], L, h, _ => h
 | x :: s, L, h, hs => by
  have hx := List.pairwise_append.1 hs.lt
  refine fold_good s _ (snoc_good h (hs.may x (by simp)) (fun y hy => hx.2.2 y hy x List.mem_cons_self)) ?_
  rw [allN_snoc]
  simpa using hs
theorem GRs.nil : GRs [] := ⟨(fun r h => by cases h), List.Pairwise.nil⟩
theorem rows_good {s : List Nd} (h : IsSet s) : GRs (rowsN s) := fold_good s [] GRs.nil (by simpa [allN] using h)
theorem GRs.ext {l m : List RW} (hl : GRs l) (hm : GRs m) (tl : TinyRs l) (tm : TinyRs m) (h : ∀ x, x ∈ allN l ↔ x ∈ allN m) : l = m := by
 rw [← hl.back, ← hm.back, (hl.set tl).ext (hm.set tm) h]
theorem Ok5.set {l : List Nd} (h : Ok5 l) (ht : ∀ x ∈ l, TinyN x) : IsSet l := by
 have hm : ∀ x ∈ l, mayN x = true := fun x hx => by
  obtain ⟨i, hi, rfl⟩ := List.getElem_of_mem hx
  exact (h i hi).1
 have hg : ∀ x ∈ l, GoodN x := fun x hx => mayN_good (ht x hx) (hm x hx)
 refine ⟨hg, hm, ?_⟩
 rw [List.pairwise_iff_getElem]
 intro i j
 induction j with
 | zero => intro _ _ h; exact absurd h (Nat.not_lt_zero _)
 | succ j ih =>
  intro hi hj hij
  have h1 := (h (j + 1) hj).2 (Nat.succ_pos j)
  by_cases he : i = j
  ·subst he; exact h1
  ·exact ordN_to.tr _ _ _ (hg _ (List.getElem_mem hi)) (hg _ (List.getElem_mem (by omega))) (hg _ (List.getElem_mem hj)) (ih hi (by omega) (by omega)) h1
theorem IsSet.ok5 {l : List Nd} (h : IsSet l) : Ok5 l := fun i hi => ⟨h.may _ (List.getElem_mem hi), fun h0 => List.pairwise_iff_getElem.1 h.lt (i - 1) i (by omega) hi (by omega)⟩
theorem ok5B_iff {l : List Nd} (ht : ∀ x ∈ l, TinyN x) : ok5B l = true ↔ IsSet l := by
 constructor
 ·intro h
  refine Ok5.set (fun i => Classical.byContradiction fun hn => ?_) ht
  rw [ok5_bad i hn] at h
  cases h
 ·exact fun h => ok5_good h.ok5
theorem TinyRs.nodes {l : List RW} (h : TinyRs l) : ∀ x ∈ allN l, TinyN x := fun x hx => by
 obtain ⟨r, hr, hp, hv⟩ := mem_allN.1 hx
 have := (h r hr).1
 rw [hp] at this
 exact ⟨this, (h r hr).2 _ hv⟩
theorem may_iff {l : List RW} (ht : TinyRs l) : (ok5B (allN l) && eqB eqR l (rowsN (allN l))) = true ↔ GRs l := by
 rw [Bool.and_eq_true, ok5B_iff ht.nodes, eqB_iff eqR_iff]
 constructor
 ·rintro ⟨h1, h2⟩
  rw [h2]
  exact rows_good h1
 ·exact fun h => ⟨h.set ht, h.back.symm⟩
theorem vord_sym {a b : ByteArray} (ha : isVersion (bs a) = true) (hb : isVersion (bs b) = true) : vord b a = - vord a b := by
 rw [vord_eq ha hb, vord_eq hb ha]; exact verC_to.sym _ _ trivial trivial
theorem vord_zero {a b : ByteArray} (ha : isVersion (bs a) = true) (hb : isVersion (bs b) = true) : vord a b = 0 ↔ a = b := by
 rw [vord_eq ha hb, verC_to.eq _ _ trivial trivial]
 exact ⟨fun h => bs_inj (vOf_inj ha hb h), fun h => by rw [h]⟩
theorem bsI_cons {α : Type} (c : α → Int) (x : α) (l : List α) : bsI c (x :: l) = if 0 ≤ c x then 0 else bsI c l + 1 := by
 unfold bsI; rw [List.findIdx_cons]; by_cases h : 0 ≤ c x <;> simp [h]
theorem bsF_cons {α : Type} (c : α → Int) (x : α) (l : List α) : bsF c (x :: l) = if 0 ≤ c x then c x == 0 else bsF c l := by
 unfold bsF; rw [bsI_cons]; by_cases h : 0 ≤ c x <;> simp [h]
theorem find_no {α : Type} {c : α → Int} : ∀ {l : List α}, l.Pairwise (fun a b => 0 ≤ c a → 0 < c b) → bsF c l = false → (∀ x ∈ l.take (bsI c l), c x < 0) ∧ ∀ x ∈ l.drop (bsI c l), 0 < c x
 | [], _, _ => ⟨fun x h => by simp at h, fun x h => by simp at h⟩
 | y :: l, h, hf => by
  rw [List.pairwise_cons] at h
  rw [bsF_cons] at hf
  rw [bsI_cons]
  by_cases hy : 0 ≤ c y
  ·rw [if_pos hy] at hf ⊢
   have hy0 : c y ≠ 0 := by simpa using hf
   refine ⟨fun x h => by simp at h, fun x hx => ?_⟩
   rcases List.mem_cons.1 hx with rfl | hx
   ·omega
   ·exact h.1 x hx hy
  ·rw [if_neg hy] at hf ⊢
   have ih := find_no h.2 hf
   refine ⟨fun x hx => ?_, fun x hx => ih.2 x (by simpa using hx)⟩
   rw [List.take_succ_cons] at hx
   rcases List.mem_cons.1 hx with rfl | hx
   ·omega
   ·exact ih.1 x hx
theorem find_yes {α : Type} {c : α → Int} : ∀ {l : List α}, l.Pairwise (fun a b => 0 ≤ c a → 0 < c b) → bsF c l = true →
 ∃ r, l = l.take (bsI c l) ++ r :: l.drop (bsI c l + 1) ∧ l[bsI c l]? = some r ∧ c r = 0 ∧ (∀ x ∈ l.take (bsI c l), c x < 0) ∧ ∀ x ∈ l.drop (bsI c l + 1), 0 < c x
 | [], _, hf => by cases hf
 | y :: l, h, hf => by
  rw [List.pairwise_cons] at h
  rw [bsF_cons] at hf
  rw [bsI_cons]
  by_cases hy : 0 ≤ c y
  ·rw [if_pos hy] at hf ⊢
   have hy0 : c y = 0 := by simpa using hf
   exact ⟨y, rfl, rfl, hy0, fun x h => by simp at h, fun x hx => h.1 x (by simpa using hx) hy⟩
  ·rw [if_neg hy] at hf ⊢
   obtain ⟨r, h1, h2, h3, h4, h5⟩ := find_yes h.2 hf
   refine ⟨r, ?_, by simpa using h2, h3, fun x hx => ?_, fun x hx => h5 x (by simpa using hx)⟩
   ·rw [List.take_succ_cons, List.drop_succ_cons, List.cons_append, ← h1]
   ·rw [List.take_succ_cons] at hx
    rcases List.mem_cons.1 hx with rfl | hx
    ·omega
    ·exact h4 x hx
theorem fcmp_zero {p : ByteArray} {r : RW} : fcmp p r = 0 ↔ r.p = p := by
 unfold fcmp
 rw [lexC_eq]
 exact ⟨bs_inj, fun h => by rw [h]⟩
theorem GRs.far {l : List RW} (h : GRs l) (p : ByteArray) : l.Pairwise (fun a b => 0 ≤ fcmp p a → 0 < fcmp p b) := h.lt.imp fun {a b} hab h0 => by
 unfold fcmp at h0 ⊢
 have s1 := lexC_sym (bs a.p) (bs p)
 have s2 := lexC_sym (bs b.p) (bs p)
 by_cases e : lexC (bs a.p) (bs p) = 0
 ·rw [lexC_eq] at e
  rw [e] at hab
  omega
 ·have := lexC_tr (bs p) (bs a.p) (bs b.p) (by omega) hab
  omega
theorem GR.far {r : RW} (h : GR r) {s : ByteArray} (hs : isVersion (bs s) = true) : r.v.Pairwise (fun a b => 0 ≤ vord a s → 0 < vord b s) :=
 List.Pairwise.imp_of_mem (fun {a b} ha hb hab h0 => by
  have va := h.v a ha
  have vb := h.v b hb
  have s1 := vord_sym va hs
  have s2 := vord_sym vb hs
  by_cases e : vord a s = 0
  ·rw [vord_zero va hs] at e
   rw [e] at hab
   omega
  ·have := vord_tr hs va vb (by omega) hab
   omega) h.lt
theorem ins_good {A B : List RW} {r : RW} (h : GRs (A ++ B)) (gr : GR r) (ha : ∀ x ∈ A, lexC (bs x.p) (bs r.p) < 0) (hb : ∀ x ∈ B, lexC (bs r.p) (bs x.p) < 0) : GRs (A ++ r :: B) := by
 have hlt := List.pairwise_append.1 h.lt
 refine ⟨fun x hx => ?_, List.pairwise_append.2 ⟨hlt.1, List.pairwise_cons.2 ⟨hb, hlt.2.1⟩, fun a hA b hB => ?_⟩⟩
 ·rcases List.mem_append.1 hx with hx | hx
  ·exact h.r x (List.mem_append_left _ hx)
  ·rcases List.mem_cons.1 hx with rfl | hx
   ·exact gr
   ·exact h.r x (List.mem_append_right _ hx)
 ·rcases List.mem_cons.1 hB with rfl | hB
  ·exact ha a hA
  ·exact hlt.2.2 a hA b hB
theorem out_good {A B : List RW} {q : RW} (h : GRs (A ++ q :: B)) : GRs (A ++ B) := by
 have hlt := List.pairwise_append.1 h.lt
 refine ⟨fun x hx => ?_, List.pairwise_append.2 ⟨hlt.1, (List.pairwise_cons.1 hlt.2.1).2, fun a ha b hb => hlt.2.2 a ha b (List.mem_cons_of_mem _ hb)⟩⟩
 rcases List.mem_append.1 hx with hx | hx
 ·exact h.r x (List.mem_append_left _ hx)
 ·exact h.r x (List.mem_append_right _ (List.mem_cons_of_mem _ hx))
theorem put_good {A B : List RW} {q r : RW} (h : GRs (A ++ q :: B)) (gr : GR r) (e : r.p = q.p) : GRs (A ++ r :: B) := by
 have hlt := List.pairwise_append.1 h.lt
 refine ins_good (out_good h) gr (fun x hx => ?_) (fun x hx => ?_)
 ·rw [e]; exact hlt.2.2 x hx q List.mem_cons_self
 ·rw [e]; exact (List.pairwise_cons.1 hlt.2.1).1 x hx
theorem allN_mid {A B : List RW} {r : RW} {x : Nd} : x ∈ allN (A ++ r :: B) ↔ x ∈ allN (A ++ B) ∨ (r.p = x.f0 ∧ x.f1 ∈ r.v) := by
 rw [mem_allN, mem_allN]
 constructor
 ·rintro ⟨q, hq, h1, h2⟩
  rcases List.mem_append.1 hq with hq | hq
  ·exact Or.inl ⟨q, List.mem_append_left _ hq, h1, h2⟩
  ·rcases List.mem_cons.1 hq with rfl | hq
   ·exact Or.inr ⟨h1, h2⟩
   ·exact Or.inl ⟨q, List.mem_append_right _ hq, h1, h2⟩
 ·rintro (⟨q, hq, h1, h2⟩ | h)
  ·rcases List.mem_append.1 hq with hq | hq
   ·exact ⟨q, List.mem_append_left _ hq, h1, h2⟩
   ·exact ⟨q, List.mem_append_right _ (List.mem_cons_of_mem _ hq), h1, h2⟩
  ·exact ⟨r, by simp, h⟩
theorem set_mid {α : Type} {l : List α} {i : Nat} {q r : α} (h : l = l.take i ++ q :: l.drop (i + 1)) (hi : i < l.length) : l.set i r = l.take i ++ r :: l.drop (i + 1) := by
 rw [List.set_eq_take_append_cons_drop, if_pos hi]
theorem nd_eq {x : Nd} {p s : ByteArray} : x = ⟨p, s⟩ ↔ p = x.f0 ∧ x.f1 = s := by
 cases x
 simp [eq_comm]
theorem dropV_ok {l : List RW} {n : Nd} (h : GRs l) (hm : mayN n = true) : dropV l n = (if bsF (fcmp n.f0) l = false then (l, 2)
 else match l[bsI (fcmp n.f0) l]? with
 | some r => if (r.v.any fun x => n.f1.toList == x.toList) = false then (l, 2)
  else if (dropRow r n.f1).v = [] then (l.take (bsI (fcmp n.f0) l) ++ l.drop (bsI (fcmp n.f0) l + 1), 0)
  else (l.set (bsI (fcmp n.f0) l) (dropRow r n.f1), 0)
 | none => (l, 2) : List RW × Int) := by
 unfold dropV
 exact if_neg (by rw [chk_good h, hm]; simp)
theorem any_mem {v : List ByteArray} {s : ByteArray} : (v.any fun x => s.toList == x.toList) = true ↔ s ∈ v := by
 rw [List.any_eq_true]
 exact ⟨fun ⟨x, hx, e⟩ => by rw [(eqS_iff (a := s) (b := x)).1 e]; exact hx, fun h => ⟨s, h, (eqS_iff (a := s) (b := s)).2 rfl⟩⟩
theorem mem_dropRow {r : RW} {s x : ByteArray} : x ∈ (dropRow r s).v ↔ x ∈ r.v ∧ x ≠ s := by
 show x ∈ List.filter _ _ ↔ _
 rw [List.mem_filter]
 refine and_congr_right fun _ => ?_
 have := @eqS_iff x s
 unfold eqS at this
 cases hq : (x.toList == s.toList)
 ·rw [hq] at this; simpa using this
 ·rw [hq] at this; simpa using this
theorem drop_spec {l : List RW} {n : Nd} (h : GRs l) (hm : mayN n = true) :
 (n ∉ allN l ∧ dropV l n = (l, 2)) ∨ (n ∈ allN l ∧ ∃ l', dropV l n = (l', 0) ∧ GRs l' ∧ ∀ x, x ∈ allN l' ↔ x ∈ allN l ∧ x ≠ n) := by
 have hv := isV_of hm
 rw [dropV_ok h hm]
 cases hf : bsF (fcmp n.f0) l
 ·rw [if_pos rfl]
  have hq := find_no (h.far n.f0) hf
  refine Or.inl ⟨fun hn => ?_, rfl⟩
  obtain ⟨r, hr, h1, h2⟩ := mem_allN.1 hn
  have h0 := fcmp_zero.2 h1
  rw [← List.take_append_drop (bsI (fcmp n.f0) l) l] at hr
  rcases List.mem_append.1 hr with hr | hr
  ·have := hq.1 r hr; omega
  ·have := hq.2 r hr; omega
 ·rw [if_neg (by decide)]
  obtain ⟨r, hl, hget, h0, ha, hb⟩ := find_yes (h.far n.f0) hf
  have hil := bsF_lt hf
  have hrm : r ∈ l := List.mem_of_getElem? hget
  have hrp := fcmp_zero.1 h0
  have hl2 : GRs (l.take (bsI (fcmp n.f0) l) ++ r :: l.drop (bsI (fcmp n.f0) l + 1)) := by rw [← hl]; exact h
  have apart : ∀ x ∈ allN (l.take (bsI (fcmp n.f0) l) ++ l.drop (bsI (fcmp n.f0) l + 1)), x.f0 ≠ n.f0 := fun x hx e => by
   obtain ⟨q, hq, h1, h2⟩ := mem_allN.1 hx
   have h0 := fcmp_zero.2 (h1.trans e)
   rcases List.mem_append.1 hq with hq | hq
   ·have := ha q hq; omega
   ·have := hb q hq; omega
  have gr := h.r r hrm
  rw [hget]
  simp only []
  cases hg : r.v.any fun x => n.f1.toList == x.toList
  ·rw [if_pos rfl]
   refine Or.inl ⟨fun hn => ?_, rfl⟩
   rw [hl, allN_mid] at hn
   rcases hn with hn | hn
   ·exact apart n hn rfl
   ·rw [any_mem.2 hn.2] at hg; cases hg
  ·rw [if_neg (by decide)]
   have hsm := any_mem.1 hg
   refine Or.inr ⟨mem_allN.2 ⟨r, hrm, hrp, hsm⟩, ?_⟩
   have hmem : ∀ x, (x ∈ allN l ∧ x ≠ n) ↔ x ∈ allN (l.take (bsI (fcmp n.f0) l) ++ l.drop (bsI (fcmp n.f0) l + 1)) ∨ ((dropRow r n.f1).p = x.f0 ∧ x.f1 ∈ (dropRow r n.f1).v) := fun x => by
    conv => lhs; lhs; rw [hl]
    rw [allN_mid, mem_dropRow, show (dropRow r n.f1).p = r.p from rfl, hrp]
    have := @nd_eq x n.f0 n.f1
    rw [show (⟨n.f0, n.f1⟩ : Nd) = n from rfl] at this
    constructor
    ·rintro ⟨h | h, hne⟩
     ·exact Or.inl h
     ·exact Or.inr ⟨h.1, h.2, fun e => hne (this.2 ⟨h.1, e⟩)⟩
    ·rintro (h | h)
     ·exact ⟨Or.inl h, fun e => apart x h (by rw [e])⟩
     ·exact ⟨Or.inr ⟨h.1, h.2.1⟩, fun e => h.2.2 (this.1 e).2⟩
   by_cases hemp : (dropRow r n.f1).v = []
   ·rw [if_pos hemp]
    refine ⟨_, rfl, out_good hl2, fun x => ?_⟩
    rw [hmem, hemp]
    simp
   ·rw [if_neg hemp, set_mid hl hil]
    refine ⟨_, rfl, put_good hl2 ⟨gr.p, hemp, fun s hs => gr.v s (mem_dropRow.1 hs).1, gr.lt.filter _⟩ rfl, fun x => ?_⟩
    rw [hmem, allN_mid]
theorem bestV_ok {l : List RW} {p : ByteArray} (h : GRs l) (hp : isPath (bs p) = true) : bestV l p = (if bsF (fcmp p) l = false then (⟨#[]⟩, 2)
 else match l[bsI (fcmp p) l]? with
 | some r => (r.v.getLastD ⟨#[]⟩, 0)
 | none => (⟨#[]⟩, 2) : ByteArray × Int) := by
 unfold bestV
 exact if_neg (by rw [chk_good h, hp]; simp)
theorem best_row {l : List RW} {p : ByteArray} (h : GRs l) (hp : isPath (bs p) = true) :
 (∃ A r B, l = A ++ r :: B ∧ r.p = p ∧ (∀ q ∈ A, q.p ≠ p) ∧ (∀ q ∈ B, q.p ≠ p) ∧ bestV l p = (r.v.getLastD ⟨#[]⟩, 0)) ∨ ((∀ r ∈ l, r.p ≠ p) ∧ bestV l p = (⟨#[]⟩, 2)) := by
 rw [bestV_ok h hp]
 cases hf : bsF (fcmp p) l
 ·rw [if_pos rfl]
  have hq := find_no (h.far p) hf
  refine Or.inr ⟨fun r hr e => ?_, rfl⟩
  have h0 := fcmp_zero.2 e
  rw [← List.take_append_drop (bsI (fcmp p) l) l] at hr
  rcases List.mem_append.1 hr with hr | hr
  ·have := hq.1 r hr; omega
  ·have := hq.2 r hr; omega
 ·rw [if_neg (by decide)]
  obtain ⟨r, hl, hget, h0, ha, hb⟩ := find_yes (h.far p) hf
  rw [hget]
  exact Or.inl ⟨_, r, _, hl, fcmp_zero.1 h0, fun q hq e => by have := ha q hq; have := fcmp_zero.2 e; omega, fun q hq e => by have := hb q hq; have := fcmp_zero.2 e; omega, rfl⟩
theorem b16_none {p : ByteArray} : ∀ {l : List RW} (a : ByteArray × Bool), (∀ r ∈ l, r.p ≠ p) → l.foldl (b16s p) a = a
 | [], _, _ => rfl
 | r :: l, a, h => by
  have e : eqS r.p p = false := by
   cases hq : eqS r.p p
   ·rfl
   ·exact absurd (eqS_iff.1 hq) (h r List.mem_cons_self)
  rw [List.foldl_cons, show b16s p a r = a by unfold b16s; rw [e]; simp, b16_none a (fun q hq => h q (List.mem_cons_of_mem _ hq))]
theorem b16_row {A B : List RW} {r : RW} {p : ByteArray} (hr : r.p = p) (hne : r.v ≠ []) (ha : ∀ q ∈ A, q.p ≠ p) (hb : ∀ q ∈ B, q.p ≠ p) : b16 p (A ++ r :: B) = (r.v.getLastD ⟨#[]⟩, true) := by
 unfold b16
 rw [List.foldl_append, b16_none _ ha, List.foldl_cons, show b16s p (⟨#[]⟩, false) r = (r.v.getLastD ⟨#[]⟩, true) by unfold b16s; rw [eqS_iff.2 hr, if_pos ⟨rfl, List.length_pos_iff.2 hne⟩], b16_none _ hb]
theorem best_ref {l : List RW} {p : ByteArray} (h : GRs l) (hp : isPath (bs p) = true) : bestV l p = ((b16 p l).1, if (b16 p l).2 then 0 else 2) ∧ ((b16 p l).2 = false → (b16 p l).1 = ⟨#[]⟩) := by
 rcases best_row h hp with ⟨A, r, B, rfl, hr, ha, hb, e⟩ | ⟨hn, e⟩
 ·rw [b16_row hr (h.r r (by simp)).ne ha hb, e]
  exact ⟨rfl, fun h => by cases h⟩
 ·rw [show b16 p l = (⟨#[]⟩, false) from b16_none _ hn, e]
  exact ⟨rfl, fun _ => rfl⟩
end Go.Proofs.YtffjkbbmnfnbaaaGreatDoor.Q
end
