/- Part 10 of this claim: several texts one behind the other: FEdits, FCount, FDiff, FConcat, FBoth, ECells, FTurn, FdiffCount, PDiff, DVal, PEdit, PSum, R13Same, C13. What each shows stands in its theorems; conditions: sizes of texts and lists, as the functions' definitions say. -/
import Derived.Test.YtohdmmafjpjmfaaGreatDoorMRoomTakes8
import Derived.Test.YtohdmmafjpjmfaaGreatDoorMRoomTakes2
import Derived.Test.YtohdmmafjpjmfaaGreatDoorMRoomTakes9
import Derived.Test.YtohdmmafjpjmfaaGreatDoorMRoomTakes6
import Derived.Deep.LoopGhost
import Derived.Maps.OwnSet
import Derived.Laws.CopyRow
import Derived.Laws.CopyOwn
import Derived.Lib.SlBuf
import Derived.Test.YtohdmmafjpjmfaaGreatDoorMRoomTakes3
import Derived.Test.YtohdmmafjpjmfaaGreatDoorMRoomTakes5
section
namespace Go.Proofs.YtohdmmafjpjmfaaGreatDoor.Q
open Go.Proofs.YtohdmmafjpjmfaaGreatDoor.QB.D
open Go Go.RowKit Go.Maps Go.Lib Go.Proofs.YtohdmmafjpjmfaaGreatDoorW.PrintWords Go.Proofs.YtohdmmafjpjmfaaGreatDoorW.PrintLast Go.Proofs.YtohdmmafjpjmfaaGreatDoorW.PrintMore Gw
set_option linter.unusedVariables false
set_option linter.unusedSimpArgs false
theorem look_mem (m : List (S34 × Int)) (x : S34) : (lookC m x).isSome = true ↔ x ∈ m.map (·.1) := by
  unfold lookC
  rw [Option.isSome_map, List.find?_isSome, List.mem_map]
  constructor
  · rintro ⟨p, hp, h⟩; exact ⟨p, hp, of_decide_eq_true h⟩
  · rintro ⟨p, hp, h⟩; exact ⟨p, hp, decide_eq_true h⟩
def editsF (m : List (S34 × Int)) (S : List S34) : List S48 := (S.filter (fun n => !decide ((lookC m n).getD 0 = 0))).map (fun n => ⟨n, (lookC m n).getD 0⟩)
theorem editsF_len (m : List (S34 × Int)) (S : List S34) : (editsF m S).length ≤ S.length := by unfold editsF; rw [List.length_map]; exact List.length_filter_le _ _
theorem editsF_snoc (m : List (S34 × Int)) (S : List S34) (n : S34) : editsF m (S ++ [n]) = if (lookC m n).getD 0 = 0 then editsF m S else editsF m S ++ [⟨n, (lookC m n).getD 0⟩] := by
  unfold editsF
  rw [List.filter_append, List.map_append]
  split
  · rename_i h; rw [List.filter_cons_of_neg (by simp [h])]; simp
  · rename_i h; rw [List.filter_cons_of_pos (by simp [h])]; rfl
theorem zero_intN (w : World) : (zeroValue 3).run Tryz.prog w = .ok (.int .i64 0) w := by kernel_rfl
set_option maxHeartbeats 2000000 in
theorem keysM_calls (b : Nat) (w : World) : Calls Tryz.prog 81 #[.map (some b)] w fun e w' => e = .returned (.func (.func 96) #[] #[.pointer (some ⟨w.heap.size, 0, none⟩)]) ∧ w' = w.alloc (.cells #[.map (some b)] 91 (0, 0)) := by
  go_enter Tryz.func81, Tryz.ntmps81
  go_wp2
  go_ret
  exact ⟨rfl, rfl⟩
structure CntOk (m : List (S34 × Int)) : Prop where
  nodup : (m.map (·.1)).Nodup
  may : ∀ p ∈ m, TinyN p.1 ∧ mayN p.1 = true
  len : m.length ≤ 65536
theorem tiny_ns {x : S34} (h : TinyN x) : NS x := by unfold TinyN Tiny at h; unfold NS maxLen; omega
set_option maxHeartbeats 4000000 in
theorem sortedD_calls (Bm b nn : Nat) (D0 : DataW Unit) (m : List (S34 × Int)) (hm0 : CntM D0 m) (hok : CntOk m) (hsz : Maps.size D0 ≤ 4294967296) (w : World) (hBm : Bm < w.heap.size) (hm : w.cell? ⟨Bm, 0, none⟩ = some (.map (some b))) (hown : w.ownsMap Tryz.prog 34 (plainElem Tryz.prog 3) b nn D0) :
    Calls Tryz.prog 80 #[.func (.func 96) #[] #[.pointer (some ⟨Bm, 0, none⟩)], .func (.func 49) #[] #[]] w fun e w' => ∃ v, e = .returned v ∧ Kd.R k34 34 w' w.heap.size (fun _ => True) v (sortN (m.map (·.1))) ∧ Below w.heap.size w w' := by
  have CC := collectN_calls Bm b nn D0 m hm0 hsz w hBm hm hown
  have HOK := Aside0.mk hok
  clear hm0 hok hm hown
  go_enter Tryz.func80, Tryz.ntmps80
  go_wp2_with fail
  refine CC.mono ?_
  rintro e w1 ⟨v, ss, rfl, hS, hR, hb⟩
  have hmem : ∀ x, x ∈ ss ↔ x ∈ m.map (·.1) := fun x => by
    constructor
    · intro hx; exact (look_mem m x).1 ((hS.2.2 x (hS.2.1 x hx)).1 hx)
    · intro hx
      obtain ⟨p, hp, rfl⟩ := List.mem_map.1 hx
      exact (hS.2.2 _ (tiny_ns (HOK.out.may p hp).1)).2 ((look_mem m _).2 hx)
  have hperm : ss.Perm (m.map (·.1)) := (List.perm_ext_iff_of_nodup hS.1 HOK.out.nodup).2 hmem
  have hok : ∀ x ∈ ss, TinyN x ∧ mayN x = true := fun x hx => by
    obtain ⟨p, hp, rfl⟩ := List.mem_map.1 ((hmem x).1 hx)
    exact HOK.out.may p hp
  have hgd : ∀ y ∈ m.map (·.1), GoodN y := fun y hy => by
    obtain ⟨p, hp, rfl⟩ := List.mem_map.1 hy
    exact mayN_good (HOK.out.may p hp).1 (HOK.out.may p hp).2
  have CSo := sortM_calls ss (sortN (m.map (·.1))) hok (by rw [hperm.length_eq, List.length_map]; have := HOK.out.len; omega) ((sortN_perm _).trans hperm.symm) (sortN_sorted _ hgd) w1 w.heap.size w.heap.size (fun _ => True) (fun _ => True) v hR (fun _ h => h) (Nat.le_refl _)
  have HB := Aside0.mk hb
  clear hS hR hb hmem hperm hok hgd CC
  go_wp2_with fail
  refine CSo.mono ?_
  rintro e w2 ⟨rfl, hR2, hb2⟩
  have HR2 := Aside0.mk hR2
  have HB2 := Aside0.mk (HB.out.trans hb2)
  clear hR2 hb2 CSo
  go_wp2
  go_ret
  exact ⟨_, rfl, HR2.out, HB2.out⟩
set_option maxHeartbeats 8000000 in
set_option maxRecDepth 100000 in
theorem edits_calls (b nn : Nat) (D0 : DataW Unit) (m : List (S34 × Int)) (hm0 : CntM D0 m) (hok : CntOk m) (hsz : Maps.size D0 ≤ 4294967296) (w : World) (hown : w.ownsMap Tryz.prog 34 (plainElem Tryz.prog 3) b nn D0) :
    Calls Tryz.prog 67 #[.map (some b)] w fun e w' => ∃ v, e = .returned v ∧ Kd.R k48 48 w' w.heap.size (fun _ => True) v (editsF m (sortN (m.map (·.1)))) ∧ Below w.heap.size w w' := by
  have hu24 := Tryz.underlying34
  have hu35 := Tryz.underlying48
  obtain ⟨W1, hW1⟩ : ∃ W1, W1 = w.alloc (.cells #[.map (some b)] 91 (0, 0)) := ⟨_, rfl⟩
  have CK := keysM_calls b w
  have hown1 : W1.ownsMap Tryz.prog 34 (plainElem Tryz.prog 3) b nn D0 := by rw [hW1]; exact hown.alloc _
  have CS := sortedD_calls w.heap.size b nn D0 m hm0 hok hsz W1 (by rw [hW1]; simp) (by rw [hW1]; simp [go_sem]) hown1
  have HM := Aside0.mk hown
  have HCM := Aside0.mk hm0
  have HOK := Aside0.mk hok
  have HW1 := Aside0.mk hW1
  obtain ⟨S, hS⟩ : ∃ S, S = sortN (m.map (·.1)) := ⟨_, rfl⟩
  have hSl : S.length ≤ 65536 := by rw [hS, (sortN_perm _).length_eq, List.length_map]; exact hok.len
  have hSt : ∀ x ∈ S, TinyN x := fun x hx => by
    rw [hS] at hx
    obtain ⟨p, hp, rfl⟩ := List.mem_map.1 ((sortN_perm _).mem_iff.1 hx)
    exact (hok.may p hp).1
  rw [← hS] at CS ⊢
  have HST := Aside0.mk hSt
  have hl1 : (S.length : Int) ≤ 65536 := by omega
  clear hown hm0 hok hown1 hS hSt
  go_enter Tryz.func67, Tryz.ntmps67
  go_wp2_with fail
  refine CK.mono ?_
  rintro e w1 ⟨rfl, hw1⟩
  obtain rfl : w1 = W1 := hw1.trans HW1.out.symm
  clear hw1 CK
  go_wp2_with fail
  (try rw [← HW1.out])
  refine CS.mono ?_
  rintro e w2 ⟨vs, rfl, hR, hb⟩
  have hb0 : Below w.heap.size w w1 := by rw [HW1.out]; exact below_alloc (Below.refl _ _) _
  have hs1 : w.heap.size + 1 ≤ w1.heap.size := by rw [HW1.out]; simp
  have HB2 : Aside0 (Below w.heap.size w w2) := ⟨hb0.trans (hb.mono (by omega))⟩
  have HG2 : Aside0 (Kd.R k34 34 w2 w.heap.size (fun _ => True) vs S) := ⟨Kd.R_lower hR (by omega)⟩
  obtain ⟨Ag, cg, eg⟩ := Kd.R_slice HG2.out
  subst eg
  clear hR hb hb0 CS
  go_wp2_with fail
  go_loopw [3, 11] (fun v3 v11 wr => ∃ i : Nat, i ≤ S.length ∧ v11 = .int .i64 (i : Int) ∧ Aside0 (Kd.R k48 48 wr w.heap.size (fun j => some j ≠ (Value.slice Ag S.length cg).ownBlock) v3 (editsF m (S.take i))) ∧ Aside0 (Kd.R k34 34 wr w.heap.size (fun j => some j ≠ v3.ownBlock) (.slice Ag S.length cg) S) ∧ Aside0 (Below w.heap.size w wr)) (fun _ v11 _ => S.length - (RowKit.intOf v11).toNat)
  case atStart => exact ⟨0, Nat.zero_le _, rfl, ⟨Kd.R_nil _ _ _ _ _⟩, ⟨Kd.R_mono HG2.out (fun j _ => by simp [Value.ownBlock])⟩, HB2⟩
  case round =>
    clear HG2 HB2
    obtain ⟨i, hi, rfl, HO, HG, HB⟩ := hrel
    by_cases hil : i < S.length
    · have j1 : (i : Int) < (S.length : Int) := by omega
      have hdi : decide ((i : Int) < (S.length : Int)) = true := decide_eq_true j1
      obtain ⟨n, hn⟩ : ∃ n, n = S[i] := ⟨_, rfl⟩
      have hns : NS n := tiny_ns (HST.out n (by rw [hn]; exact List.getElem_mem hil))
      have hkey := keyOf_node n hns.1 hns.2
      obtain ⟨gg, gc, hvv, _, _, _⟩ := Kd.R_form HG.out (by omega)
      injection hvv with f1 f2 f3
      subst f1
      have hrc := rowcells HG.out i hil
      rw [← hn] at hrc
      have x0 := hrc.1
      have x1 := hrc.2
      have htk : S.take (i + 1) = S.take i ++ [n] := by rw [hn]; exact List.take_succ_eq_append_getElem hil
      have hsn := editsF_snoc m (S.take i) n
      rw [← htk] at hsn
      have HSN := Aside0.mk hsn
      have hel : (editsF m (S.take i)).length ≤ 65536 := Nat.le_trans (editsF_len _ _) (by rw [List.length_take]; omega)
      have HM3 := Aside0.mk ((HM.out.kept (grown_of_below HB.out none) (by simp)).alloc (.cells #[.string n.f0, .string n.f1] 34 (0, 0)))
      have HB3 := Aside0.mk (below_alloc HB.out (.cells #[.string n.f0, .string n.f1] 34 (0, 0)))
      have HO3 := Aside0.mk (Kd.R_alloc HO.out (.cells #[.string n.f0, .string n.f1] 34 (0, 0)))
      have HG3 := Aside0.mk (Kd.R_alloc HG.out (.cells #[.string n.f0, .string n.f1] 34 (0, 0)))
      have hat0 := HCM.out.at_ n hns
      have HAT := Aside0.mk hat0
      clear hn hrc htk hsn hat0 f2 f3 HO HG
      by_cases hz : (lookC m n).getD 0 = 0
      · have HSZ : Aside0 (editsF m (S.take (i + 1)) = editsF m (S.take i)) := ⟨by rw [HSN.out, if_pos hz]⟩
        have HZ := Aside0.mk hz
        clear hz
        go_wp2_with (first
          | (at_lookup; refine wpList_lookup_own_int _ rfl _ _ 91 rfl 34 3 .i64 law_node Tryz.underlying91 Tryz.underlying3 (zero_intN _) b _ D0 rfl HM3.out _ _ rfl hkey ?_; intro cq hat hwc; (have hcq : cq = 0 := by (have h9 := hat.symm.trans HAT.out; rw [HZ.out] at h9; injection h9 with h9; injection h9)); subst hcq; clear hat hwc)
          | fail)
        go_roundw
        case rel => exact ⟨i + 1, by omega, by go_num, ⟨by rw [HSZ.out]; exact HO3.out⟩, HG3, HB3⟩
        case measure => simp [RowKit.intOf]; omega
      · obtain ⟨c, hc⟩ : ∃ c, c = (lookC m n).getD 0 := ⟨_, rfl⟩
        have HSZ : Aside0 (editsF m (S.take (i + 1)) = editsF m (S.take i) ++ [⟨n, c⟩]) := ⟨by rw [HSN.out, if_neg hz, hc]⟩
        rw [← hc] at hz
        have HC := Aside0.mk hc
        have hz1 : (c == 0) = false := beq_eq_false_iff_ne.2 hz
        have hz2 : (c != 0) = true := bne_iff_ne.2 hz
        clear hc hz
        go_wp2_with (first
          | (at_lookup; refine wpList_lookup_own_int _ rfl _ _ 91 rfl 34 3 .i64 law_node Tryz.underlying91 Tryz.underlying3 (zero_intN _) b _ D0 rfl HM3.out _ _ rfl hkey ?_; intro cq hat hwc; (have hcq : cq = c := by (have h9 := hat.symm.trans HAT.out; rw [← HC.out] at h9; injection h9 with h9; injection h9)); subst hcq; clear hat hwc)
          | ((with_reducible refine gate_builtin (b := .append) (xs := #[.tmp 20, .tmp 24]) rfl ?_); at_builtin; refine Kd.R_append k48 (w0 := w) w.heap.size rfl (.tmp 20) (.tmp 24) 22 48 (.agg #[(.string ⟨#[]⟩), (.string ⟨#[]⟩), (.int .i64 0)]) 40 rfl Tryz.underlying22 info48 rfl (by decide) (by omega) u3 (editsF m (S.take i)) ⟨n, cq⟩ [.string n.f0, .string n.f1, .int .i64 cq] (fun j => some j ≠ (Value.slice (some ⟨gg, 0, none⟩) S.length cg).ownBlock) (fun _ => False) rfl (by rw [World.size_alloc]; rfl) ?aP (fun _ hk => hk.elim) ?aF ?aO ?aB ?aS ?aL ?_; (case aP => exact k48_mkM _ _ _ ⟨n, cq⟩); (case aB => exact HB3.out); (case aF => exact (fun j hj e => absurd (Kd.R_lt HG3.out j e.symm) (by omega))); (case aO => exact HO3.out); (case aS => exact HB3.out.size); (case aL => omega); intro v9 w9 ho9 hb9 hg9 hat9)
          | fail)
        have HO9 := Aside0.mk ho9
        have HB9 := Aside0.mk hb9
        have HG9 := Aside0.mk (Kd.R_after (ok := fun _ => True) (Kd.R_mono HG3.out (fun j hj => ⟨trivial, hj⟩)) hg9 hat9)
        clear ho9 hb9 hg9 hat9
        go_roundw
        case rel => exact ⟨i + 1, by omega, by go_num, ⟨by rw [HSZ.out]; exact HO9.out⟩, ⟨Kd.R_mono HG9.out (fun j hj => hj.2)⟩, HB9⟩
        case measure => simp [RowKit.intOf]; omega
    · obtain rfl : i = S.length := by omega
      have hdi : decide ((S.length : Int) < (S.length : Int)) = false := decide_eq_false (by omega)
      have ho := HO.out
      rw [List.take_length] at ho
      have HOF := Aside0.mk ho
      clear ho HO HG
      go_wp2
      go_ret
      exact ⟨_, rfl, Kd.R_mono HOF.out (fun _ _ => trivial), HB.out⟩
def bumpC (m : List (S34 × Int)) (x : S34) (v : Int) : List (S34 × Int) := putC m x ((lookC m x).getD 0 + v)
def countC (m : List (S34 × Int)) (l : List S34) (v : Int) : List (S34 × Int) := l.foldl (fun m x => bumpC m x v) m
theorem countC_take (m : List (S34 × Int)) (l : List S34) (v : Int) (i : Nat) (h : i < l.length) : countC m (l.take (i + 1)) v = bumpC (countC m (l.take i) v) l[i] v := by
  unfold countC
  rw [List.take_succ_eq_append_getElem h, List.foldl_append]
  rfl
def FarC (m : List (S34 × Int)) (B : Int) : Prop := ∀ x, -B ≤ (lookC m x).getD 0 ∧ (lookC m x).getD 0 ≤ B
theorem FarC.bump {m : List (S34 × Int)} {B V : Int} (h : FarC m B) (hV : 0 ≤ V) (x : S34) (v : Int) (h1 : -V ≤ v) (h2 : v ≤ V) : FarC (bumpC m x v) (B + V) := by
  intro y
  have hx := h x
  have hy := h y
  unfold bumpC
  rw [lookC_put]
  split
  · simp only [Option.getD_some]; omega
  · omega
set_option maxHeartbeats 8000000 in
set_option maxRecDepth 100000 in
theorem count_calls (A0 : Option Addr) (c0 : Nat) (l0 : List S34) (by_ : Int) (hby : -1 ≤ by_ ∧ by_ ≤ 1) (b nn : Nat) (D0 : DataW Unit) (m : List (S34 × Int)) (hm0 : CntM D0 m) (B0 : Int) (hfar : FarC m B0) (w0 w : World) (hr0 : Kd.C k34 w0 A0 l0.length l0) (hB0 : Below w0.heap.size w0 w) (hb0 : w0.heap.size ≤ b)
    (hl0 : l0.length ≤ 65536) (hB : B0 + 65536 ≤ 4611686018427387904) (hnn : nn ≤ 4294967296) (ht : ∀ x ∈ l0, TinyN x) (hown : w.ownsMap Tryz.prog 34 (plainElem (H := Unit) Tryz.prog 3) b nn D0) (K : Nat) (hK : ∀ x ∈ l0, x.f0.size + 2 ≤ K) :
    Calls Tryz.prog 77 #[.map (some b), .slice A0 l0.length c0, .int .i64 by_] w fun e w' => e = .returned (.bool (l0.all mayN)) ∧ Below w0.heap.size w0 w' ∧ (l0.all mayN = true → ∃ D, w'.ownsMap Tryz.prog 34 (plainElem (H := Unit) Tryz.prog 3) b (nn + l0.length) D ∧ CntM D (countC m l0 by_) ∧ FarC (countC m l0 by_) (B0 + l0.length)) := by
  have hu24 := Tryz.underlying34
  have HR0 := Aside0.mk hr0
  have HT := Aside0.mk ht
  have HK := Aside0.mk hK
  have HM0 := Aside0.mk hown
  have HD0 := Aside0.mk hm0
  have HF0 := Aside0.mk hfar
  have HB0 := Aside0.mk hB0
  have hl1 : (l0.length : Int) ≤ 65536 := by omega
  clear hr0 ht hK hown hm0 hfar hB0
  go_enter Tryz.func77, Tryz.ntmps77
  go_wp2_with fail
  go_loopw [11] (fun v11 wr => ∃ (i : Nat) (D : DataW Unit), i ≤ l0.length ∧ v11 = .int .i64 (i : Int) ∧ Aside0 ((l0.take i).all mayN = true) ∧ Aside0 (wr.ownsMap Tryz.prog 34 (plainElem (H := Unit) Tryz.prog 3) b (nn + i) D) ∧ Aside0 (CntM D (countC m (l0.take i) by_)) ∧ Aside0 (FarC (countC m (l0.take i) by_) (B0 + i)) ∧ Aside0 (Below w0.heap.size w0 wr)) (fun v11 _ => l0.length - (RowKit.intOf v11).toNat)
  case atStart => exact ⟨0, D0, Nat.zero_le _, rfl, ⟨rfl⟩, HM0, HD0, ⟨by have := HF0.out; simpa [countC] using this⟩, HB0⟩
  case round =>
    clear HM0 HD0 HF0 HB0
    obtain ⟨i, D, hi, rfl, HALL, HM, HD, HF, HB⟩ := hrel
    by_cases hil : i < l0.length
    · have j1 : (i : Int) < (l0.length : Int) := by omega
      have hdi : decide ((i : Int) < (l0.length : Int)) = true := decide_eq_true j1
      obtain ⟨x, hx⟩ : ∃ x, x = l0[i] := ⟨_, rfl⟩
      have hmem : x ∈ l0 := by rw [hx]; exact List.getElem_mem hil
      obtain ⟨ad, e0, hx0, hx1⟩ := at_T34 HR0.out (i : Int) (by omega) (by omega)
      have hrd : rd_T34 l0 (i : Int) = x := by rw [hx]; simp [rd_T34, List.getD_eq_getElem?_getD, List.getElem?_eq_getElem hil]
      rw [hrd, Int.toNat_natCast] at hx0 hx1
      cases e0
      replace hx0 := (HB.out.cell (World.block_lt_of_cell? w0 _ hx0)).trans hx0
      replace hx1 := (HB.out.cell (World.block_lt_of_cell? w0 _ hx1)).trans hx1
      have hns := tiny_ns (HT.out x hmem)
      have hkey := keyOf_node x hns.1 hns.2
      have hct := countC_take m l0 by_ i hil
      rw [← hx] at hct
      have hva : (l0.take (i + 1)).all mayN = mayN x := by rw [List.take_succ_eq_append_getElem hil, List.all_append, HALL.out, ← hx]; simp
      have hval := node_May_val K x (HT.out x hmem) (HK.out x hmem)
      have hall2 : mayN x = false → l0.all mayN = false := fun h => by
        rw [List.all_eq_false]; exact ⟨x, hmem, by simp [h]⟩
      obtain ⟨bm, hbm⟩ : ∃ bm, bm = mayN x := ⟨_, rfl⟩
      rw [← hbm] at hval hva hall2
      have CC := fun (W : World) => node_May.calls K x.f0 x.f1 bm W hval
      have HCT := Aside0.mk hct
      have HVA := Aside0.mk hva
      have HALL2 := Aside0.mk hall2
      have hfx := HF.out x
      have hf1 : -4611686018427387904 ≤ (lookC (countC m (l0.take i) by_) x).getD 0 := by omega
      have hf2 : (lookC (countC m (l0.take i) by_) x).getD 0 ≤ 4611686018427387904 := by omega
      have HNS := Aside0.mk hns
      have HLT := Aside0.mk hil
      clear hx hrd hct hmem hval hva hall2 hbm hfx hns
      have HM5 := Aside0.mk (HM.out.alloc (.cells #[.string x.f0, .string x.f1] 34 (0, 0)))
      have HB5 := Aside0.mk (below_alloc HB.out (.cells #[.string x.f0, .string x.f1] 34 (0, 0)))
      have n0 : (wr.alloc (.cells #[.string x.f0, .string x.f1] 34 (0, 0))).cell? ⟨wr.heap.size, 0, none⟩ = some (.string x.f0) := by simp [go_sem]
      have n1 : (wr.alloc (.cells #[.string x.f0, .string x.f1] 34 (0, 0))).cell? ⟨wr.heap.size, 1, none⟩ = some (.string x.f1) := by simp [go_sem]
      go_wp2_with fail
      refine (CC _).mono ?_
      rintro e w5 ⟨rfl, hb5⟩
      have HM6 := Aside0.mk (HM5.out.kept (grown_of_below hb5 none) (by simp))
      have HB6 := Aside0.mk (below_step HB5.out hb5)
      have p0 := (hb5.cell (p := ⟨wr.heap.size, 0, none⟩) (by simp)).trans n0
      have p1 := (hb5.cell (p := ⟨wr.heap.size, 1, none⟩) (by simp)).trans n1
      clear hb5 CC n0 n1
      cases bm
      · have hfa := HALL2.out rfl
        go_wp2
        go_ret
        exact ⟨by rw [hfa]; rfl, HB6.out, fun h => by rw [hfa] at h; cases h⟩
      · obtain ⟨c, hc⟩ : ∃ c, c = (lookC (countC m (l0.take i) by_) x).getD 0 := ⟨_, rfl⟩
        rw [← hc] at hf1 hf2
        have hws : IntKind.i64.wrap (c + by_) = c + by_ := by rw [IntKind.wrap_i64]; omega
        have hwd : (Lit.int .i64 (c + by_)).wf = true := by simp [Lit.wf, IntKind.min, IntKind.max, IntKind.signed, IntKind.bits]; omega
        obtain ⟨v0, st, w1, E2, hg1, E1, E1', E3⟩ := own_bump (HM6.out.drew) (deep_law_laid laid_all (m := 3) (by omega) keyr_node keyt_node wide_node) Tryz.underlying91 (by unfold maxLen; omega) zero_intN hkey
        obtain ⟨c2, hrun, hat, hwc⟩ := (HM6.out.drew).lookup_int law_node Tryz.underlying91 Tryz.underlying3 (zero_intN _) hkey
        have hc2 : c2 = c := by
          have h9 := hat.symm.trans (HD.out.at_ x HNS.out)
          rw [← hc] at h9
          injection h9 with h9; injection h9
        subst hc2
        have hv0 : v0 = .int .i64 c2 := by
          rw [hrun] at E1; injection E1 with E1 _; exact E1.symm
        subst hv0
        obtain ⟨w3, E4, hown3, hg3⟩ := E3 w1 (.int .i64 (c2 + by_)) _ [] rfl (plainElem_int Tryz.underlying3 hwd)
        have E5 : (Instr.entryStore 91 (.map (some b)) (.int .i64 (st : Int)) (.int .i64 (c2 + by_))).run Tryz.prog w1 = .ok () w3 := E4
        have E6 : (Instr.mapEntry 91 (.map (some b)) (.agg #[.string x.f0, .string x.f1])).run Tryz.prog w5.drew = .ok (.tuple #[.int .i64 c2, .int .i64 (st : Int)]) w1 := E2
        have HC := Aside0.mk hc
        have HM7 := Aside0.mk hown3
        have HG1 := Aside0.mk hg1
        have HG3 := Aside0.mk hg3
        clear E3 E4 E2 hrun hat hwc hown3 hg1 hg3 hc hwd
        have HB7 := Aside0.mk (pw_below_grown (below_drew HB6.out) _ (below_drew HB6.out).size HG1.out (fun j hj => by cases hj; exact hb0))
        have HB8 := Aside0.mk (pw_below_grown HB7.out _ HB7.out.size HG3.out (fun j hj => by cases hj; exact hb0))
        have HD7 : Aside0 (CntM (D.put (nkey x) (.lit (.int .i64 (c2 + by_)))) (countC m (l0.take (i + 1)) by_)) := ⟨by rw [HCT.out]; unfold bumpC; rw [← HC.out]; exact HD.out.put x HNS.out _⟩
        have HF7 : Aside0 (FarC (countC m (l0.take (i + 1)) by_) (B0 + ((i + 1 : Nat) : Int))) := ⟨by rw [HCT.out, show B0 + ((i + 1 : Nat) : Int) = B0 + (i : Int) + 1 by omega]; exact HF.out.bump (by omega) x by_ (by omega) (by omega)⟩
        go_wp2_with fail
        go_region
        all_goals
          go_wp2
          go_roundw
          case rel => exact ⟨i + 1, _, by omega, by go_num, HVA, HM7, HD7, HF7, HB8⟩
          case measure => simp [RowKit.intOf]; omega
    · obtain rfl : i = l0.length := by omega
      have hdi : decide ((l0.length : Int) < (l0.length : Int)) = false := decide_eq_false (by omega)
      have ha := HALL.out
      have hd := HD.out
      have hf := HF.out
      rw [List.take_length] at ha hd hf
      have HA := Aside0.mk ha
      have HD2 := Aside0.mk hd
      have HF2 := Aside0.mk hf
      clear ha hd hf
      go_wp2
      go_ret
      exact ⟨by rw [HA.out]; rfl, HB.out, fun _ => ⟨D, HM.out, HD2.out, HF2.out⟩⟩
theorem putC_keys (m : List (S34 × Int)) (x : S34) (v : Int) : (putC m x v).map (·.1) = if x ∈ m.map (·.1) then m.map (·.1) else m.map (·.1) ++ [x] := by
  induction m with
  | nil => rfl
  | cons p r ih =>
    unfold putC
    by_cases h : p.1 = x
    · rw [if_pos h, if_pos (by rw [List.map_cons, h]; exact .head _)]; simp [h]
    · rw [if_neg h, List.map_cons, ih]
      by_cases h2 : x ∈ r.map (·.1)
      · rw [if_pos h2, if_pos (by rw [List.map_cons]; exact .tail _ h2), List.map_cons]
      · rw [if_neg h2, if_neg (by rw [List.map_cons, List.mem_cons]; rintro (e | e); exact h e.symm; exact h2 e), List.map_cons, List.cons_append]
theorem putC_nodup {m : List (S34 × Int)} (h : (m.map (·.1)).Nodup) (x : S34) (v : Int) : ((putC m x v).map (·.1)).Nodup := by
  rw [putC_keys]
  split
  · exact h
  · rename_i hx
    exact List.nodup_append.2 ⟨h, by simp, fun a ha b hb => by rw [List.mem_singleton] at hb; subst hb; exact fun e => hx (e ▸ ha)⟩
theorem bumpC_ok {m : List (S34 × Int)} {p : S34 → Prop} {n : Nat} (h : (m.map (·.1)).Nodup ∧ (∀ q ∈ m, p q.1) ∧ m.length ≤ n) (x : S34) (hx : p x) (v : Int) :
    ((bumpC m x v).map (·.1)).Nodup ∧ (∀ q ∈ bumpC m x v, p q.1) ∧ (bumpC m x v).length ≤ n + 1 := by
  refine ⟨putC_nodup h.1 _ _, fun q hq => ?_, by unfold bumpC; rw [putC_len]; split <;> omega⟩
  have h1 : q.1 ∈ (bumpC m x v).map (·.1) := List.mem_map_of_mem hq
  unfold bumpC at h1
  rw [putC_keys] at h1
  have hin : ∀ y, y ∈ m.map (·.1) → p y := fun y hy => by obtain ⟨z, hz, rfl⟩ := List.mem_map.1 hy; exact h.2.1 z hz
  split at h1
  · exact hin _ h1
  · rcases List.mem_append.1 h1 with e | e
    · exact hin _ e
    · rw [List.mem_singleton] at e; rw [e]; exact hx
theorem countC_ok {p : S34 → Prop} (v : Int) : ∀ (l : List S34) (m : List (S34 × Int)) (n : Nat), (m.map (·.1)).Nodup ∧ (∀ q ∈ m, p q.1) ∧ m.length ≤ n → (∀ x ∈ l, p x) →
    ((countC m l v).map (·.1)).Nodup ∧ (∀ q ∈ countC m l v, p q.1) ∧ (countC m l v).length ≤ n + l.length
  | [], m, n, h, _ => h
  | x :: r, m, n, h, hl => by
    have := countC_ok (p := p) v r (bumpC m x v) (n + 1) (bumpC_ok h x (hl x (.head _)) v) (fun y hy => hl y (.tail _ hy))
    rw [List.length_cons]
    exact ⟨this.1, this.2.1, by have := this.2.2; unfold countC at this ⊢; rw [List.foldl_cons]; omega⟩
def diffC (l m : List S34) : List (S34 × Int) := countC (countC [] l (-1)) m 1
def diffV (l m : List S34) : List S48 := editsF (diffC l m) (sortN ((diffC l m).map (·.1)))
theorem diffC_ok (l m : List S34) (hl : l.length ≤ 32768) (hm : m.length ≤ 32768) (tl : ∀ x ∈ l, TinyN x ∧ mayN x = true) (tm : ∀ x ∈ m, TinyN x ∧ mayN x = true) : CntOk (diffC l m) := by
  have h1 := countC_ok (p := fun x => TinyN x ∧ mayN x = true) (-1) l [] 0 ⟨List.nodup_nil, fun q h => (by cases h), Nat.le_refl _⟩ tl
  have h2 := countC_ok (p := fun x => TinyN x ∧ mayN x = true) 1 m _ _ h1 tm
  exact ⟨h2.1, h2.2.1, by have := h2.2.2; unfold diffC; omega⟩
theorem farC_nil : FarC [] 0 := fun x => by simp [lookC]
def diff_Diff.f (l m : List S34) : Option (List S48 × Int) := if l.length ≤ 32768 ∧ m.length ≤ 32768 ∧ (∀ x ∈ l, TinyN x) ∧ (∀ x ∈ m, TinyN x) then some (if l.all mayN = true ∧ m.all mayN = true then (diffV l m, 0) else ([], 1)) else none
theorem may_all {l : List S34} (ht : ∀ x ∈ l, TinyN x) (h : l.all mayN = true) : ∀ x ∈ l, TinyN x ∧ mayN x = true := fun x hx => ⟨ht x hx, List.all_eq_true.1 h x hx⟩
set_option maxHeartbeats 8000000 in
set_option maxRecDepth 100000 in
theorem diff_go (A0 : Option Addr) (c0 : Nat) (l0 : List S34) (A1 : Option Addr) (c1 : Nat) (l1 : List S34) (w : World) (hr0 : Kd.C k34 w A0 l0.length l0) (hr1 : Kd.C k34 w A1 l1.length l1)
    (hl0 : l0.length ≤ 32768) (hl1 : l1.length ≤ 32768) (ht0 : ∀ x ∈ l0, TinyN x) (ht1 : ∀ x ∈ l1, TinyN x) (rr : Int) (re : List S48)
    (hyes : l0.all mayN = true → l1.all mayN = true → rr = 0 ∧ re = diffV l0 l1) (hno : (l0.all mayN = false ∨ l1.all mayN = false) → rr = 1 ∧ re = []) :
    Calls Tryz.prog 64 #[.slice A0 l0.length c0, .slice A1 l1.length c1] w fun e w' => ∃ v, e = .returned (.tuple #[v, .int .i64 rr]) ∧ Kd.R k48 48 w' w.heap.size (fun _ => True) v re ∧ Below w.heap.size w w' := by
  have HYES := Aside0.mk hyes
  have HNO := Aside0.mk hno
  clear hyes hno
  have hmm := @run_makeMap Tryz.prog
  obtain ⟨K, hK0, hK1⟩ : ∃ K, (∀ x ∈ l0, x.f0.size + 2 ≤ K) ∧ (∀ x ∈ l1, x.f0.size + 2 ≤ K) := ⟨4294967296, fun x hx => by have := (ht0 x hx).1; unfold Tiny at this; omega, fun x hx => by have := (ht1 x hx).1; unfold Tiny at this; omega⟩
  have C1 := fun (b nn : Nat) (D0 : DataW Unit) (m : List (S34 × Int)) (hm0 : CntM D0 m) (B0 : Int) (hfar : FarC m B0) (W : World) (hB : Below w.heap.size w W) (hb : w.heap.size ≤ b) (hB0 : B0 + 65536 ≤ 4611686018427387904) (hnn : nn ≤ 4294967296) (hown : W.ownsMap Tryz.prog 34 (plainElem (H := Unit) Tryz.prog 3) b nn D0) => count_calls A0 c0 l0 (-1) (by decide) b nn D0 m hm0 B0 hfar w W hr0 hB hb (by omega) hB0 hnn ht0 hown K hK0
  have C2 := fun (b nn : Nat) (D0 : DataW Unit) (m : List (S34 × Int)) (hm0 : CntM D0 m) (B0 : Int) (hfar : FarC m B0) (W : World) (hB : Below w.heap.size w W) (hb : w.heap.size ≤ b) (hB0 : B0 + 65536 ≤ 4611686018427387904) (hnn : nn ≤ 4294967296) (hown : W.ownsMap Tryz.prog 34 (plainElem (H := Unit) Tryz.prog 3) b nn D0) => count_calls A1 c1 l1 1 (by decide) b nn D0 m hm0 B0 hfar w W hr1 hB hb (by omega) hB0 hnn ht1 hown K hK1
  have HT0 := Aside0.mk ht0
  have HT1 := Aside0.mk ht1
  have HW1 := Aside0.mk (World.ownsMap_made w Tryz.prog 34 (plainElem (H := Unit) Tryz.prog 3))
  have HB1 := Aside0.mk (below_alloc (Below.refl w.heap.size w) (.map #[] 0))
  clear hK0 hK1 ht0 ht1 hr0 hr1
  go_enter Tryz.func64, Tryz.ntmps64
  go_wp2_with fail
  refine (C1 w.heap.size 0 _ [] CntM.none 0 farC_nil _ HB1.out (Nat.le_refl _) (by omega) (by omega) HW1.out).mono ?_
  rintro e w2 ⟨rfl, hb2, hc2⟩
  have HB2 := Aside0.mk hb2
  have HC2 := Aside0.mk hc2
  clear hb2 hc2 C1
  obtain ⟨b0, hb0⟩ : ∃ b, b = l0.all mayN := ⟨_, rfl⟩
  rw [← hb0] at HC2 ⊢
  have HE0 := Aside0.mk hb0
  clear hb0
  cases b0
  · clear C2 HC2
    obtain ⟨rfl, rfl⟩ := HNO.out (Or.inl HE0.out.symm)
    clear HYES HNO
    go_wp2
    go_ret2
    exact ⟨_, rfl, Kd.R_nil _ _ _ _ _, HB2.out⟩
  · obtain ⟨D2, hown2, hcm2, hfar2⟩ := HC2.out rfl
    have C3 := C2 w.heap.size (0 + l0.length) D2 _ hcm2 _ hfar2 w2 HB2.out (Nat.le_refl _) (by omega) (by omega) hown2
    clear C2 hown2 hcm2 hfar2 HC2
    go_wp2_with fail
    refine C3.mono ?_
    rintro e w3 ⟨rfl, hb3, hc3⟩
    have HB3 := Aside0.mk hb3
    have HC3 := Aside0.mk hc3
    clear hb3 hc3 C3
    obtain ⟨b1, hb1⟩ : ∃ b, b = l1.all mayN := ⟨_, rfl⟩
    rw [← hb1] at HC3 ⊢
    have HE1 := Aside0.mk hb1
    clear hb1
    cases b1
    · clear HC3
      obtain ⟨rfl, rfl⟩ := HNO.out (Or.inr HE1.out.symm)
      clear HYES HNO
      go_wp2
      go_ret2
      exact ⟨_, rfl, Kd.R_nil _ _ _ _ _, HB3.out⟩
    · obtain ⟨D3, hown3, hcm3, hfar3⟩ := HC3.out rfl
      have hok := diffC_ok l0 l1 hl0 hl1 (may_all HT0.out HE0.out.symm) (may_all HT1.out HE1.out.symm)
      have CE := edits_calls w.heap.size _ D3 (diffC l0 l1) hcm3 hok (Nat.le_trans hown3.size_le (by omega)) w3 hown3
      clear hown3 hcm3 hfar3 HC3 hok
      obtain ⟨rfl, rfl⟩ := HYES.out HE0.out.symm HE1.out.symm
      clear HYES HNO
      go_wp2_with fail
      refine CE.mono ?_
      rintro e w4 ⟨v, rfl, hR, hb4⟩
      have HB4 : Aside0 (Below w.heap.size w w4) := ⟨HB3.out.trans (hb4.mono HB3.out.size)⟩
      have HR4 := Aside0.mk (Kd.R_lower hR HB3.out.size)
      clear hR hb4 CE
      go_wp2
      go_ret2
      exact ⟨_, rfl, HR4.out, HB4.out⟩
theorem diff_Diff.calls (A0 : Option Addr) (c0 : Nat) (l0 : List S34) (A1 : Option Addr) (c1 : Nat) (l1 : List S34) (r1 : List S48) (r2 : Int) (w : World) (hr0 : Kd.C k34 w A0 l0.length l0) (hc0 : l0.length ≤ c0) (hr1 : Kd.C k34 w A1 l1.length l1) (hc1 : l1.length ≤ c1) (h : diff_Diff.f l0 l1 = some (r1, r2)) :
    Calls Tryz.prog 64 #[.slice A0 l0.length c0, .slice A1 l1.length c1] w fun e w' => ∃ v, e = .returned (.tuple #[v, .int .i64 r2]) ∧ Kd.R k48 48 w' w.heap.size (fun _ => True) v r1 ∧ Below w.heap.size w w' := by
  unfold diff_Diff.f at h
  split at h
  case isFalse => cases h
  case isTrue hc =>
    refine diff_go A0 c0 l0 A1 c1 l1 w hr0 hr1 hc.1 hc.2.1 hc.2.2.1 hc.2.2.2 r2 r1 (fun h0 h1 => ?_) (fun h2 => ?_)
    · rw [if_pos ⟨h0, h1⟩, Option.some.injEq, Prod.mk.injEq] at h
      exact ⟨h.2.symm, h.1.symm⟩
    · rw [if_neg (by rintro ⟨h0, h1⟩; rcases h2 with h2 | h2 <;> simp_all), Option.some.injEq, Prod.mk.injEq] at h
      exact ⟨h.2.symm, h.1.symm⟩
set_option maxHeartbeats 4000000 in
set_option maxRecDepth 100000 in
theorem growE_calls (n : Nat) (hn : n ≤ 4294967296) (w : World) :
    Calls Tryz.prog 79 #[.slice none 0 0, .int .i64 (n : Int)] w fun e w' => ∃ v, e = .returned v ∧ Kd.R k48 48 w' w.heap.size (fun _ => True) v ([] : List S48) ∧ Below w.heap.size w w' := by
  have hwr : IntKind.i64.wrap (n : Int) = (n : Int) := by rw [IntKind.wrap_i64]; omega
  have hd0 : decide ((n : Int) < 0) = false := decide_eq_false (by omega)
  have HB0 := Aside0.mk (Below.refl w.heap.size w)
  by_cases h0 : n = 0
  · subst h0
    clear hwr hd0
    go_enter Tryz.func79, Tryz.ntmps79
    go_wp2
    go_ret
    exact ⟨_, rfl, Kd.R_nil _ _ _ _ _, HB0.out⟩
  · have hp1 : decide ((n : Int) > 0) = true := decide_eq_true (by omega)
    have hp2 : decide ((0 : Int) < (n : Int)) = true := decide_eq_true (by omega)
    have HO0 := Aside0.mk (Kd.R_nil k48 48 w w.heap.size (fun _ => True))
    go_enter Tryz.func79, Tryz.ntmps79
    go_wp2_with (first
      | ((with_reducible refine gate_builtin (b := .append) (xs := #[.tmp 20, .tmp 21]) rfl ?_); at_builtin; refine Kd.R_append_zeros k48 (w0 := w) w.heap.size rfl (.tmp 20) (.tmp 21) 22 3 48 (.agg #[(.string ⟨#[]⟩), (.string ⟨#[]⟩), (.int .i64 0)]) 40 rfl Tryz.underlying22 Tryz.underlying3 info48 rfl (by decide) (by omega) (.slice none 0 0) [] ⟨⟨⟨#[]⟩, ⟨#[]⟩⟩, 0⟩ (n : Int) (fun _ => True) rfl rfl ?aP (fun _ _ => trivial) ?aO ?aN ?aB ?aS ?aL ?_; (case aP => exact k48_mkM _ _ _ ⟨⟨⟨#[]⟩, ⟨#[]⟩⟩, 0⟩); (case aB => exact HB0.out); (case aN => omega); (case aO => exact HO0.out); (case aS => exact Nat.le_refl _); (case aL => simp; omega); intro v9 w9 ho9 hb9 hg9 hat9; obtain ⟨gg, gc, hvv, _, _, _⟩ := Kd.R_form ho9 (by simp; omega); subst hvv; have HO9 := Aside0.mk (Kd.R_take ho9 (Nat.zero_le _)); have HB9 := Aside0.mk hb9; clear ho9 hb9 hg9 hat9)
      | fail)
    go_wp2
    go_ret
    exact ⟨_, rfl, HO9.out, HB9.out⟩
set_option maxHeartbeats 8000000 in
set_option maxRecDepth 100000 in
theorem concatE_calls (B : Nat) (A0 : Option Addr) (c0 : Nat) (l0 : List S48) (A1 : Option Addr) (c1 : Nat) (l1 : List S48) (w : World) (hr0 : Kd.C k48 w A0 l0.length l0) (hr1 : Kd.C k48 w A1 l1.length l1)
    (hl0 : l0.length ≤ 65536) (hl1 : l1.length ≤ 65536) (hB : B < w.heap.size) (g0 : w.cell? ⟨B, 0, none⟩ = some (.slice A0 l0.length c0)) (g1 : w.cell? ⟨B, 1, none⟩ = some (.slice A1 l1.length c1)) :
    Calls Tryz.prog 66 #[.slice (some ⟨B, 0, none⟩) 2 2] w fun e w' => ∃ v, e = .returned v ∧ Kd.R k48 48 w' w.heap.size (fun _ => True) v (l0 ++ l1) ∧ Below w.heap.size w w' := by
  have HR0 := Aside0.mk hr0
  have HR1 := Aside0.mk hr1
  have HB0 := Aside0.mk (Below.refl w.heap.size w)
  have hw0 : IntKind.i64.wrap (l0.length : Int) = (l0.length : Int) := by rw [IntKind.wrap_i64]; omega
  have hw1 : IntKind.i64.wrap ((l0.length : Int) + (l1.length : Int)) = (l0.length : Int) + (l1.length : Int) := by rw [IntKind.wrap_i64]; omega
  have hd0 : decide ((l0.length : Int) < 0) = false := decide_eq_false (by omega)
  have hd1 : decide ((l0.length : Int) + (l1.length : Int) < 0) = false := decide_eq_false (by omega)
  have CG := fun (W : World) => growE_calls (l0.length + l1.length) (by omega) W
  have G0 := Aside0.mk g0
  have G1 := Aside0.mk g1
  clear hr0 hr1
  go_enter Tryz.func66, Tryz.ntmps66
  go_wp2_with fail
  go_loopw [3, 11] (fun v3 v11 wr => ((v11 = .int .i64 0 ∧ v3 = .int .i64 0) ∨ (v11 = .int .i64 1 ∧ v3 = .int .i64 (l0.length : Int)) ∨ (v11 = .int .i64 2 ∧ v3 = .int .i64 ((l0.length : Int) + (l1.length : Int)))) ∧ Aside0 (wr = w)) (fun _ v11 _ => 2 - (RowKit.intOf v11).toNat)
  case atStart => exact ⟨Or.inl ⟨rfl, rfl⟩, ⟨rfl⟩⟩
  case round =>
    obtain ⟨hcase, HW⟩ := hrel
    have hw := HW.out.symm
    subst hw
    clear HW
    rcases hcase with ⟨rfl, rfl⟩ | ⟨rfl, rfl⟩ | ⟨rfl, rfl⟩
    · clear CG hw1 hd1
      go_wp2
      go_roundw
      case rel => exact ⟨Or.inr (Or.inl ⟨rfl, rfl⟩), ⟨trivial⟩⟩
      case measure => simp [RowKit.intOf]
    · clear CG
      go_wp2
      go_roundw
      case rel => exact ⟨Or.inr (Or.inr ⟨rfl, rfl⟩), ⟨trivial⟩⟩
      case measure => simp [RowKit.intOf]
    · clear hw0 hw1 hd0 hd1
      go_wp2_with fail
      refine (CG _).mono ?_
      rintro e w2 ⟨v, rfl, hR, hb⟩
      have HB2 := Aside0.mk hb
      have HO2 := Aside0.mk hR
      have q0 := (hb.cell hB).trans G0.out
      have q1 := (hb.cell hB).trans G1.out
      clear hR hb CG g0 g1
      go_wp2_with fail
      go_loopw [6, 27] (fun v6 v27 wr => ∃ i : Nat, i ≤ 2 ∧ v27 = .int .i64 (i : Int) ∧ Aside0 (Kd.R k48 48 wr w.heap.size (fun _ => True) v6 (([l0, l1].take i).flatten)) ∧ Aside0 (Below w.heap.size w wr)) (fun _ v27 _ => 2 - (RowKit.intOf v27).toNat)
      case atStart => exact ⟨0, by omega, rfl, HO2, HB2⟩
      case round =>
        clear HO2 HB2 q0 q1
        obtain ⟨i, hi, rfl, HO, HB⟩ := hrel
        have q0 := (HB.out.cell hB).trans G0.out
        have q1 := (HB.out.cell hB).trans G1.out
        obtain rfl | rfl | rfl : i = 0 ∨ i = 1 ∨ i = 2 := by omega
        · go_wp2_with (first
            | ((with_reducible refine gate_builtin (b := .append) (xs := #[.tmp 31, .tmp 32]) rfl ?_); at_builtin; refine Kd.R_append_rows k48 (w0 := w) w.heap.size rfl (.tmp 31) (.tmp 32) 22 48 (.agg #[(.string ⟨#[]⟩), (.string ⟨#[]⟩), (.int .i64 0)]) 40 rfl Tryz.underlying22 info48 rfl (by decide) (by omega) u6 [] l0 _ _ _ (fun _ => True) (fun _ => False) rfl rfl ?aO ?aR (fun _ _ h => h) (fun _ h => h.elim) ?aF ?aB ?aS ?aL ?_; (case aR => exact Kd.C_below HR0.out HB.out); (case aB => exact HB.out); (case aF => exact (fun _ _ => trivial)); (case aO => exact HO.out); (case aS => exact HB.out.size); (case aL => simp; omega); intro v7 w7 ho7 hb7 hg7 hat7; have HO7 := Aside0.mk ho7; have HB7 := Aside0.mk hb7; clear ho7 hb7 hg7 hat7)
            | fail)
          go_roundw
          case rel => exact ⟨1, by omega, by go_num, ⟨by simpa using HO7.out⟩, HB7⟩
          case measure => simp [RowKit.intOf]
        · go_wp2_with (first
            | ((with_reducible refine gate_builtin (b := .append) (xs := #[.tmp 31, .tmp 32]) rfl ?_); at_builtin; refine Kd.R_append_rows k48 (w0 := w) w.heap.size rfl (.tmp 31) (.tmp 32) 22 48 (.agg #[(.string ⟨#[]⟩), (.string ⟨#[]⟩), (.int .i64 0)]) 40 rfl Tryz.underlying22 info48 rfl (by decide) (by omega) u6 l0 l1 _ _ _ (fun _ => True) (fun _ => False) rfl rfl ?aO ?aR (fun _ _ h => h) (fun _ h => h.elim) ?aF ?aB ?aS ?aL ?_; (case aR => exact Kd.C_below HR1.out HB.out); (case aB => exact HB.out); (case aF => exact (fun _ _ => trivial)); (case aO => simpa using HO.out); (case aS => exact HB.out.size); (case aL => omega); intro v7 w7 ho7 hb7 hg7 hat7; have HO7 := Aside0.mk ho7; have HB7 := Aside0.mk hb7; clear ho7 hb7 hg7 hat7)
            | fail)
          go_roundw
          case rel => exact ⟨2, by omega, by go_num, ⟨by simpa using HO7.out⟩, HB7⟩
          case measure => simp [RowKit.intOf]
        · go_wp2
          go_ret
          exact ⟨_, rfl, by simpa using HO.out, HB.out⟩
def countE (m : List (S34 × Int)) (l : List S48) : List (S34 × Int) := l.foldl (fun m x => bumpC m x.f0 x.f1) m
theorem countE_take (m : List (S34 × Int)) (l : List S48) (i : Nat) (h : i < l.length) : countE m (l.take (i + 1)) = bumpC (countE m (l.take i)) l[i].f0 l[i].f1 := by
  unfold countE
  rw [List.take_succ_eq_append_getElem h, List.foldl_append]
  rfl
theorem countE_ok {p : S34 → Prop} : ∀ (l : List S48) (m : List (S34 × Int)) (n : Nat), (m.map (·.1)).Nodup ∧ (∀ q ∈ m, p q.1) ∧ m.length ≤ n → (∀ x ∈ l, p x.f0) →
    ((countE m l).map (·.1)).Nodup ∧ (∀ q ∈ countE m l, p q.1) ∧ (countE m l).length ≤ n + l.length
  | [], m, n, h, _ => h
  | x :: r, m, n, h, hl => by
    have := countE_ok (p := p) r (bumpC m x.f0 x.f1) (n + 1) (bumpC_ok h x.f0 (hl x (.head _)) x.f1) (fun y hy => hl y (.tail _ hy))
    rw [List.length_cons]
    exact ⟨this.1, this.2.1, by have := this.2.2; unfold countE at this ⊢; rw [List.foldl_cons]; omega⟩
def bothV (a b : List S48) : List S48 := editsF (countE [] (a ++ b)) (sortN ((countE [] (a ++ b)).map (·.1)))
theorem bothC_ok (a b : List S48) (ha : a.length ≤ 32768) (hb : b.length ≤ 32768) (ta : ∀ x ∈ a, TinyN x.f0 ∧ mayN x.f0 = true) (tb : ∀ x ∈ b, TinyN x.f0 ∧ mayN x.f0 = true) : CntOk (countE [] (a ++ b)) := by
  have h1 := countE_ok (p := fun x => TinyN x ∧ mayN x = true) (a ++ b) [] 0 ⟨List.nodup_nil, fun q h => (by cases h), Nat.le_refl _⟩ (fun x hx => by rcases List.mem_append.1 hx with h | h; exact ta x h; exact tb x h)
  exact ⟨h1.1, h1.2.1, by have := h1.2.2; rw [List.length_append] at this; omega⟩
theorem bothV_tiny {m : List (S34 × Int)} (h : CntOk m) : (∀ x ∈ editsF m (sortN (m.map (·.1))), TinyN x.f0) ∧ (editsF m (sortN (m.map (·.1)))).length ≤ 65536 := by
  refine ⟨fun x hx => ?_, Nat.le_trans (editsF_len _ _) (by rw [(sortN_perm _).length_eq, List.length_map]; exact h.len)⟩
  unfold editsF at hx
  obtain ⟨n, hn, rfl⟩ := List.mem_map.1 hx
  obtain ⟨p, hp, rfl⟩ := List.mem_map.1 ((sortN_perm _).mem_iff.1 (List.mem_filter.1 hn).1)
  exact (h.may p hp).1
def diff_Both.f (a b : List S48) : Option (List S48 × Int) := if a.length ≤ 32768 ∧ b.length ≤ 32768 ∧ (∀ x ∈ a, TinyN x.f0) ∧ (∀ x ∈ b, TinyN x.f0) then some (if checkE a = true ∧ checkE b = true then (if checkE (bothV a b) = true then (bothV a b, 0) else ([], 4)) else ([], 1)) else none
theorem edE_ok {l : List S48} (ht : ∀ x ∈ l, TinyN x.f0) (h : checkE l = true) : ∀ x ∈ l, (TinyN x.f0 ∧ mayN x.f0 = true) ∧ -1099511627776 ≤ x.f1 ∧ x.f1 ≤ 1099511627776 := fun x hx => by
  have := (edE_iff x).1 (chkE_all l none h x hx)
  exact ⟨⟨ht x hx, this.1⟩, this.2.2.2, this.2.2.1⟩
set_option maxHeartbeats 8000000 in
set_option maxRecDepth 100000 in
theorem both_go (A0 : Option Addr) (c0 : Nat) (l0 : List S48) (A1 : Option Addr) (c1 : Nat) (l1 : List S48) (w : World) (hr0 : Kd.C k48 w A0 l0.length l0) (hr1 : Kd.C k48 w A1 l1.length l1) (hc0 : l0.length ≤ c0) (hc1 : l1.length ≤ c1)
    (hl0 : l0.length ≤ 32768) (hl1 : l1.length ≤ 32768) (ht0 : ∀ x ∈ l0, TinyN x.f0) (ht1 : ∀ x ∈ l1, TinyN x.f0) (rr : Int) (re : List S48)
    (hyes : checkE l0 = true → checkE l1 = true → checkE (bothV l0 l1) = true → rr = 0 ∧ re = bothV l0 l1) (hbig : checkE l0 = true → checkE l1 = true → checkE (bothV l0 l1) = false → rr = 4 ∧ re = []) (hno : (checkE l0 = false ∨ checkE l1 = false) → rr = 1 ∧ re = []) :
    Calls Tryz.prog 52 #[.slice A0 l0.length c0, .slice A1 l1.length c1] w fun e w' => ∃ v, e = .returned (.tuple #[v, .int .i64 rr]) ∧ Kd.R k48 48 w' w.heap.size (fun _ => True) v re ∧ Below w.heap.size w w' := by
  have hu24 := Tryz.underlying34
  have hu35 := Tryz.underlying48
  have hmm := @run_makeMap Tryz.prog
  have HYES := Aside0.mk hyes
  have HBIG := Aside0.mk hbig
  have HNO := Aside0.mk hno
  clear hyes hbig hno
  obtain ⟨K, hK⟩ : ∃ K, 65536 + 4294967320 ≤ K := ⟨_, Nat.le_refl _⟩
  have e0 := checkE_val l0 (by omega) ht0 K (by omega)
  have e1 := checkE_val l1 (by omega) ht1 K (by omega)
  have HR0 := Aside0.mk hr0
  have HR1 := Aside0.mk hr1
  have HT0 := Aside0.mk ht0
  have HT1 := Aside0.mk ht1
  obtain ⟨b0, hb0⟩ : ∃ b, b = checkE l0 := ⟨_, rfl⟩
  obtain ⟨b1, hb1⟩ : ∃ b, b = checkE l1 := ⟨_, rfl⟩
  rw [← hb0] at e0
  rw [← hb1] at e1
  have HE0 := Aside0.mk hb0
  have HE1 := Aside0.mk hb1
  have CK0 := diff_Check.calls K A0 c0 l0 _ w hr0 hc0 e0
  have CK1 := fun (W : World) (h : Kd.C k48 W A1 l1.length l1) => diff_Check.calls K A1 c1 l1 _ W h hc1 e1
  clear hr0 hr1 ht0 ht1 hb0 hb1 e0 e1
  cases b0
  · obtain ⟨rfl, rfl⟩ := HNO.out (Or.inl HE0.out.symm)
    clear HYES HNO HBIG CK1
    go_enter Tryz.func52, Tryz.ntmps52
    go_wp2_with fail
    refine CK0.mono ?_
    rintro e w1 ⟨rfl, hb1⟩
    have HB1 := Aside0.mk hb1
    clear hb1 CK0
    simp only [okV]
    go_wp2
    go_ret2
    exact ⟨_, rfl, Kd.R_nil _ _ _ _ _, HB1.out⟩
  · go_enter Tryz.func52, Tryz.ntmps52
    go_wp2_with fail
    refine CK0.mono ?_
    rintro e w1 ⟨rfl, hb1⟩
    have HB1 := Aside0.mk hb1
    have CK2 := CK1 w1 (Kd.C_below HR1.out hb1)
    clear hb1 CK0 CK1
    simp only [okV]
    cases b1
    · obtain ⟨rfl, rfl⟩ := HNO.out (Or.inr HE1.out.symm)
      clear HYES HNO HBIG
      go_wp2_with fail
      refine CK2.mono ?_
      rintro e w2 ⟨rfl, hb2⟩
      have HB2 : Aside0 (Below w.heap.size w w2) := ⟨HB1.out.trans (hb2.mono HB1.out.size)⟩
      clear hb2 CK2
      simp only [okV]
      go_wp2
      go_ret2
      exact ⟨_, rfl, Kd.R_nil _ _ _ _ _, HB2.out⟩
    · go_wp2_with fail
      refine CK2.mono ?_
      rintro e w2 ⟨rfl, hb2⟩
      have HB2 : Aside0 (Below w.heap.size w w2) := ⟨HB1.out.trans (hb2.mono HB1.out.size)⟩
      clear hb2 CK2 HB1
      simp only [okV]
      have CC := concatE_calls (w2.heap.size + 1) A0 c0 l0 A1 c1 l1 ((w2.alloc (.map #[] 0)).alloc (.cells #[.slice A0 l0.length c0, .slice A1 l1.length c1] 22 (0, 0))) (Kd.C_alloc (Kd.C_alloc (Kd.C_below HR0.out HB2.out) _) _) (Kd.C_alloc (Kd.C_alloc (Kd.C_below HR1.out HB2.out) _) _) (by omega) (by omega) (by simp) (by simp [go_sem]) (by simp [go_sem])
      have HB3 := Aside0.mk (below_alloc (below_alloc HB2.out (.map #[] 0)) (.cells #[.slice A0 l0.length c0, .slice A1 l1.length c1] 22 (0, 0)))
      have HM3 : Aside0 (((w2.alloc (.map #[] 0)).alloc (.cells #[.slice A0 l0.length c0, .slice A1 l1.length c1] 22 (0, 0))).ownsMap Tryz.prog 34 (plainElem (H := Unit) Tryz.prog 3) w2.heap.size 0 (.map [])) := ⟨(World.ownsMap_made _ _ _ _).alloc _⟩
      have hz2 := HB2.out.size
      go_wp2_with fail
      refine CC.mono ?_
      rintro e w4 ⟨v4, rfl, hR4, hb4⟩
      obtain ⟨L, hL⟩ : ∃ L, L = l0 ++ l1 := ⟨_, rfl⟩
      rw [← hL] at hR4
      have hLl : L.length ≤ 65536 := by rw [hL, List.length_append]; omega
      have hLi : (L.length : Int) ≤ 65536 := by omega
      have hLo : ∀ x ∈ L, (TinyN x.f0 ∧ mayN x.f0 = true) ∧ -1099511627776 ≤ x.f1 ∧ x.f1 ≤ 1099511627776 := fun x hx => by
        rw [hL] at hx
        rcases List.mem_append.1 hx with h | h
        · exact edE_ok HT0.out HE0.out.symm x h
        · exact edE_ok HT1.out HE1.out.symm x h
      have HL := Aside0.mk hL
      have HLO := Aside0.mk hLo
      have HB4 : Aside0 (Below w.heap.size w w4) := ⟨HB3.out.trans (hb4.mono HB3.out.size)⟩
      have HM4 := Aside0.mk (HM3.out.kept (grown_of_below hb4 none) (by simp))
      have HG4 : Aside0 (Kd.R k48 48 w4 w.heap.size (fun j => j ≠ w2.heap.size) v4 L) := ⟨Kd.R_lower (Kd.R_mono (Kd.R_bound hR4) (fun j hj => by have := hj.2.1; simp at this; omega)) (by simp; omega)⟩
      have hz4 := hb4.size
      simp only [World.size_alloc] at hz4
      clear CC hR4 hb4 hL hLo HM3 HB3
      obtain ⟨Ag, cg, eg⟩ := Kd.R_slice HG4.out
      subst eg
      go_wp2_with fail
      go_loopw [24] (fun v24 wr => ∃ (i : Nat) (D : DataW Unit), i ≤ L.length ∧ v24 = .int .i64 (i : Int) ∧ Aside0 (wr.ownsMap Tryz.prog 34 (plainElem (H := Unit) Tryz.prog 3) w2.heap.size (0 + i) D) ∧ Aside0 (CntM D (countE [] (L.take i))) ∧ Aside0 (FarC (countE [] (L.take i)) (1099511627776 * (i : Int))) ∧ Aside0 (Kd.R k48 48 wr w.heap.size (fun j => j ≠ w2.heap.size) (.slice Ag L.length cg) L) ∧ Aside0 (Below w.heap.size w wr) ∧ w2.heap.size + 2 ≤ wr.heap.size) (fun v24 _ => L.length - (RowKit.intOf v24).toNat)
      case atStart => exact ⟨0, _, Nat.zero_le _, rfl, HM4, ⟨CntM.none⟩, ⟨farC_nil⟩, HG4, HB4, by omega⟩
      case round =>
        clear HM4 HG4 HB4 hz4
        obtain ⟨i, D, hi, rfl, HM, HD, HF, HG, HB, hws⟩ := hrel
        by_cases hil : i < L.length
        · have j1 : (i : Int) < (L.length : Int) := by omega
          have hdi : decide ((i : Int) < (L.length : Int)) = true := decide_eq_true j1
          obtain ⟨x, hx⟩ : ∃ x, x = L[i] := ⟨_, rfl⟩
          have hmem : x ∈ L := by rw [hx]; exact List.getElem_mem hil
          obtain ⟨ad, eA, hx0, hx1, hx2⟩ := at_T48 (Kd.R_reads' HG.out).2.2 (i : Int) (by omega) (by omega)
          have hrd : rd_T48 L (i : Int) = x := by rw [hx]; simp [rd_T48, List.getD_eq_getElem?_getD, List.getElem?_eq_getElem hil]
          rw [hrd, Int.toNat_natCast] at hx0 hx1 hx2
          cases eA
          have hxo := HLO.out x hmem
          have hns := tiny_ns hxo.1.1
          have hkey := keyOf_node x.f0 hns.1 hns.2
          have hct := countE_take [] L i hil
          rw [← hx] at hct
          have HCT := Aside0.mk hct
          have hfx := HF.out x.f0
          have hb1 := hxo.2.1
          have hb2 := hxo.2.2
          have HNS := Aside0.mk hns
          obtain ⟨c, hc⟩ : ∃ c, c = (lookC (countE [] (L.take i)) x.f0).getD 0 := ⟨_, rfl⟩
          rw [← hc] at hfx
          have hws2 : IntKind.i64.wrap (c + x.f1) = c + x.f1 := by rw [IntKind.wrap_i64]; omega
          have hwd : (Lit.int .i64 (c + x.f1)).wf = true := by simp [Lit.wf, IntKind.min, IntKind.max, IntKind.signed, IntKind.bits]; omega
          have HFX := Aside0.mk (⟨hb1, hb2⟩ : -1099511627776 ≤ x.f1 ∧ x.f1 ≤ 1099511627776)
          clear hx hrd hct hmem hxo hns hfx hb1 hb2
          have HM5 := Aside0.mk (HM.out.alloc (.cells #[.string x.f0.f0, .string x.f0.f1, .int .i64 x.f1] 48 (0, 0)))
          have HB5 := Aside0.mk (below_alloc HB.out (.cells #[.string x.f0.f0, .string x.f0.f1, .int .i64 x.f1] 48 (0, 0)))
          have HG5 := Aside0.mk (Kd.R_alloc HG.out (.cells #[.string x.f0.f0, .string x.f0.f1, .int .i64 x.f1] 48 (0, 0)))
          obtain ⟨W5, hW5⟩ : ∃ W5, W5 = wr.alloc (.cells #[.string x.f0.f0, .string x.f0.f1, .int .i64 x.f1] 48 (0, 0)) := ⟨_, rfl⟩
          have n0 : W5.cell? ⟨wr.heap.size, 0, none⟩ = some (.string x.f0.f0) := by rw [hW5]; simp [go_sem]
          have n1 : W5.cell? ⟨wr.heap.size, 1, none⟩ = some (.string x.f0.f1) := by rw [hW5]; simp [go_sem]
          have n2 : W5.cell? ⟨wr.heap.size, 2, none⟩ = some (.int .i64 x.f1) := by rw [hW5]; simp [go_sem]
          rw [← hW5] at HM5 HB5 HG5
          have HW5 := Aside0.mk hW5
          have hzr : wr.heap.size + 1 = W5.heap.size := by rw [hW5]; simp
          clear hW5
          obtain ⟨v0, st, w6, E2, hg1, E1, E1', E3⟩ := own_bump (HM5.out.drew) (deep_law_laid laid_all (m := 3) (by omega) keyr_node keyt_node wide_node) Tryz.underlying91 (by unfold maxLen; omega) zero_intN hkey
          obtain ⟨c2, hrun, hat, hwc⟩ := (HM5.out.drew).lookup_int law_node Tryz.underlying91 Tryz.underlying3 (zero_intN _) hkey
          have hc2 : c2 = c := by
            have h9 := hat.symm.trans (HD.out.at_ x.f0 HNS.out)
            rw [← hc] at h9
            injection h9 with h9; injection h9
          subst hc2
          have hv0 : v0 = .int .i64 c2 := by
            rw [hrun] at E1; injection E1 with E1 _; exact E1.symm
          subst hv0
          obtain ⟨w7, E4, hown3, hg3⟩ := E3 w6 (.int .i64 (c2 + x.f1)) _ [] rfl (plainElem_int Tryz.underlying3 hwd)
          have E5 : (Instr.entryStore 91 (.map (some w2.heap.size)) (.int .i64 (st : Int)) (.int .i64 (c2 + x.f1))).run Tryz.prog w6 = .ok () w7 := E4
          have E6 : (Instr.mapEntry 91 (.map (some w2.heap.size)) (.agg #[.string x.f0.f0, .string x.f0.f1])).run Tryz.prog W5.drew = .ok (.tuple #[.int .i64 c2, .int .i64 (st : Int)]) w6 := E2
          have HC := Aside0.mk hc
          have HM7 := Aside0.mk hown3
          have HB6 := Aside0.mk (pw_below_grown (below_drew HB5.out) _ (below_drew HB5.out).size hg1 (fun j hj => by cases hj; exact hz2))
          have HB7 := Aside0.mk (pw_below_grown HB6.out _ HB6.out.size hg3 (fun j hj => by cases hj; exact hz2))
          have HG6 := Aside0.mk (Kd.R_grown (Kd.R_drew HG5.out) hg1 (fun j hj => by simp; exact hj))
          have HG7 := Aside0.mk (Kd.R_grown HG6.out hg3 (fun j hj => by simp; exact hj))
          have HD7 : Aside0 (CntM (D.put (nkey x.f0) (.lit (.int .i64 (c2 + x.f1)))) (countE [] (L.take (i + 1)))) := ⟨by rw [HCT.out]; unfold bumpC; rw [← HC.out]; exact HD.out.put x.f0 HNS.out _⟩
          have HF7 : Aside0 (FarC (countE [] (L.take (i + 1))) (1099511627776 * ((i + 1 : Nat) : Int))) := ⟨by rw [HCT.out, show 1099511627776 * ((i + 1 : Nat) : Int) = 1099511627776 * (i : Int) + 1099511627776 by omega]; exact HF.out.bump (by omega) x.f0 x.f1 HFX.out.1 HFX.out.2⟩
          have hz7 : w2.heap.size + 2 ≤ w7.heap.size := by have h1 := hg1.size; have h2 := hg3.size; (have h3 : W5.drew.heap.size = W5.heap.size := rfl); omega
          clear E3 E4 E2 hrun hat hwc hown3 hg1 hg3 hc hwd
          go_wp2_with fail
          rw [← HW5.out]
          go_region
          all_goals
            go_wp2
            go_roundw
            case rel => exact ⟨i + 1, _, by omega, by go_num, HM7, HD7, HF7, HG7, HB7, hz7⟩
            case measure => simp [RowKit.intOf]; omega
        · obtain rfl : i = L.length := by omega
          have hdi : decide ((L.length : Int) < (L.length : Int)) = false := decide_eq_false (by omega)
          have hd := HD.out
          rw [List.take_length, HL.out] at hd
          have hok := bothC_ok l0 l1 hl0 hl1 (fun x h => (edE_ok HT0.out HE0.out.symm x h).1) (fun x h => (edE_ok HT1.out HE1.out.symm x h).1)
          have CE := edits_calls w2.heap.size _ D _ hd hok (Nat.le_trans HM.out.size_le (by omega)) wr HM.out
          have hbt := bothV_tiny hok
          have eB := checkE_val (bothV l0 l1) (by unfold bothV; omega) hbt.1 K (by have := hbt.2; unfold bothV; omega)
          obtain ⟨b2, hb2⟩ : ∃ b, b = checkE (bothV l0 l1) := ⟨_, rfl⟩
          rw [← hb2] at eB
          have HE2 := Aside0.mk hb2
          have CB := fun (W : World) (A : Option Addr) (cc : Nat) (h : Kd.C k48 W A (bothV l0 l1).length (bothV l0 l1)) (hcc : (bothV l0 l1).length ≤ cc) => diff_Check.calls K A cc (bothV l0 l1) _ W h hcc eB
          have HCB := Aside0.mk CB
          clear hd hok hbt eB hb2 CB
          go_wp2_with fail
          refine CE.mono ?_
          rintro e w8 ⟨v, rfl, hR, hb8⟩
          have HB8 : Aside0 (Below w.heap.size w w8) := ⟨HB.out.trans (hb8.mono HB.out.size)⟩
          have HR8 : Aside0 (Kd.R k48 48 w8 w.heap.size (fun _ => True) v (bothV l0 l1)) := ⟨Kd.R_lower hR HB.out.size⟩
          clear hR hb8 CE
          obtain ⟨Ae, ce, ee⟩ := Kd.R_slice HR8.out
          subst ee
          have CB2 := HCB.out w8 Ae ce (Kd.R_reads' HR8.out).2.2 (Kd.R_reads' HR8.out).2.1
          clear HCB
          go_wp2_with fail
          refine CB2.mono ?_
          rintro e w9 ⟨rfl, hb9⟩
          have HB9 : Aside0 (Below w.heap.size w w9) := ⟨HB8.out.trans (hb9.mono HB8.out.size)⟩
          have HR9 := Aside0.mk (Kd.R_below HR8.out hb9)
          clear hb9 CB2
          simp only [okV]
          cases b2
          · obtain ⟨rfl, rfl⟩ := HBIG.out HE0.out.symm HE1.out.symm HE2.out.symm
            clear HYES HNO HBIG
            simp only [okV]
            go_wp2
            go_ret2
            exact ⟨_, rfl, Kd.R_nil _ _ _ _ _, HB9.out⟩
          · obtain ⟨rfl, rfl⟩ := HYES.out HE0.out.symm HE1.out.symm HE2.out.symm
            clear HYES HNO HBIG
            simp only [okV]
            go_wp2
            go_ret2
            exact ⟨_, rfl, HR9.out, HB9.out⟩
theorem diff_Both.calls (A0 : Option Addr) (c0 : Nat) (l0 : List S48) (A1 : Option Addr) (c1 : Nat) (l1 : List S48) (r1 : List S48) (r2 : Int) (w : World) (hr0 : Kd.C k48 w A0 l0.length l0) (hc0 : l0.length ≤ c0) (hr1 : Kd.C k48 w A1 l1.length l1) (hc1 : l1.length ≤ c1) (h : diff_Both.f l0 l1 = some (r1, r2)) :
    Calls Tryz.prog 52 #[.slice A0 l0.length c0, .slice A1 l1.length c1] w fun e w' => ∃ v, e = .returned (.tuple #[v, .int .i64 r2]) ∧ Kd.R k48 48 w' w.heap.size (fun _ => True) v r1 ∧ Below w.heap.size w w' := by
  unfold diff_Both.f at h
  split at h
  case isFalse => cases h
  case isTrue hc =>
    refine both_go A0 c0 l0 A1 c1 l1 w hr0 hr1 hc0 hc1 hc.1 hc.2.1 hc.2.2.1 hc.2.2.2 r2 r1 (fun h0 h1 h2 => ?_) (fun h0 h1 h2 => ?_) (fun h2 => ?_)
    · rw [if_pos ⟨h0, h1⟩, if_pos h2, Option.some.injEq, Prod.mk.injEq] at h
      exact ⟨h.2.symm, h.1.symm⟩
    · rw [if_pos ⟨h0, h1⟩, if_neg (by rw [h2]; decide), Option.some.injEq, Prod.mk.injEq] at h
      exact ⟨h.2.symm, h.1.symm⟩
    · rw [if_neg (by rintro ⟨h0, h1⟩; rcases h2 with h2 | h2 <;> simp_all), Option.some.injEq, Prod.mk.injEq] at h
      exact ⟨h.2.symm, h.1.symm⟩
end Go.Proofs.YtohdmmafjpjmfaaGreatDoor.Q
end
section
namespace Go.Proofs.YtohdmmafjpjmfaaGreatDoor.Q
open Go.Proofs.YtohdmmafjpjmfaaGreatDoor.QB.D
open Go Go.RowKit Go.Lib Go.Proofs.YtohdmmafjpjmfaaGreatDoorW.PrintWords Go.Proofs.YtohdmmafjpjmfaaGreatDoorW.PrintLast Go.Proofs.YtohdmmafjpjmfaaGreatDoorW.PrintMore Gw
set_option linter.unusedVariables false
set_option linter.unusedSimpArgs false
def cellE (x : S48) : List Value := [.string x.f0.f0, .string x.f0.f1, .int .i64 x.f1]
def cellsE (xs : List S48) : List Value := xs.flatMap cellE
theorem cellsE_len : ∀ xs, (cellsE xs).length = xs.length * 3
  | [] => rfl
  | x :: xs => by
    show (cellE x ++ cellsE xs).length = _
    rw [List.length_append, cellsE_len xs]; simp [cellE]; omega
theorem cellsE_get : ∀ (xs : List S48) (j : Nat), (cellsE xs)[j]? = (xs[j / 3]?).bind (fun x => (cellE x)[j % 3]?) := by
  intro xs
  induction xs with
  | nil => intro j; simp [cellsE]
  | cons x xs ih =>
    intro j
    have h : cellsE (x :: xs) = cellE x ++ cellsE xs := rfl
    have hl : (cellE x).length = 3 := rfl
    rw [h]
    rcases Nat.lt_or_ge j 3 with hj | hj
    · rw [List.getElem?_append_left (by omega), show j / 3 = 0 by omega, show j % 3 = j by omega]; rfl
    · rw [List.getElem?_append_right (by omega), hl, ih, show j / 3 = (j - 3) / 3 + 1 by omega, List.getElem?_cons_succ, show j % 3 = (j - 3) % 3 by omega]
theorem cellsE_append (a b : List S48) : cellsE (a ++ b) = cellsE a ++ cellsE b := by unfold cellsE; rw [List.flatMap_append]
theorem edit_reps (w : World) (base : Nat) (ok : Nat → Prop) (xs : List S48) : Reps (k48.M w base ok) k48.sz xs (cellsE xs) := by
  refine ⟨cellsE_len xs, fun j p hj => ?_⟩
  obtain ⟨hjl, rfl⟩ := List.getElem?_eq_some_iff.1 hj
  have e : ((cellsE xs).drop (j * 3)).take 3 = cellE xs[j] := by
    apply List.ext_getElem?
    intro t
    rcases Nat.lt_or_ge t 3 with h | h
    · rw [List.getElem?_take_of_lt h, List.getElem?_drop, cellsE_get, show (j * 3 + t) / 3 = j by omega, List.getElem?_eq_getElem hjl, show (j * 3 + t) % 3 = t by omega]
      rfl
    · rw [List.getElem?_eq_none (by rw [List.length_take]; omega), List.getElem?_eq_none (by simp [cellE]; omega)]
  show k48.M w base ok xs[j] (((cellsE xs).drop (j * 3)).take 3)
  rw [e]
  exact k48_mkM _ _ _ _
theorem R_of_cellsE {w : World} {base : Nat} {ok : Nat → Prop} {v : Value} {xs : List S48} (ho : w.ownsRow base 48 3 v xs.length (cellsE xs)) (hok : ∀ k, v.ownBlock = some k → ok k) : Kd.R k48 48 w base ok v xs := ⟨hok, cellsE xs, ho, edit_reps _ _ _ _⟩
end Go.Proofs.YtohdmmafjpjmfaaGreatDoor.Q
end
section
namespace Go.Proofs.YtohdmmafjpjmfaaGreatDoor.Q
open Go.Proofs.YtohdmmafjpjmfaaGreatDoor.QB.D
open Go Go.RowKit Go.Maps Go.Lib Go.Proofs.YtohdmmafjpjmfaaGreatDoorW.PrintWords Go.Proofs.YtohdmmafjpjmfaaGreatDoorW.PrintLast Go.Proofs.YtohdmmafjpjmfaaGreatDoorW.PrintMore Gw
set_option linter.unusedVariables false
set_option linter.unusedSimpArgs false
theorem run_copy_wide {P : Program} (w : World) (dT sT ty elem : TypeId) (g n dCap sCap size : Nat) (ad : Addr) (cur : Array Value) (t : TypeId) (cs : List Value)
    (hu : P.underlying dT = some (.slice elem)) (hs : (P.info? elem).map (·.size) = some size) (hg : w.heap[g]? = some (.cells cur t (0, 0))) (hn : cs.length = n * size)
    (hsrc : ∀ j v, cs[j]? = some v → w.cell? (ad.add j) = some v) (hfit : cs.length ≤ cur.size) (h1 : ∀ v ∈ cs, v.oneCell' = true) :
    (Builtin.copy_ #[dT, sT] ty #[.slice (some ⟨g, 0, none⟩) n dCap, .slice (some ad) n sCap]).run P w = .ok (goInt n) (w.setRow g (cs ++ cur.toList.drop cs.length).toArray) := by
  have hl := run_loadCells_list (P := P) w ad cs hsrc
  have hst := run_storeCells_at P g 0 t cs 0 cur w hg (by simpa using hfit) h1
  simp only [Nat.zero_add, List.take_zero, List.nil_append, Nat.add_zero] at hst
  cases hq : P.info? elem with
  | none => simp [hq] at hs
  | some i =>
    have hi : i.size = size := by simpa [hq] using hs
    simp [Builtin.copy_, run_underlying hu, Builtin.lenOf, Builtin.firstCells, sizeOf, typeInfo, hq, hi, ← hn, hl, hst]
theorem run_copy_zero {P : Program} (w : World) (dT sT ty elem : TypeId) (A B : Option Addr) (dCap sCap size : Nat) (hu : P.underlying dT = some (.slice elem)) (hs : (P.info? elem).map (·.size) = some size) :
    (Builtin.copy_ #[dT, sT] ty #[.slice B 0 dCap, .slice A 0 sCap]).run P w = .ok (goInt 0) w := by
  cases hq : P.info? elem with
  | none => simp [hq] at hs
  | some i =>
    cases A <;> cases B <;> simp [Builtin.copy_, run_underlying hu, Builtin.lenOf, Builtin.firstCells, sizeOf, typeInfo, hq, loadCells, loadCellsFrom, storeCells]
def turnE (x : S48) : S48 := ⟨x.f0, -x.f1⟩
def turned (l : List S48) (i : Nat) : List S48 := (l.take i).map turnE ++ l.drop i
theorem cellsE_turn (A B : List S48) (x : S48) (v : Int) (T : List Value) : (cellsE (A ++ x :: B) ++ T).set (A.length * 3 + 2) (.int .i64 v) = cellsE (A ++ ⟨x.f0, v⟩ :: B) ++ T := by
  have h1 : ∀ y : S48, cellsE (A ++ y :: B) = cellsE A ++ (cellE y ++ cellsE B) := fun y => by rw [cellsE_append]; rfl
  rw [h1, h1, List.append_assoc, List.append_assoc, List.set_append_right _ _ (by rw [cellsE_len]; omega), cellsE_len]
  rw [show A.length * 3 + 2 - A.length * 3 = 2 by omega, List.append_assoc, List.append_assoc]
  rfl
theorem turned_len (l : List S48) (i : Nat) : (turned l i).length = l.length := by unfold turned; rw [List.length_append, List.length_map, List.length_take, List.length_drop]; omega
theorem turned_step (l : List S48) (i : Nat) (h : i < l.length) (T : List Value) : (cellsE (turned l i) ++ T).set (i * 3 + 2) (.int .i64 (-l[i].f1)) = cellsE (turned l (i + 1)) ++ T ∧ (cellsE (turned l i) ++ T)[i * 3 + 2]? = some (.int .i64 l[i].f1) := by
  have e1 : turned l i = (l.take i).map turnE ++ l[i] :: l.drop (i + 1) := by unfold turned; rw [List.drop_eq_getElem_cons h]
  have e2 : turned l (i + 1) = (l.take i).map turnE ++ turnE l[i] :: l.drop (i + 1) := by unfold turned; rw [List.take_succ_eq_append_getElem h, List.map_append, List.append_assoc]; rfl
  have hl : ((l.take i).map turnE).length = i := by rw [List.length_map, List.length_take]; omega
  constructor
  · have := cellsE_turn ((l.take i).map turnE) (l.drop (i + 1)) l[i] (-l[i].f1) T
    rw [hl] at this
    rw [e1, e2]
    exact this
  · rw [List.getElem?_append_left (by rw [cellsE_len, turned_len]; omega), cellsE_get, show (i * 3 + 2) / 3 = i by omega, show (i * 3 + 2) % 3 = 2 by omega, e1, List.getElem?_append_right (by omega), hl, Nat.sub_self]
    rfl
theorem C_cellsE {w : World} {A : Option Addr} {xs : List S48} (h : Kd.C k48 w A xs.length xs) : ∀ b, A = some b → ∀ j u, (cellsE xs)[j]? = some u → w.cell? (b.add j) = some u := by
  intro b hb j u hu
  rw [cellsE_get] at hu
  obtain ⟨x, hx, hu⟩ := Option.bind_eq_some_iff.1 hu
  obtain ⟨hl, hxx⟩ := List.getElem?_eq_some_iff.1 hx
  obtain ⟨ad, e, hc⟩ := h.2.2 (by omega)
  rw [hb] at e
  injection e with e
  subst e
  obtain ⟨c, hcl, hk, hcell⟩ := hc (j / 3) x hx
  have ho := k48_open hk
  subst ho
  have hs : k48.sz = 3 := rfl
  rw [hs] at hcell
  have := hcell (j % 3) u hu
  rwa [show j / 3 * 3 + j % 3 = j by omega] at this
theorem rowE {W : World} {base : Nat} {ok : Nat → Prop} {v : Value} {xs : List S48} (h : Kd.R k48 48 W base ok v xs) (hp : 0 < xs.length) : ∃ (g cap : Nat) (cur : Array Value), v = .slice (some ⟨g, 0, none⟩) xs.length cap ∧ base ≤ g ∧ W.heap[g]? = some (.cells cur 48 (0, 0)) ∧ xs.length ≤ cap ∧ cap ≤ maxLen ∧ cur.size = cap * 3 := by
  obtain ⟨_, inner, ho, _⟩ := h
  have hs : k48.sz = 3 := rfl
  rw [hs] at ho
  rcases ho.2 with ⟨_, h0⟩ | ⟨g, cap, cur, hv, hb, hg, hn, hc, hz, _⟩
  · omega
  · exact ⟨g, cap, cur, hv, hb, hg, hn, hc, hz⟩
set_option maxHeartbeats 8000000 in
set_option maxRecDepth 100000 in
theorem turn_go (A0 : Option Addr) (c0 : Nat) (l0 : List S48) (w : World) (hr0 : Kd.C k48 w A0 l0.length l0) (hc0 : l0.length ≤ c0) (hl0 : l0.length ≤ 65536) (ht0 : ∀ x ∈ l0, TinyN x.f0) (hpos : 0 < l0.length) (hch : checkE l0 = true) :
    Calls Tryz.prog 51 #[.slice A0 l0.length c0] w fun e w' => ∃ v, e = .returned (.tuple #[v, .int .i64 0]) ∧ Kd.R k48 48 w' w.heap.size (fun _ => True) v (l0.map turnE) ∧ Below w.heap.size w w' := by
  have hu35 := Tryz.underlying48
  obtain ⟨K, hK⟩ : ∃ K, 65536 + 4294967320 ≤ K := ⟨_, Nat.le_refl _⟩
  have e0 := checkE_val l0 (by omega) ht0 K (by omega)
  rw [hch] at e0
  have CK0 := diff_Check.calls K A0 c0 l0 _ w hr0 hc0 e0
  obtain ⟨ad, eA, _⟩ := at_T48 hr0 0 (by omega) (by omega)
  subst eA
  have HR0 := Aside0.mk hr0
  have hbnd : ∀ (i : Nat) (h : i < l0.length), -1099511627776 ≤ l0[i].f1 ∧ l0[i].f1 ≤ 1099511627776 := fun i h => (edE_ok ht0 hch _ (List.getElem_mem h)).2
  have HBND := Aside0.mk hbnd
  have hl1 : (l0.length : Int) ≤ 65536 := by omega
  have hone : ∀ u ∈ cellsE l0, u.oneCell' = true := fun u hu => by
    unfold cellsE at hu
    obtain ⟨x, _, hx⟩ := List.mem_flatMap.1 hu
    simp only [cellE, List.mem_cons, List.not_mem_nil, or_false] at hx
    rcases hx with rfl | rfl | rfl <;> rfl
  have HONE := Aside0.mk hone
  clear hr0 ht0 e0 hch hbnd hK hone
  go_enter Tryz.func51, Tryz.ntmps51
  go_wp2_with fail
  refine CK0.mono ?_
  rintro e w1 ⟨rfl, hb1⟩
  have HB1 := Aside0.mk hb1
  clear hb1 CK0
  simp only [okV]
  go_wp2_with (first
    | (refine Kd.R_make k48 (w0 := w) w.heap.size 48 rfl (N := 14) rfl 22 (.tmp 13) (.tmp 13) rfl (l0.length : Int) rfl rfl Tryz.underlying22 (.agg #[(.string ⟨#[]⟩), (.string ⟨#[]⟩), (.int .i64 0)]) 40 info48 rfl (by decide) (by omega) ⟨⟨⟨#[]⟩, ⟨#[]⟩⟩, 0⟩ (ok := fun _ => True) (okp := fun _ => False) ?aP (fun _ h => h.elim) trivial ?aN ?aL ?aB ?aS ?_; (case aP => exact k48_mkM _ _ _ ⟨⟨⟨#[]⟩, ⟨#[]⟩⟩, 0⟩); (case aN => omega); (case aL => simp; omega); (case aB => exact HB1.out); (case aS => exact HB1.out.size); intro v2 w2 hR2 hb2 _ _; obtain ⟨gg, gc, cur, hvv, hgb, hg, hnc, hcap, hcs⟩ := rowE hR2 (by simp; omega); rw [List.length_replicate, Int.toNat_natCast] at hvv; rw [List.length_replicate, Int.toNat_natCast] at hnc; subst hvv;
        have hcr := run_copy_wide (P := Tryz.prog) w2 22 22 3 48 gg l0.length gc c0 3 ad cur 48 (cellsE l0) Tryz.underlying22 rfl hg (cellsE_len l0) (C_cellsE (Kd.C_below HR0.out hb2) ad rfl) (by rw [cellsE_len]; omega) HONE.out;
        obtain ⟨T, hT⟩ : ∃ T, T = cur.toList.drop (cellsE l0).length := ⟨_, rfl⟩; rw [← hT] at hcr;
        have HBK := Aside0.mk (setRow_heap w2 gg cur (cellsE l0 ++ T).toArray 48 (0, 0) hg); have HB3 := Aside0.mk (below_setRow hb2 hgb (cellsE l0 ++ T).toArray);
        obtain ⟨W3, hW3⟩ : ∃ W3, W3 = w2.setRow gg (cellsE l0 ++ T).toArray := ⟨_, rfl⟩; rw [← hW3] at hcr HBK HB3;
        have HT : Aside0 (T.length = (gc - l0.length) * 3) := ⟨by rw [hT, List.length_drop, cellsE_len, Array.length_toList, hcs, Nat.sub_mul]⟩; clear hR2 hb2 hT hW3 hg hcs)
    | (at_builtin; refine Lib.wpList_copy_run _ rfl _ _ 22 22 rfl _ _ rfl rfl hcr ?_)
    | fail)
  go_loopw [20] (fun v20 wr => ∃ i : Nat, i ≤ l0.length ∧ v20 = .int .i64 (i : Int) ∧ Aside0 (wr.heap[gg]? = some (.cells (cellsE (turned l0 i) ++ T).toArray 48 (0, 0))) ∧ Aside0 (Below w.heap.size w wr)) (fun v20 _ => l0.length - (RowKit.intOf v20).toNat)
  case atStart => exact ⟨0, Nat.zero_le _, rfl, by simpa [turned] using HBK, HB3⟩
  case round =>
    clear HBK HB3 hcr
    obtain ⟨i, hi, rfl, HBK, HB⟩ := hrel
    by_cases hil : i < l0.length
    · have j1 : (i : Int) < (l0.length : Int) := by omega
      have hdi : decide ((i : Int) < (l0.length : Int)) = true := decide_eq_true j1
      have hst := turned_step l0 i hil T
      have hb := HBND.out i hil
      obtain ⟨y, hy⟩ : ∃ y, y = l0[i].f1 := ⟨_, rfl⟩
      rw [← hy] at hst hb
      have n2 : wr.cell? ⟨gg, i * 3 + 2, none⟩ = some (.int .i64 y) := (blk_cell HBK.out _).trans (by simpa using hst.2)
      have f2 := blk_frozen HBK.out (i * 3 + 2)
      have hwn : IntKind.i64.wrap (-y) = -y := by rw [IntKind.wrap_i64]; omega
      have HBK2 : Aside0 ((wr.setCell ⟨gg, i * 3 + 2, none⟩ (.int .i64 (-y))).heap[gg]? = some (.cells (cellsE (turned l0 (i + 1)) ++ T).toArray 48 (0, 0))) := ⟨by rw [blk_set HBK.out (i * 3 + 2) (.int .i64 (-y)), ← hst.1]; simp⟩
      have HB2 := Aside0.mk (below_set (W := wr) (g := gg) (j := i * 3 + 2) (v := .int .i64 (-y)) HB.out hgb)
      clear hst hb hy
      go_wp2
      go_roundw
      case rel => exact ⟨i + 1, by omega, by go_num, HBK2, HB2⟩
      case measure => simp [RowKit.intOf]; omega
    · obtain rfl : i = l0.length := by omega
      have hdi : decide ((l0.length : Int) < (l0.length : Int)) = false := decide_eq_false (by omega)
      have hfin : turned l0 l0.length = l0.map turnE := by unfold turned; rw [List.take_length, List.drop_length, List.append_nil]
      have hrow : Kd.R k48 48 wr w.heap.size (fun _ => True) (.slice (some ⟨gg, 0, none⟩) l0.length gc) (l0.map turnE) := by
        have hb := HBK.out
        rw [hfin] at hb
        refine R_of_cellsE ?_ (fun _ _ => trivial)
        rw [List.length_map]
        have hl : (cellsE (l0.map turnE)).length = l0.length * 3 := by rw [cellsE_len, List.length_map]
        refine ⟨hl, Or.inr ⟨gg, gc, _, rfl, hgb, hb, hnc, hcap, ?_, ?_⟩⟩
        · simp only [List.size_toArray, List.length_append]
          rw [hl, HT.out]
          have := Nat.sub_mul gc l0.length 3
          have := Nat.mul_le_mul_right 3 hnc
          omega
        · simp only []
          rw [← hl, List.take_left]
      have HROW := Aside0.mk hrow
      clear hfin hrow
      go_wp2
      go_ret2
      exact ⟨_, rfl, HROW.out, HB.out⟩
def diff_Turn.f (l : List S48) : Option (List S48 × Int) := if l.length ≤ 65536 ∧ (∀ x ∈ l, TinyN x.f0) then some (if checkE l = true then (l.map turnE, 0) else ([], 1)) else none
set_option maxHeartbeats 4000000 in
theorem turn_no (A0 : Option Addr) (c0 : Nat) (l0 : List S48) (w : World) (hr0 : Kd.C k48 w A0 l0.length l0) (hc0 : l0.length ≤ c0) (hl0 : l0.length ≤ 65536) (ht0 : ∀ x ∈ l0, TinyN x.f0) (hch : checkE l0 = false) :
    Calls Tryz.prog 51 #[.slice A0 l0.length c0] w fun e w' => ∃ v, e = .returned (.tuple #[v, .int .i64 1]) ∧ Kd.R k48 48 w' w.heap.size (fun _ => True) v [] ∧ Below w.heap.size w w' := by
  obtain ⟨K, hK⟩ : ∃ K, 65536 + 4294967320 ≤ K := ⟨_, Nat.le_refl _⟩
  have e0 := checkE_val l0 (by omega) ht0 K (by omega)
  rw [hch] at e0
  have CK0 := diff_Check.calls K A0 c0 l0 _ w hr0 hc0 e0
  clear hr0 ht0 e0 hch hK
  go_enter Tryz.func51, Tryz.ntmps51
  go_wp2_with fail
  refine CK0.mono ?_
  rintro e w1 ⟨rfl, hb1⟩
  have HB1 := Aside0.mk hb1
  clear hb1 CK0
  simp only [okV]
  go_wp2
  go_ret2
  exact ⟨_, rfl, Kd.R_nil _ _ _ _ _, HB1.out⟩
set_option maxHeartbeats 4000000 in
set_option maxRecDepth 100000 in
theorem turn_nil (A0 : Option Addr) (c0 : Nat) (w : World) :
    Calls Tryz.prog 51 #[.slice A0 0 c0] w fun e w' => ∃ v, e = .returned (.tuple #[v, .int .i64 0]) ∧ Kd.R k48 48 w' w.heap.size (fun _ => True) v [] ∧ Below w.heap.size w w' := by
  have hu35 := Tryz.underlying48
  obtain ⟨K, hK⟩ : ∃ K, 65536 + 4294967320 ≤ K := ⟨_, Nat.le_refl _⟩
  have e0 := checkE_val [] (by simp) (fun x h => by cases h) K (by simp; omega)
  have CK0 := diff_Check.calls K A0 c0 [] _ w ⟨rfl, by simp, fun h => by simp at h⟩ (Nat.zero_le _) e0
  clear e0 hK
  go_enter Tryz.func51, Tryz.ntmps51
  go_wp2_with fail
  refine CK0.mono ?_
  rintro e w1 ⟨rfl, hb1⟩
  have HB1 := Aside0.mk hb1
  clear hb1 CK0
  simp only [okV, checkE, chkE]
  go_wp2_with (first
    | (refine Kd.R_make k48 (w0 := w) w.heap.size 48 rfl (N := 14) rfl 22 (.tmp 13) (.tmp 13) rfl (0 : Int) rfl rfl Tryz.underlying22 (.agg #[(.string ⟨#[]⟩), (.string ⟨#[]⟩), (.int .i64 0)]) 40 info48 rfl (by decide) (by omega) ⟨⟨⟨#[]⟩, ⟨#[]⟩⟩, 0⟩ (ok := fun _ => True) (okp := fun _ => False) ?aP (fun _ h => h.elim) trivial ?aN ?aL ?aB ?aS ?_; (case aP => exact k48_mkM _ _ _ ⟨⟨⟨#[]⟩, ⟨#[]⟩⟩, 0⟩); (case aN => omega); (case aL => simp); (case aB => exact HB1.out); (case aS => exact HB1.out.size); intro v2 w2 hR2 hb2 _ _; have HR2 := Aside0.mk hR2; have HB2 := Aside0.mk hb2; obtain ⟨Ag, cg, eg⟩ := Kd.R_slice HR2.out; subst eg; have hcp := run_copy_zero (P := Tryz.prog) w2 22 22 3 48 A0 Ag cg c0 3 Tryz.underlying22 rfl; clear hR2 hb2)
    | (at_builtin; refine Lib.wpList_copy_run _ rfl _ _ 22 22 rfl _ _ rfl rfl hcp ?_)
    | fail)
  have hd0 : decide ((0 : Int) < (0 : Int)) = false := rfl
  go_loopw [20] (fun v20 wr => v20 = .int .i64 0 ∧ wr = w2) (fun v20 _ => 0)
  case atStart => exact ⟨rfl, rfl⟩
  case round =>
    obtain ⟨rfl, rfl⟩ := hrel
    go_wp2
    go_ret2
    exact ⟨_, rfl, HR2.out, HB2.out⟩
theorem diff_Turn.calls (A0 : Option Addr) (c0 : Nat) (l0 : List S48) (r1 : List S48) (r2 : Int) (w : World) (hr0 : Kd.C k48 w A0 l0.length l0) (hc0 : l0.length ≤ c0) (h : diff_Turn.f l0 = some (r1, r2)) :
    Calls Tryz.prog 51 #[.slice A0 l0.length c0] w fun e w' => ∃ v, e = .returned (.tuple #[v, .int .i64 r2]) ∧ Kd.R k48 48 w' w.heap.size (fun _ => True) v r1 ∧ Below w.heap.size w w' := by
  unfold diff_Turn.f at h
  split at h
  · rename_i g
    injection h with h
    cases hch : checkE l0
    · rw [hch, if_neg (by decide)] at h
      injection h with h1 h2
      subst h1 h2
      exact turn_no A0 c0 l0 w hr0 hc0 g.1 g.2 hch
    · rw [hch, if_pos rfl] at h
      injection h with h1 h2
      subst h1 h2
      cases l0 with
      | nil => exact turn_nil A0 c0 w
      | cons x r => exact turn_go A0 c0 (x :: r) w hr0 hc0 g.1 g.2 (by simp) hch
  · cases h
end Go.Proofs.YtohdmmafjpjmfaaGreatDoor.Q
end
section
namespace Go.Proofs.YtohdmmafjpjmfaaGreatDoor.Q
open Go.RowKit Go.Proofs.YtohdmmafjpjmfaaGreatDoorW.PrintWords Go.Proofs.YtohdmmafjpjmfaaGreatDoorW.PrintLast Go.Proofs.YtohdmmafjpjmfaaGreatDoorW.PrintMore
attribute [local go_sem] max2_int min2_int max_two min_two max_three min_three max_four min_four   -- for this text's walks alone
set_option linter.unusedVariables false
set_option linter.unusedSimpArgs false
def diff_Count.f (l0 : List (S34)) : Option ((List (S48)) × Int) := (diff_Diff.f ([] : List (S34)) l0).bind fun bt277 => (some (bt277.1, bt277.2))
set_option maxHeartbeats 8000000 in
set_option maxRecDepth 100000 in
theorem diff_Count.calls (A0 : Option Addr) (c0 : Nat) (l0 : List (S34)) (r1 : List (S48)) (r2 : Int) (w : World) (hr0 : Kd.C k34 w A0 l0.length l0) (hc0 : l0.length ≤ c0) (h : diff_Count.f l0 = some (r1, r2)) :
  Calls Tryz.prog 47 #[.slice A0 l0.length c0] w fun e w' => ∃ v0_ : Value, e = .returned (.tuple #[v0_, .int .i64 r2]) ∧ Kd.R k48 48 w' w.heap.size (fun _ => True) v0_ r1 ∧ Below w.heap.size w w' := by
 have HR0 := Aside0.mk hr0
 have HC0 := Aside0.mk hc0
 clear hr0 hc0
 have HB := Aside0.mk (Below.refl w.heap.size w)
 have H : ((diff_Diff.f ([] : List (S34)) l0).bind fun bt277 => (some (bt277.1, bt277.2))) = some (r1, r2) := h
 clear h
 replace H := Option.bind_eq_some_iff.mp H
 obtain ⟨⟨t277, t278⟩, A20, H⟩ := H
 replace H : (some (t277, t278)) = some (r1, r2) := H
 have A2 := Aside0.mk A20
 clear A20
 simp only [Option.some.injEq, Prod.mk.injEq] at H
 obtain ⟨rfl, rfl⟩ := H
 go_enter Tryz.func47, Tryz.ntmps47
 go_wp2_with (first | ((with_reducible refine gate_callee (f := 64) rfl ?_); refine goesL_ (some 5) rfl rfl Tryz.func64 (by kernel_rfl) rfl #[.slice none 0 0, .slice A0 l0.length c0] rfl (by (try simp only [List.map_toArray, List.map_cons, List.map_nil]); first | done | rfl | (simp only [List.length_drop, List.length_take]; rfl)) ?_; (refine (diff_Diff.calls _ _ ([] : List (S34)) _ _ l0 t277 t278 _ ?side1 ?side2 ?side3 ?side4 A2.out).mono ?_); (case side1 => exact Kd.C_nil _ _); (case side2 => exact Nat.le_refl _); (case side3 => repeat (first | exact HR0.out | (with_reducible refine Kd.C_alloc ?_ _) | (with_reducible refine Kd.C_drewN ?_ _) | (with_reducible refine Kd.C_drew ?_))); (case side4 => exact HC0.out); rintro e w3 ⟨v279, rfl, ho0, hb⟩; refine ⟨_, rfl, ?_⟩; have n0_ := Aside0.mk (Kd.R_lower ho0 (below_size (by repeat (first | (with_reducible first | exact HB.out | apply below_alloc | apply pw_below_drewN | apply below_drew1) | exact HB.out)))); have n1_ := Aside0.mk (below_step (by repeat (first | (with_reducible first | exact HB.out | apply below_alloc | apply pw_below_drewN | apply below_drew1) | exact HB.out)) hb); clear HB; have HO280 := n0_; have HB := n1_; clear n0_ n1_; (try clear hb); (try clear hb2); (try clear hk); (try clear hi); (try clear ho0)))
 go_ret2
 exact ⟨_, by first | rfl | (simp [errW_none, errW_some] <;> rfl) | (simp [*, errW_none, errW_some] <;> rfl), by (with_reducible repeat (first | apply Kd.R_alloc | apply Kd.R_drewN | apply Kd.R_drew)); exact HO280.out, by repeat (first | (with_reducible first | exact HB.out | apply below_alloc | apply pw_below_drewN | apply below_drew1) | exact HB.out)⟩
end Go.Proofs.YtohdmmafjpjmfaaGreatDoor.Q
end
section
namespace Go.Proofs.YtohdmmafjpjmfaaGreatDoor.Q
open Go.Proofs.YtohdmmafjpjmfaaGreatDoor.QB.D
open Go Go.RowKit Go.Lib
set_option linter.unusedVariables false
def cntN : List S34 → S34 → Int
  | [], _ => 0
  | y :: r, x => (if y = x then 1 else 0) + cntN r x
theorem cntN_cons (y : S34) (r : List S34) (x : S34) : cntN (y :: r) x = (if y = x then 1 else 0) + cntN r x := rfl
theorem cntN_append (a b : List S34) (x : S34) : cntN (a ++ b) x = cntN a x + cntN b x := by
  induction a with
  | nil => simp [cntN]
  | cons y r ih => rw [List.cons_append, cntN_cons, cntN_cons, ih]; omega
theorem look_bump (m : List (S34 × Int)) (x y : S34) (v : Int) : (lookC (bumpC m x v) y).getD 0 = (lookC m y).getD 0 + (if x = y then v else 0) := by
  unfold bumpC
  rw [lookC_put]
  by_cases e : y = x
  · rw [if_pos e, if_pos e.symm, e]; rfl
  · rw [if_neg e, if_neg (fun h => e h.symm)]; omega
theorem look_count (v : Int) : ∀ (l : List S34) (m : List (S34 × Int)) (x : S34), (lookC (countC m l v) x).getD 0 = (lookC m x).getD 0 + v * cntN l x
  | [], m, x => by simp [countC, cntN]
  | y :: r, m, x => by
    have h : countC m (y :: r) v = countC (bumpC m y v) r v := rfl
    rw [h, look_count v r, look_bump, cntN_cons, Int.mul_add]
    split <;> simp <;> omega
theorem look_diff (l m : List S34) (x : S34) : (lookC (diffC l m) x).getD 0 = cntN m x - cntN l x := by
  unfold diffC
  rw [look_count, look_count]
  have : (lookC [] x).getD 0 = 0 := by simp [lookC]
  rw [this]
  omega
theorem keys_bump (m : List (S34 × Int)) (x y : S34) (v : Int) : y ∈ (bumpC m x v).map (·.1) ↔ y ∈ m.map (·.1) ∨ y = x := by
  unfold bumpC
  rw [putC_keys]
  split
  · rename_i h
    exact ⟨Or.inl, fun h2 => h2.elim id (fun e => e ▸ h)⟩
  · rw [List.mem_append, List.mem_singleton]
theorem keys_count (v : Int) : ∀ (l : List S34) (m : List (S34 × Int)) (y : S34), y ∈ (countC m l v).map (·.1) ↔ y ∈ m.map (·.1) ∨ y ∈ l
  | [], m, y => by simp [countC]
  | x :: r, m, y => by
    have h : countC m (x :: r) v = countC (bumpC m x v) r v := rfl
    rw [h, keys_count v r, keys_bump, List.mem_cons, or_assoc]
theorem keys_diff (l m : List S34) (y : S34) : y ∈ (diffC l m).map (·.1) ↔ y ∈ l ∨ y ∈ m := by
  unfold diffC
  rw [keys_count, keys_count]
  simp
theorem cntN_range (l : List S34) (x : S34) : 0 ≤ cntN l x ∧ cntN l x ≤ l.length := by
  induction l with
  | nil => simp [cntN]
  | cons y r ih => rw [cntN_cons, List.length_cons]; split <;> omega
theorem sorted_is {l : List S34} (hn : l.Nodup) (hm : ∀ x ∈ l, TinyN x ∧ mayN x = true) : IsSet (sortN l) := by
  have hg : ∀ x ∈ sortN l, TinyN x ∧ mayN x = true := fun x hx => hm x ((sortN_perm _).mem_iff.1 hx)
  have hs := sortN_sorted l (fun x hx => mayN_good (hm x hx).1 (hm x hx).2)
  refine ⟨fun x hx => mayN_good (hg x hx).1 (hg x hx).2, fun x hx => (hg x hx).2, ?_⟩
  have hnd := (sortN_perm l).nodup_iff.2 hn
  exact (List.pairwise_and_iff.2 ⟨hs, hnd⟩).imp_of_mem (fun {x y} hx hy h => by
    have := (ordN_to.eq x y (mayN_good (hg x hx).1 (hg x hx).2) (mayN_good (hg y hy).1 (hg y hy).2)).1
    rcases Int.lt_or_eq_of_le h.1 with h1 | h1
    · exact h1
    · exact absurd (this h1) h.2)
end Go.Proofs.YtohdmmafjpjmfaaGreatDoor.Q
end
section
namespace Go.Proofs.YtohdmmafjpjmfaaGreatDoor.Q
open Go.Proofs.YtohdmmafjpjmfaaGreatDoor.QB.D
open Go Go.RowKit Go.Lib Gw
set_option linter.unusedVariables false
def byE : List S48 → S34 → Int
  | [], _ => 0
  | e :: r, x => (if e.f0 = x then e.f1 else 0) + byE r x
theorem byE_cons (e : S48) (r : List S48) (x : S34) : byE (e :: r) x = (if e.f0 = x then e.f1 else 0) + byE r x := rfl
theorem byE_append (a b : List S48) (x : S34) : byE (a ++ b) x = byE a x + byE b x := by
  induction a with
  | nil => simp [byE]
  | cons y r ih => rw [List.cons_append, byE_cons, byE_cons, ih]; omega
theorem byE_turn (a : List S48) (x : S34) : byE (a.map turnE) x = - byE a x := by
  induction a with
  | nil => rfl
  | cons y r ih => rw [List.map_cons, byE_cons, byE_cons, ih]; simp only [turnE]; by_cases e : y.f0 = x <;> simp only [e, if_true, if_false] <;> omega
theorem byE_none {l : List S48} {x : S34} (h : x ∉ l.map (·.f0)) : byE l x = 0 := by
  induction l with
  | nil => rfl
  | cons y r ih =>
    rw [List.map_cons, List.mem_cons, not_or] at h
    rw [byE_cons, if_neg (fun e => h.1 e.symm), ih h.2]
    rfl
structure CanE (l : List S48) : Prop where
  set : IsSet (l.map (·.f0))
  nz : ∀ x ∈ l, x.f1 ≠ 0
theorem CanE.nil : CanE [] := ⟨IsSet.nil, fun x h => by cases h⟩
theorem CanE.tail {x : S48} {l : List S48} (h : CanE (x :: l)) : CanE l := ⟨IsSet.tail h.set, fun y hy => h.nz y (.tail _ hy)⟩
theorem CanE.by_mem : ∀ {l : List S48}, CanE l → ∀ x ∈ l, byE l x.f0 = x.f1
  | [], _, x, h => by cases h
  | y :: r, h, x, hx => by
    have hn := h.set.nodup
    rw [List.map_cons, List.nodup_cons] at hn
    rw [byE_cons]
    rcases List.mem_cons.1 hx with rfl | hx
    · rw [if_pos rfl, byE_none hn.1]; omega
    · rw [if_neg (fun e => hn.1 (by rw [e]; exact List.mem_map_of_mem hx)), h.tail.by_mem x hx]; omega
theorem CanE.mem_iff {l : List S48} (h : CanE l) (x : S34) : x ∈ l.map (·.f0) ↔ byE l x ≠ 0 := by
  constructor
  · intro hx
    obtain ⟨e, he, rfl⟩ := List.mem_map.1 hx
    rw [h.by_mem e he]
    exact h.nz e he
  · intro hx
    by_cases hm : x ∈ l.map (·.f0)
    · exact hm
    · exact absurd (byE_none hm) hx
theorem CanE.back {l : List S48} (h : CanE l) : l = (l.map (·.f0)).map (fun n => ⟨n, byE l n⟩) := by
  rw [List.map_map]
  refine ((List.map_congr_left (fun x hx => ?_)).trans (List.map_id _)).symm
  simp only [Function.comp]
  rw [h.by_mem x hx]
  rfl
theorem CanE.ext {a b : List S48} (ha : CanE a) (hb : CanE b) (h : ∀ x, byE a x = byE b x) : a = b := by
  have hs : a.map (·.f0) = b.map (·.f0) := ha.set.ext hb.set (fun x => by rw [ha.mem_iff, hb.mem_iff, h x])
  have he : (fun n : S34 => (⟨n, byE a n⟩ : S48)) = (fun n => ⟨n, byE b n⟩) := funext fun n => by rw [h n]
  rw [ha.back, hb.back, hs, he]
theorem CanE.turn {a : List S48} (h : CanE a) : CanE (a.map turnE) := by
  refine ⟨?_, fun x hx => ?_⟩
  · rw [List.map_map]; exact h.set
  · obtain ⟨y, hy, rfl⟩ := List.mem_map.1 hx
    have := h.nz y hy
    simp only [turnE]
    omega
theorem chkE_of : ∀ (l : List S48) (p : Option S48), (∀ x ∈ l, edE x = true) → (l.map (·.f0)).Pairwise (fun x y => ordN x y < 0) → (∀ q, p = some q → ∀ x ∈ l, ordN q.f0 x.f0 < 0) → chkE p l = true
  | [], p, _, _, _ => by cases p <;> rfl
  | x :: r, p, hm, hs, hp => by
    rw [List.map_cons, List.pairwise_cons] at hs
    have ih := chkE_of r (some x) (fun y hy => hm y (.tail _ hy)) hs.2 (fun q e y hy => by injection e with e; rw [← e]; exact hs.1 y.f0 (List.mem_map_of_mem hy))
    cases p with
    | none => simp only [chkE]; rw [hm x (.head _), ih]; rfl
    | some q => simp only [chkE]; rw [hm x (.head _), ih, decide_eq_true (hp q rfl x (.head _))]; rfl
def InE (l : List S48) : Prop := ∀ x ∈ l, x.f1 ≤ 1099511627776 ∧ -1099511627776 ≤ x.f1
theorem CanE.check {l : List S48} (h : CanE l) (hi : InE l) : checkE l = true :=
  chkE_of l none (fun x hx => (edE_iff x).2 ⟨h.set.may x.f0 (List.mem_map_of_mem hx), h.nz x hx, hi x hx⟩) h.set.lt (fun q e => by cases e)
theorem chkE_pw : ∀ (l : List S48) (p : Option S48), (∀ x ∈ l, GoodN x.f0) → (∀ q, p = some q → GoodN q.f0) → chkE p l = true → (l.map (·.f0)).Pairwise (fun x y => ordN x y < 0) ∧ ∀ q, p = some q → ∀ x ∈ l, ordN q.f0 x.f0 < 0
  | [], p, _, _, _ => ⟨List.Pairwise.nil, fun q _ x h => by cases h⟩
  | x :: r, p, hg, hp, h => by
    have gx := hg x (.head _)
    have h2 : chkE (some x) r = true := by
      cases p with
      | none => simp only [chkE, Bool.and_eq_true] at h; exact h.2
      | some q => simp only [chkE, Bool.and_eq_true] at h; exact h.2.2
    have ih := chkE_pw r (some x) (fun y hy => hg y (.tail _ hy)) (fun q e => by injection e with e; rw [← e]; exact gx) h2
    refine ⟨?_, fun q e y hy => ?_⟩
    · rw [List.map_cons, List.pairwise_cons]
      refine ⟨fun y hy => ?_, ih.1⟩
      obtain ⟨z, hz, rfl⟩ := List.mem_map.1 hy
      exact ih.2 x rfl z hz
    · subst e
      simp only [chkE, Bool.and_eq_true] at h
      have hq := of_decide_eq_true h.2.1
      rcases List.mem_cons.1 hy with rfl | hy
      · exact hq
      · exact ordN_to.tr q.f0 x.f0 y.f0 (hp q rfl) gx (hg y (.tail _ hy)) hq (ih.2 x rfl y hy)
theorem check_can {l : List S48} (ht : ∀ x ∈ l, TinyN x.f0) (h : checkE l = true) : CanE l ∧ InE l := by
  have he := chkE_all l none h
  have hf := fun x hx => (edE_iff x).1 (he x hx)
  have hg : ∀ x ∈ l, GoodN x.f0 := fun x hx => mayN_good (ht x hx) (hf x hx).1
  refine ⟨⟨⟨fun x hx => ?_, fun x hx => ?_, (chkE_pw l none hg (fun q e => by cases e) h).1⟩, fun x hx => (hf x hx).2.1⟩, fun x hx => (hf x hx).2.2⟩
  · obtain ⟨y, hy, rfl⟩ := List.mem_map.1 hx; exact hg y hy
  · obtain ⟨y, hy, rfl⟩ := List.mem_map.1 hx; exact (hf y hy).1
theorem turn_in {l : List S48} (h : InE l) : InE (l.map turnE) := fun x hx => by
  obtain ⟨y, hy, rfl⟩ := List.mem_map.1 hx
  have := h y hy
  simp only [turnE]
  omega
theorem editsF_names (m : List (S34 × Int)) (S : List S34) : (editsF m S).map (·.f0) = S.filter (fun n => !decide ((lookC m n).getD 0 = 0)) := by
  unfold editsF
  rw [List.map_map]
  exact List.map_id _
theorem editsF_can {m : List (S34 × Int)} (h : CntOk m) : CanE (editsF m (sortN (m.map (·.1)))) := by
  refine ⟨?_, fun x hx => ?_⟩
  · rw [editsF_names]
    exact (sorted_is h.nodup (fun x hx => by obtain ⟨p, hp, rfl⟩ := List.mem_map.1 hx; exact h.may p hp)).filter _
  · unfold editsF at hx
    obtain ⟨n, hn, rfl⟩ := List.mem_map.1 hx
    have := (List.mem_filter.1 hn).2
    simpa using this
theorem editsF_by {m : List (S34 × Int)} (h : CntOk m) (x : S34) : byE (editsF m (sortN (m.map (·.1)))) x = (lookC m x).getD 0 := by
  by_cases hx : x ∈ (editsF m (sortN (m.map (·.1)))).map (·.f0)
  · obtain ⟨e, he, rfl⟩ := List.mem_map.1 hx
    rw [(editsF_can h).by_mem e he]
    unfold editsF at he
    obtain ⟨n, hn, rfl⟩ := List.mem_map.1 he
    rfl
  · rw [byE_none hx]
    rw [editsF_names, List.mem_filter] at hx
    by_cases hk : x ∈ m.map (·.1)
    · have := fun h2 => hx ⟨(sortN_perm _).mem_iff.2 hk, h2⟩
      simp only [Bool.not_eq_true', decide_eq_false_iff_not] at this
      exact (Classical.not_not.1 this).symm
    · have : lookC m x = none := by
        cases e : lookC m x with
        | none => rfl
        | some v => exact absurd ((look_mem m x).1 (by rw [e]; rfl)) hk
      rw [this]
      rfl
theorem diffV_can (l m : List S34) (hl : l.length ≤ 32768) (hm : m.length ≤ 32768) (tl : ∀ x ∈ l, TinyN x ∧ mayN x = true) (tm : ∀ x ∈ m, TinyN x ∧ mayN x = true) : CanE (diffV l m) := editsF_can (diffC_ok l m hl hm tl tm)
theorem diffV_by (l m : List S34) (hl : l.length ≤ 32768) (hm : m.length ≤ 32768) (tl : ∀ x ∈ l, TinyN x ∧ mayN x = true) (tm : ∀ x ∈ m, TinyN x ∧ mayN x = true) (x : S34) : byE (diffV l m) x = cntN m x - cntN l x := by
  unfold diffV
  rw [editsF_by (diffC_ok l m hl hm tl tm), look_diff]
theorem diffV_in (l m : List S34) (hl : l.length ≤ 32768) (hm : m.length ≤ 32768) : InE (diffV l m) := fun x hx => by
  unfold diffV editsF at hx
  obtain ⟨n, hn, rfl⟩ := List.mem_map.1 hx
  have h1 := cntN_range l n
  have h2 := cntN_range m n
  simp only [look_diff]
  omega
theorem look_countE : ∀ (l : List S48) (m : List (S34 × Int)) (x : S34), (lookC (countE m l) x).getD 0 = (lookC m x).getD 0 + byE l x
  | [], m, x => by simp [countE, byE]
  | y :: r, m, x => by
    have h : countE m (y :: r) = countE (bumpC m y.f0 y.f1) r := rfl
    rw [h, look_countE r, look_bump, byE_cons]
    omega
theorem keys_countE : ∀ (l : List S48) (m : List (S34 × Int)) (y : S34), y ∈ (countE m l).map (·.1) ↔ y ∈ m.map (·.1) ∨ y ∈ l.map (·.f0)
  | [], m, y => by simp [countE]
  | x :: r, m, y => by
    have h : countE m (x :: r) = countE (bumpC m x.f0 x.f1) r := rfl
    rw [h, keys_countE r, keys_bump, List.map_cons, List.mem_cons, or_assoc]
def TinyE (l : List S48) : Prop := ∀ x ∈ l, TinyN x.f0 ∧ mayN x.f0 = true
theorem diffV_tiny (l m : List S34) (tl : ∀ x ∈ l, TinyN x ∧ mayN x = true) (tm : ∀ x ∈ m, TinyN x ∧ mayN x = true) : TinyE (diffV l m) := fun x hx => by
  unfold diffV editsF at hx
  obtain ⟨n, hn, rfl⟩ := List.mem_map.1 hx
  rcases (keys_diff l m n).1 ((sortN_perm _).mem_iff.1 (List.mem_filter.1 hn).1) with h | h
  · exact tl n h
  · exact tm n h
theorem diffV_len2 (l m : List S34) : (diffV l m).length ≤ l.length + m.length := by
  have h0 := countC_ok (p := fun _ => True) (-1) l [] 0 ⟨List.nodup_nil, fun q h => trivial, Nat.le_refl _⟩ (fun _ _ => trivial)
  have h1 := countC_ok (p := fun _ => True) 1 m _ _ h0 (fun _ _ => trivial)
  have h2 := editsF_len (diffC l m) (sortN ((diffC l m).map (·.1)))
  rw [(sortN_perm _).length_eq, List.length_map] at h2
  have h3 := h1.2.2
  unfold diffV
  unfold diffC at h2 ⊢
  omega
theorem bothV_len2 (a b : List S48) : (bothV a b).length ≤ a.length + b.length := by
  have h1 := countE_ok (p := fun _ => True) (a ++ b) [] 0 ⟨List.nodup_nil, fun q h => trivial, Nat.le_refl _⟩ (fun _ _ => trivial)
  have h2 := editsF_len (countE [] (a ++ b)) (sortN ((countE [] (a ++ b)).map (·.1)))
  rw [(sortN_perm _).length_eq, List.length_map] at h2
  have h3 := h1.2.2
  rw [List.length_append] at h3
  unfold bothV
  omega
theorem bothV_tinyE (a b : List S48) (ta : TinyE a) (tb : TinyE b) : TinyE (bothV a b) := fun x hx => by
  unfold bothV editsF at hx
  obtain ⟨n, hn, rfl⟩ := List.mem_map.1 hx
  have h := (keys_countE (a ++ b) [] n).1 ((sortN_perm _).mem_iff.1 (List.mem_filter.1 hn).1)
  rw [List.map_append, List.mem_append] at h
  rcases h with h | h | h
  · cases h
  · obtain ⟨y, hy, rfl⟩ := List.mem_map.1 h; exact ta y hy
  · obtain ⟨y, hy, rfl⟩ := List.mem_map.1 h; exact tb y hy
theorem turn_tinyE {a : List S48} (h : TinyE a) : TinyE (a.map turnE) := fun x hx => by
  obtain ⟨y, hy, rfl⟩ := List.mem_map.1 hx
  exact h y hy
end Go.Proofs.YtohdmmafjpjmfaaGreatDoor.Q
end
section
namespace Go.Proofs.YtohdmmafjpjmfaaGreatDoor.Q
open Go.Proofs.YtohdmmafjpjmfaaGreatDoor.QB.D
open Go Go.RowKit Go.Lib Go.Proofs.YtohdmmafjpjmfaaGreatDoorW.PrintWords Go.Proofs.YtohdmmafjpjmfaaGreatDoorW.PrintLast Go.Proofs.YtohdmmafjpjmfaaGreatDoorW.PrintMore Gw
set_option linter.unusedVariables false
set_option linter.unusedSimpArgs false
instance : DecidableEq S48 := fun x y => decidable_of_iff (x.f0 = y.f0 ∧ x.f1 = y.f1) ⟨fun h => by cases x; cases y; simp only at h; rw [h.1, h.2], fun h => by rw [h]; exact ⟨rfl, rfl⟩⟩
def Okl (F : List S34) : Prop := F.length ≤ 50 ∧ ∀ x ∈ F, Brief x
structure Oke (l : List S48) : Prop where
  can : CanE l
  inn : InE l
  tiny : TinyE l
  len : l.length ≤ 32768
theorem Oke.check {l : List S48} (h : Oke l) : checkE l = true := h.can.check h.inn
theorem Oke.turn {l : List S48} (h : Oke l) : Oke (l.map turnE) := ⟨h.can.turn, turn_in h.inn, turn_tinyE h.tiny, by rw [List.length_map]; exact h.len⟩
theorem Okl.tm {F : List S34} (h : Okl F) (ha : F.all mayN = true) : ∀ x ∈ F, TinyN x ∧ mayN x = true := fun x hx => ⟨(h.2 x hx).tiny, List.all_eq_true.1 ha x hx⟩
end Go.Proofs.YtohdmmafjpjmfaaGreatDoor.Q
end
