/- Part 8 of this claim: several texts one behind the other: PDiff, Aw13, Split, Fgraftwoodref03May, Fgraftwoodref05May, Fgraftwoodlaw13all. What each shows stands in its theorems; conditions: sizes of texts and lists, as the functions' definitions say. -/
import Derived.Test.YtcfphieogalnbaaGreatDoorMDiffOrder6
import Derived.Test.YtcfphieogalnbaaGreatDoorMDiffOrder5
import Derived.Test.YtcfphieogalnbaaGreatDoorMDiffOrder7
import Derived.Test.YtcfphieogalnbaaGreatDoorMDiffOrder0
import Derived.Test.YtcfphieogalnbaaGreatDoorMDiffOrder1
import Derived.Test.YtcfphieogalnbaaGreatDoorMDiffOrder2
import Derived.RegionTactic
import Derived.BigRegion
import Derived.ChangeAlike
section
namespace Go.Proofs.YtcfphieogalnbaaGreatDoor.Q
open Go.Proofs.YtcfphieogalnbaaGreatDoor.QB.D
open Go Go.RowKit Go.Lib
set_option linter.unusedVariables false
/-- How often a node is in a list. -/
def cntN : List S24 → S24 → Int
  | [], _ => 0
  | y :: r, x => (if y = x then 1 else 0) + cntN r x
theorem cntN_cons (y : S24) (r : List S24) (x : S24) : cntN (y :: r) x = (if y = x then 1 else 0) + cntN r x := rfl
theorem cntN_append (a b : List S24) (x : S24) : cntN (a ++ b) x = cntN a x + cntN b x := by
  induction a with
  | nil => simp [cntN]
  | cons y r ih => rw [List.cons_append, cntN_cons, cntN_cons, ih]; omega
theorem cntN_perm {a b : List S24} (h : a.Perm b) (x : S24) : cntN a x = cntN b x := by
  induction h with
  | nil => rfl
  | cons y _ ih => rw [cntN_cons, cntN_cons, ih]
  | swap y z l => simp only [cntN]; omega
  | trans _ _ h1 h2 => rw [h1, h2]
theorem cntN_none {l : List S24} {x : S24} (h : x ∉ l) : cntN l x = 0 := by
  induction l with
  | nil => rfl
  | cons y r ih =>
    unfold cntN
    rw [if_neg (fun e => h (by rw [e]; exact .head _)), ih (fun hm => h (.tail _ hm))]
    rfl
theorem look_bump (m : List (S24 × Int)) (x y : S24) (v : Int) : (lookC (bumpC m x v) y).getD 0 = (lookC m y).getD 0 + (if x = y then v else 0) := by
  unfold bumpC
  rw [lookC_put]
  by_cases e : y = x
  · rw [if_pos e, if_pos e.symm, e]; rfl
  · rw [if_neg e, if_neg (fun h => e h.symm)]; omega
theorem look_count (v : Int) : ∀ (l : List S24) (m : List (S24 × Int)) (x : S24), (lookC (countC m l v) x).getD 0 = (lookC m x).getD 0 + v * cntN l x
  | [], m, x => by simp [countC, cntN]
  | y :: r, m, x => by
    have h : countC m (y :: r) v = countC (bumpC m y v) r v := rfl
    rw [h, look_count v r, look_bump, cntN_cons, Int.mul_add]
    split <;> simp <;> omega
theorem look_diff (l m : List S24) (x : S24) : (lookC (diffC l m) x).getD 0 = cntN m x - cntN l x := by
  unfold diffC
  rw [look_count, look_count]
  have : (lookC [] x).getD 0 = 0 := by simp [lookC]
  rw [this]
  omega
theorem keys_bump (m : List (S24 × Int)) (x y : S24) (v : Int) : y ∈ (bumpC m x v).map (·.1) ↔ y ∈ m.map (·.1) ∨ y = x := by
  unfold bumpC
  rw [putC_keys]
  split
  · rename_i h
    exact ⟨Or.inl, fun h2 => h2.elim id (fun e => e ▸ h)⟩
  · rw [List.mem_append, List.mem_singleton]
theorem keys_count (v : Int) : ∀ (l : List S24) (m : List (S24 × Int)) (y : S24), y ∈ (countC m l v).map (·.1) ↔ y ∈ m.map (·.1) ∨ y ∈ l
  | [], m, y => by simp [countC]
  | x :: r, m, y => by
    have h : countC m (x :: r) v = countC (bumpC m x v) r v := rfl
    rw [h, keys_count v r, keys_bump, List.mem_cons, or_assoc]
theorem keys_diff (l m : List S24) (y : S24) : y ∈ (diffC l m).map (·.1) ↔ y ∈ l ∨ y ∈ m := by
  unfold diffC
  rw [keys_count, keys_count]
  simp
theorem filter_one_of {α : Type} [DecidableEq α] {p : α → Bool} {n : α} : ∀ {S : List α}, S.Nodup → n ∈ S → (∀ x ∈ S, p x = true ↔ x = n) → S.filter p = [n]
  | [], _, h, _ => by cases h
  | y :: r, hn, h, hp => by
    rw [List.nodup_cons] at hn
    by_cases e : y = n
    · subst e
      rw [List.filter_cons_of_pos ((hp y (.head _)).2 rfl), List.filter_eq_nil_iff.2 (fun x hx h2 => hn.1 ((hp x (.tail _ hx)).1 h2 ▸ hx))]
    · rw [List.filter_cons_of_neg (fun h2 => e ((hp y (.head _)).1 h2))]
      exact filter_one_of hn.2 ((List.mem_cons.1 h).resolve_left (fun h2 => e h2.symm)) (fun x hx => hp x (.tail _ hx))
/-- Lists of the same nodes as often have no difference. -/
theorem diffV_same {l m : List S24} (h : ∀ x, cntN l x = cntN m x) : diffV l m = [] := by
  unfold diffV editsF
  rw [List.filter_eq_nil_iff.2 (fun x hx => by rw [look_diff, h x]; simp)]
  rfl
/-- One node more is just that. -/
theorem diffV_more {l m : List S24} (n : S24) (hn : ((diffC l m).map (·.1)).Nodup) (hm : n ∈ m) (h : ∀ x, cntN m x = cntN l x + (if n = x then 1 else 0)) : diffV l m = [⟨n, 1⟩] := by
  have hl : ∀ x, (lookC (diffC l m) x).getD 0 = if n = x then 1 else 0 := fun x => by rw [look_diff, h x]; omega
  unfold diffV editsF
  rw [filter_one_of (n := n) ((sortN_perm _).nodup_iff.2 hn) ((sortN_perm _).mem_iff.2 ((keys_diff l m n).2 (Or.inr hm))) (fun x _ => by
    rw [hl x]
    by_cases e : n = x
    · rw [if_pos e]; simp [e]
    · rw [if_neg e]; simp; exact fun h => e h.symm)]
  rw [List.map_singleton, hl n, if_pos rfl]
end Go.Proofs.YtcfphieogalnbaaGreatDoor.Q
end

section
namespace Go.Proofs.YtcfphieogalnbaaGreatDoor.Q
open Go.Proofs.YtcfphieogalnbaaGreatDoor.QB.D
open Go Go.RowKit Go.Lib Go.Proofs.YtcfphieogalnbaaGreatDoorW.PrintWords Go.Proofs.YtcfphieogalnbaaGreatDoorW.PrintLast Go.Proofs.YtcfphieogalnbaaGreatDoorW.PrintMore Gw
set_option linter.unusedVariables false
set_option linter.unusedSimpArgs false
def nW13 (c : UInt8) : S24 := ⟨⟨#[c]⟩, ⟨#[118, 49, 46, 48, 46, 48]⟩⟩
theorem pairsE {a b : List S35} (h : a.map (fun e => (e.f0, e.f1)) = b.map (fun e => (e.f0, e.f1))) : a = b :=
  (List.map_inj_right (fun x y h => by cases x; cases y; simp only [Prod.mk.injEq] at h; rw [h.1, h.2])).1 h
set_option maxRecDepth 100000 in
theorem awake13_val : graftwoodlaw13_awake.f = some true := by
  have b : ∀ c, TinyN (nW13 c) := fun c => Brief.tiny ⟨show (1 : Nat) ≤ 400 by decide, show (6 : Nat) ≤ 400 by decide⟩
  have h1 : diff_Diff.f [nW13 97, nW13 97, nW13 98] [nW13 98, nW13 99] = some ([⟨nW13 97, -2⟩, ⟨nW13 99, 1⟩], 0) := by
    unfold diff_Diff.f
    rw [if_pos ⟨by decide, by decide, fun x hx => by simp only [List.mem_cons, List.not_mem_nil, or_false] at hx; rcases hx with rfl | rfl | rfl <;> exact b _, fun x hx => by simp only [List.mem_cons, List.not_mem_nil, or_false] at hx; rcases hx with rfl | rfl <;> exact b _⟩]
    have c1 : ([nW13 97, nW13 97, nW13 98].all mayN = true ∧ [nW13 98, nW13 99].all mayN = true) := by decide +kernel
    have c2 : diffV [nW13 97, nW13 97, nW13 98] [nW13 98, nW13 99] = [⟨nW13 97, -2⟩, ⟨nW13 99, 1⟩] := pairsE (by decide +kernel)
    rw [if_pos c1, c2]
  have h2 : diff_Both.f [⟨nW13 97, 1⟩] [⟨nW13 97, -1⟩] = some ([], 0) := by
    unfold diff_Both.f
    rw [if_pos ⟨by decide, by decide, fun x hx => by simp only [List.mem_cons, List.not_mem_nil, or_false] at hx; subst hx; exact b _, fun x hx => by simp only [List.mem_cons, List.not_mem_nil, or_false] at hx; subst hx; exact b _⟩]
    have c1 : (checkE [⟨nW13 97, 1⟩] = true ∧ checkE [⟨nW13 97, -1⟩] = true) := by decide +kernel
    have c2 : bothV [⟨nW13 97, 1⟩] [⟨nW13 97, -1⟩] = [] := pairsE (by decide +kernel)
    have c3 : checkE [] = true := rfl
    rw [if_pos c1, c2, if_pos c3]
  unfold graftwoodlaw13_awake.f
  unfold nW13 at h1 h2
  rw [h1, Option.bind_some, h2, Option.bind_some]
  simp [rd_T35, ByteArray.toList_eq]
end Go.Proofs.YtcfphieogalnbaaGreatDoor.Q
end

section
namespace Go.Proofs.YtcfphieogalnbaaGreatDoor.Q
open Go.RowKit Go.Proofs.YtcfphieogalnbaaGreatDoorW.PrintWords Go.Proofs.YtcfphieogalnbaaGreatDoorW.PrintLast Go.Proofs.YtcfphieogalnbaaGreatDoorW.PrintMore Gw
set_option linter.unusedVariables false
def cutFrom (l : List Nat) (n : Nat) : Nat := n + (cutDash (l.drop n)).1.length
abbrev V4 := ByteArray × ByteArray × ByteArray × List ByteArray × Bool
def zeroV : V4 := (⟨#[]⟩, ⟨#[]⟩, ⟨#[]⟩, [], false)
def SplitPost (v : V4) (w : World) (e : Ending) (w' : World) : Prop := ∃ u : Value, e = .returned (.tuple #[.agg #[.string v.1, .string v.2.1, .string v.2.2.1, u], .bool v.2.2.2.2]) ∧ Kd.R Kd.string 9 w' w.heap.size (fun _ => True) u v.2.2.2.1 ∧ Below w.heap.size w w'
theorem parts_any (s : ByteArray) (hs : Small s) (sep : Nat) (w : World) : Calls Tryz.prog 36 #[.string s, .int .u8 (sep : Int)] w fun e w' => ∃ v, e = .returned v ∧ Kd.R Kd.string 9 w' w.heap.size (fun _ => True) v ((parts sep (bs s)).map ofB) ∧ Below w.heap.size w w' :=
  graftwoodref01_Parts.calls (s.size + 1) s sep _ w (Parts_tot s hs sep _ (by omega))
theorem cutFrom_step {l : List Nat} {n c : Nat} {r : List Nat} (h : l.drop n = c :: r) : cutFrom l n = if c = 45 then n else cutFrom l (n + 1) := by
  have h2 : l.drop (n + 1) = r := by rw [← List.drop_drop, h]; rfl
  unfold cutFrom
  rw [h, h2]
  by_cases hc : c = 45
  · simp [cutDash, hc]
  · simp [cutDash, hc]; omega
theorem may_any (s : ByteArray) (hs : Small s) (w : World) : Calls Tryz.prog 50 #[.string s] w fun e w' => e = .returned (.bool (isNum (bs s))) ∧ Drawn0 w w' :=
  graftwoodref02_May.calls (s.size + 1) s _ w (ref2May_tot s hs _ (by omega))
theorem word_any (s : ByteArray) (hs : Small s) (w : World) : Calls Tryz.prog 51 #[.string s] w fun e w' => e = .returned (.bool (isWord (bs s))) ∧ Drawn0 w w' :=
  graftwoodref03_Word.calls (2 * s.size + 7) s _ w (Word_tot s hs _ (by omega))
theorem parts46 (s : ByteArray) (hs : Small s) (w : World) : Calls Tryz.prog 36 #[.string s, .int .u8 46] w fun e w' => ∃ v, e = .returned v ∧ Kd.R Kd.string 9 w' w.heap.size (fun _ => True) v ((parts 46 (bs s)).map ofB) ∧ Below w.heap.size w w' := parts_any s hs 46 w
theorem R_cells {w : World} {base : Nat} {ok : Nat → Prop} {v : Value} {xs : List ByteArray} (h : Kd.R Kd.string 9 w base ok v xs) (hp : 0 < xs.length) : ∃ g c, v = .slice (some ⟨g, 0, none⟩) xs.length c ∧ base ≤ g ∧ g < w.heap.size ∧ ∀ i (hi : i < xs.length), w.cell? ⟨g, i, none⟩ = some (.string (xs[i])) := by
  obtain ⟨g, cap, rfl, h1, h2, _⟩ := Kd.R_form h hp
  refine ⟨g, cap, rfl, h1, h2, fun i hi => ?_⟩
  obtain ⟨ad, he, hc⟩ := Kd.at_string (Kd.R_reads' h).2.2 (i : Int) (by omega) (by omega)
  injection he with he
  subst he
  rw [add_plain, Int.toNat_natCast] at hc
  rw [hc]
  simp [rdOf, List.getD_eq_getElem?_getD, List.getElem?_eq_getElem hi]
theorem two_blocks {w w1 : World} {A B : Array Value} {t u : TypeId} (hb : Below ((w.alloc (.cells A t)).alloc (.cells B u)).heap.size ((w.alloc (.cells A t)).alloc (.cells B u)) w1) :
    (∀ i, w1.cell? ⟨w.heap.size, i, none⟩ = A[i]?) ∧ (∀ i, w1.cell? ⟨w.heap.size + 1, i, none⟩ = B[i]?) ∧ (∀ i, w1.frozen? ⟨w.heap.size, i, none⟩ = false) ∧ (∀ i, w1.frozen? ⟨w.heap.size + 1, i, none⟩ = false) ∧ w.heap.size + 1 < w1.heap.size := by
  have h1 := (hb.block w.heap.size (by simp; omega)).trans (heap_alloc2_old w (.cells A t) (.cells B u))
  have h2 := (hb.block (w.heap.size + 1) (by simp)).trans (heap_alloc2_new w (.cells A t) (.cells B u))
  exact ⟨blk_cell h1, blk_cell h2, blk_frozen h1, blk_frozen h2, by have := hb.size; simp at this; omega⟩
def splitOf (s : ByteArray) (cut : Nat) : List ByteArray → V4
  | [a, b, c] => if isNum (bs a) && isNum (bs b) && isNum (bs c) then
      if cut = s.size then (a, b, c, [], true)
      else if (parts 46 ((bs s).drop (cut + 1))).all isWord then (a, b, c, (parts 46 ((bs s).drop (cut + 1))).map ofB, true) else zeroV
    else zeroV
  | _ => zeroV
def splitS (s : ByteArray) : V4 := splitOf s (cutFrom (bs s) 0) ((parts 46 (((bs s).take (cutFrom (bs s) 0)).drop 1)).map ofB)
set_option maxHeartbeats 2000000 in
theorem split_go (s : ByteArray) (hs : Small s) (h0 : 0 < s.size) (h1 : bt s 0 = 118) (cut : Nat) (hcut : cutFrom (bs s) 0 = cut) (hc1 : 1 ≤ cut) (hc2 : cut ≤ s.size) (v : V4) (hv : splitS s = v) (w : World) : Calls Tryz.prog 38 #[.string s] w (SplitPost v w) := by
  have hu49 := Tryz.underlying65
  have Hv := Aside0.mk hv
  clear hv
  have hd : ((s.size : Int) == 0) = false := beq_eq_false_iff_ne.2 (by omega)
  have hx9 : ∀ h : 0 < s.size, ((s[0]'h).toNat : Int) = 118 := fun h => by rw [← h1]; exact bt_at s 0 h
  have hq : decide (0 < s.size) = true := decide_eq_true h0
  have hsz : s.size ≤ 4398046511104 := hs
  have Hcut := Aside0.mk hcut
  clear h1 hcut
  go_enter Tryz.func38, Tryz.ntmps38
  go_wp2
  go_loop [5, 6] (fun v5 v6 => ∃ j : Int, -1 ≤ j ∧ j < s.size ∧ v5 = .int .i64 (cutFrom (bs s) (j + 1).toNat : Nat) ∧ v6 = .int .i64 j) (fun _ v6 => (intOf v6 + 1).toNat)
  case atStart =>
    have e : cutFrom (bs s) ((s.size : Int) - 1 + 1).toNat = s.size := by
      rw [show ((s.size : Int) - 1 + 1).toNat = s.size from by omega]
      unfold cutFrom
      rw [List.drop_eq_nil_of_le (by rw [bs_length]; omega)]
      rfl
    exact ⟨(s.size : Int) - 1, by omega, by omega, by rw [e], rfl⟩
  case round =>
    obtain ⟨j, hj1, hj2, rfl, rfl⟩ := hrel
    by_cases hj : 0 ≤ j
    · obtain ⟨m, rfl⟩ := Int.eq_ofNat_of_zero_le hj
      have hm : m < s.size := by omega
      have hdr : (bs s).drop m = (bs s)[m]'(by rw [bs_length]; exact hm) :: (bs s).drop (m + 1) := List.drop_eq_getElem_cons _
      have hst := cutFrom_step hdr
      have hbt := (bt_drop hdr).2.1
      obtain ⟨c, hc⟩ : ∃ c, c = (bs s)[m]'(by rw [bs_length]; exact hm) := ⟨_, rfl⟩
      rw [← hc] at hst hbt
      have hxm : ∀ h : m < s.size, ((s[m]'h).toNat : Int) = (c : Int) := fun h => by rw [← hbt]; exact bt_at s m h
      have Hst := Aside0.mk hst
      have hqm : decide (m < s.size) = true := decide_eq_true hm
      clear hc hst hbt hdr hj1 hj2
      have hj3 : (-1 : Int) ≤ (m : Int) - 1 := by omega
      by_cases h45 : c = 45
      · have hb : ((c : Int) == 45) = true := beq_iff_eq.2 (by omega)
        have H45 := Aside0.mk h45
        clear h45
        go_wp2
        go_round
        case rel => exact ⟨(m : Int) - 1, by omega, by omega, by rw [show ((m : Int) - 1 + 1).toNat = m from by omega, Hst.out, if_pos H45.out], rfl⟩
        case measure => simp [intOf]
      · have hb : ((c : Int) == 45) = false := beq_eq_false_iff_ne.2 (by omega)
        have H45 := Aside0.mk h45
        clear h45
        go_wp2
        go_round
        case rel => exact ⟨(m : Int) - 1, by omega, by omega, by rw [show ((m : Int) - 1 + 1).toNat = m from by omega, Hst.out, if_neg H45.out, show ((m : Int) + 1).toNat = m + 1 from by omega], rfl⟩
        case measure => simp [intOf]
    · obtain rfl : j = -1 := by omega
      rw [show ((-1 : Int) + 1).toNat = 0 from rfl, Hcut.out]
      clear hj1 hj2 hj
      have hc1' : (1 : Int) ≤ (cut : Int) := by omega
      have hc2' : (cut : Int) ≤ (s.size : Int) := by omega
      go_wp2_with fail
      refine (parts46 _ ?_ _).mono ?_
      · unfold Small; simp only [ByteArray.size_extract]; omega
      rintro e w1 ⟨u, rfl, hR, hb⟩
      rw [bs_extract] at hR
      obtain ⟨xs, hxs⟩ : ∃ xs, xs = (parts 46 (((bs s).take cut).drop 1)).map ofB := ⟨_, rfl⟩
      rw [← hxs] at hR
      have hsp : splitS s = splitOf s cut xs := by unfold splitS; rw [Hcut.out, ← hxs]
      rw [Hv.out] at hsp
      have hxl : ∀ x ∈ xs, Small x := fun x hx => by
        rw [hxs, ← bs_extract] at hx
        refine ((parts_small (s := s.extract 1 cut) ?_ 46).2 x hx).1
        unfold Small; simp only [ByteArray.size_extract]; omega
      clear hxs Hcut Hv
      obtain ⟨kc2, kc4, kf2, kf4, hz⟩ := two_blocks hb
      have hB : Below w.heap.size w w1 := ((((Below.refl _ _).alloc (Nat.le_refl _) _).alloc (by simp) _).trans (hb.mono (by simp; omega)))
      have HB := Aside0.mk hB
      clear hB hb
      by_cases h3 : xs.length = 3
      · obtain ⟨x0, x1, x2, rfl⟩ : ∃ a b c, xs = [a, b, c] := by
          match xs, h3 with
          | [a, b, c], _ => exact ⟨a, b, c, rfl⟩
        obtain ⟨g, cap, rfl, hg1, hg2, hcs⟩ := R_cells hR (by simp)
        have hcx0 : w1.cell? ⟨g, 0, none⟩ = some (.string x0) := hcs 0 (by simp)
        have hcx1 : w1.cell? ⟨g, 1, none⟩ = some (.string x1) := hcs 1 (by simp)
        have hcx2 : w1.cell? ⟨g, 2, none⟩ = some (.string x2) := hcs 2 (by simp)
        have hs0 : Small x0 := hxl x0 (by simp)
        have hs1 : Small x1 := hxl x1 (by simp)
        have hs2 : Small x2 := hxl x2 (by simp)
        simp only [splitOf] at hsp
        generalize hb0 : isNum (bs x0) = b0 at hsp
        generalize hb1 : isNum (bs x1) = b1 at hsp
        generalize hb2 : isNum (bs x2) = b2 at hsp
        have B0 := Aside0.mk hb0
        have B1 := Aside0.mk hb1
        have B2 := Aside0.mk hb2
        have Hsp := Aside0.mk hsp
        clear hsp h3 hxl hcs hb0 hb1 hb2
        go_wp2_with fail
        refine (may_any x0 hs0 _).mono ?_
        rintro e w2 ⟨rfl, ⟨n2, rfl⟩⟩
        rw [B0.out]
        cases b0
        · have hvz : v = zeroV := Hsp.out
          subst hvz
          go_wp2
          exact bodyPost_ret (v := .tuple #[.agg #[.string ⟨#[]⟩, .string ⟨#[]⟩, .string ⟨#[]⟩, .slice none 0 0], .bool false]) (by simp [results, Tryz.results38, go_sem, kc2]) rfl ⟨_, rfl, Kd.R_nil _ _ _ _ _, by repeat (with_reducible first | exact HB.out | refine below_set ?_ (by omega) | refine pw_below_drewN ?_ _ | refine below_drew ?_)⟩
        go_wp2_with fail
        refine (may_any x1 hs1 _).mono ?_
        rintro e w3 ⟨rfl, ⟨n3, rfl⟩⟩
        rw [B1.out]
        cases b1
        · have hvz : v = zeroV := Hsp.out
          subst hvz
          go_wp2
          exact bodyPost_ret (v := .tuple #[.agg #[.string ⟨#[]⟩, .string ⟨#[]⟩, .string ⟨#[]⟩, .slice none 0 0], .bool false]) (by simp [results, Tryz.results38, go_sem, kc2]) rfl ⟨_, rfl, Kd.R_nil _ _ _ _ _, by repeat (with_reducible first | exact HB.out | refine below_set ?_ (by omega) | refine pw_below_drewN ?_ _ | refine below_drew ?_)⟩
        go_wp2_with fail
        refine (may_any x2 hs2 _).mono ?_
        rintro e w4 ⟨rfl, ⟨n4, rfl⟩⟩
        rw [B2.out]
        cases b2
        · have hvz : v = zeroV := Hsp.out
          subst hvz
          go_wp2
          exact bodyPost_ret (v := .tuple #[.agg #[.string ⟨#[]⟩, .string ⟨#[]⟩, .string ⟨#[]⟩, .slice none 0 0], .bool false]) (by simp [results, Tryz.results38, go_sem, kc2]) rfl ⟨_, rfl, Kd.R_nil _ _ _ _ _, by repeat (with_reducible first | exact HB.out | refine below_set ?_ (by omega) | refine pw_below_drewN ?_ _ | refine below_drew ?_)⟩
        by_cases hcs : cut = s.size
        · have e77 : ((cut : Int) == (s.size : Int)) = true := beq_iff_eq.2 (by omega)
          have hvz : v = (x0, x1, x2, [], true) := Hsp.out.trans (if_pos hcs)
          subst hvz
          clear hcs
          go_wp2_with fail
          go_region
          go_wp2_with fail
          exact bodyPost_ret (v := .tuple #[.agg #[.string x0, .string x1, .string x2, .slice none 0 0], .bool true]) (by simp [results, Tryz.results38, go_sem, kc2]) rfl ⟨_, rfl, Kd.R_nil _ _ _ _ _, by repeat (with_reducible first | exact HB.out | refine below_set ?_ (by omega) | refine pw_below_drewN ?_ _ | refine below_drew ?_)⟩
        have e77 : ((cut : Int) == (s.size : Int)) = false := beq_eq_false_iff_ne.2 (by omega)
        have hv2 : v = if (parts 46 ((bs s).drop (cut + 1))).all isWord then (x0, x1, x2, (parts 46 ((bs s).drop (cut + 1))).map ofB, true) else zeroV := Hsp.out.trans (if_neg hcs)
        have HV2 := Aside0.mk hv2
        have hlt : (cut : Int) + 1 ≤ (s.size : Int) := by omega
        have hle : cut + 1 ≤ s.size := by omega
        clear hcs hv2 Hsp
        go_wp2_with fail
        go_region
        go_wp2_with fail
        refine (parts46 _ ?_ _).mono ?_
        · unfold Small; simp only [ByteArray.size_extract]; omega
        rintro e w5 ⟨u5, rfl, hR5, hb5⟩
        have e5 : bs (s.extract (cut + 1) s.size) = (bs s).drop (cut + 1) := by rw [bs_extract, List.take_of_length_le (by rw [bs_length]; omega)]
        rw [e5] at hR5
        have hss : ∀ x ∈ (parts 46 ((bs s).drop (cut + 1))).map ofB, Small x := fun x hx => by
          rw [← e5] at hx
          refine ((parts_small (s := s.extract (cut + 1) s.size) ?_ 46).2 x hx).1
          unfold Small; simp only [ByteArray.size_extract]; omega
        have hall : ((parts 46 ((bs s).drop (cut + 1))).map ofB).all (fun x => isWord (bs x)) = (parts 46 ((bs s).drop (cut + 1))).all isWord := by rw [← e5]; exact parts_all _ _ _
        obtain ⟨q, qs, hq2⟩ := parts_cons 46 ((bs s).drop (cut + 1))
        have hne : 0 < ((parts 46 ((bs s).drop (cut + 1))).map ofB).length := by rw [hq2]; simp
        have hyl : ((parts 46 ((bs s).drop (cut + 1))).map ofB).length ≤ 8796093022208 := by
          have := (parts_small (s := s.extract (cut + 1) s.size) (by unfold Small; simp only [ByteArray.size_extract]; omega) 46).1
          rw [← e5]; simp only [ByteArray.size_extract] at this; omega
        generalize (parts 46 ((bs s).drop (cut + 1))).map ofB = ys at hR5 hss hall HV2 hne hyl
        clear hq2 e5
        obtain ⟨g5, cap5, rfl, hg51, hg52, hc5⟩ := R_cells hR5 hne
        have hz5 : w.heap.size + 1 < w5.heap.size := by have := hb5.size; simp at this; omega
        have hg5 : w.heap.size + 1 < g5 := by simp at hg51; omega
        have m40 : w5.cell? ⟨w.heap.size + 1, 0, none⟩ = some (.string x0) := (hb5.cell (p := ⟨w.heap.size + 1, 0, none⟩) (by simp; omega)).trans (by simp [go_sem, kc4])
        have m41 : w5.cell? ⟨w.heap.size + 1, 1, none⟩ = some (.string x1) := (hb5.cell (p := ⟨w.heap.size + 1, 1, none⟩) (by simp; omega)).trans (by simp [go_sem, kc4])
        have m42 : w5.cell? ⟨w.heap.size + 1, 2, none⟩ = some (.string x2) := (hb5.cell (p := ⟨w.heap.size + 1, 2, none⟩) (by simp; omega)).trans (by simp [go_sem, kc4])
        have m43 : w5.cell? ⟨w.heap.size + 1, 3, none⟩ = some (.slice none 0 0) := (hb5.cell (p := ⟨w.heap.size + 1, 3, none⟩) (by simp; omega)).trans (by simp [go_sem, kc4])
        have m20 : w5.cell? ⟨w.heap.size, 0, none⟩ = some (.string ⟨#[]⟩) := (hb5.cell (p := ⟨w.heap.size, 0, none⟩) (by simp; omega)).trans (by simp [go_sem, kc2])
        have m21 : w5.cell? ⟨w.heap.size, 1, none⟩ = some (.string ⟨#[]⟩) := (hb5.cell (p := ⟨w.heap.size, 1, none⟩) (by simp; omega)).trans (by simp [go_sem, kc2])
        have m22 : w5.cell? ⟨w.heap.size, 2, none⟩ = some (.string ⟨#[]⟩) := (hb5.cell (p := ⟨w.heap.size, 2, none⟩) (by simp; omega)).trans (by simp [go_sem, kc2])
        have m23 : w5.cell? ⟨w.heap.size, 3, none⟩ = some (.slice none 0 0) := (hb5.cell (p := ⟨w.heap.size, 3, none⟩) (by simp; omega)).trans (by simp [go_sem, kc2])
        have f43 := (hb5.frozen (p := ⟨w.heap.size + 1, 3, none⟩) (by simp; omega)).trans (show _ = false by simp [kf4])
        have f20 := (hb5.frozen (p := ⟨w.heap.size, 0, none⟩) (by simp; omega)).trans (show _ = false by simp [kf2])
        have f21 := (hb5.frozen (p := ⟨w.heap.size, 1, none⟩) (by simp; omega)).trans (show _ = false by simp [kf2])
        have f22 := (hb5.frozen (p := ⟨w.heap.size, 2, none⟩) (by simp; omega)).trans (show _ = false by simp [kf2])
        have f23 := (hb5.frozen (p := ⟨w.heap.size, 3, none⟩) (by simp; omega)).trans (show _ = false by simp [kf2])
        have HB5 := Aside0.mk ((by repeat (with_reducible first | exact HB.out | refine below_set ?_ (by omega) | refine pw_below_drewN ?_ _ | refine below_drew ?_) : Below w.heap.size w _).trans (hb5.mono (by simp; omega)))
        have HR5 := Aside0.mk (Kd.R_lower hR5 (by simp; omega : w.heap.size ≤ _))
        clear hb5 hR5 hg51 kc2 kc4 kf2 kf4 HB hcx0 hcx1 hcx2 hz hg1 hg2
        have hyl2 : (ys.length : Int) ≤ 8796093022208 := by omega
        go_wp2_with fail
        generalize hw6 : w5.setCell ⟨w.heap.size + 1, 3, none⟩ (.slice (some ⟨g5, 0, none⟩) ys.length cap5) = w6
        have q43 : w6.cell? ⟨w.heap.size + 1, 3, none⟩ = some (.slice (some ⟨g5, 0, none⟩) ys.length cap5) := by rw [← hw6]; simp [go_sem, m43]
        have q40 : w6.cell? ⟨w.heap.size + 1, 0, none⟩ = some (.string x0) := by rw [← hw6]; simp [go_sem, m40]
        have q41 : w6.cell? ⟨w.heap.size + 1, 1, none⟩ = some (.string x1) := by rw [← hw6]; simp [go_sem, m41]
        have q42 : w6.cell? ⟨w.heap.size + 1, 2, none⟩ = some (.string x2) := by rw [← hw6]; simp [go_sem, m42]
        have q20 : w6.cell? ⟨w.heap.size, 0, none⟩ = some (.string ⟨#[]⟩) := by rw [← hw6]; simp [go_sem, m20]
        have q21 : w6.cell? ⟨w.heap.size, 1, none⟩ = some (.string ⟨#[]⟩) := by rw [← hw6]; simp [go_sem, m21]
        have q22 : w6.cell? ⟨w.heap.size, 2, none⟩ = some (.string ⟨#[]⟩) := by rw [← hw6]; simp [go_sem, m22]
        have q23 : w6.cell? ⟨w.heap.size, 3, none⟩ = some (.slice none 0 0) := by rw [← hw6]; simp [go_sem, m23]
        have g20 : w6.frozen? ⟨w.heap.size, 0, none⟩ = false := by rw [← hw6]; simp [go_sem, f20]
        have g21 : w6.frozen? ⟨w.heap.size, 1, none⟩ = false := by rw [← hw6]; simp [go_sem, f21]
        have g22 : w6.frozen? ⟨w.heap.size, 2, none⟩ = false := by rw [← hw6]; simp [go_sem, f22]
        have g23 : w6.frozen? ⟨w.heap.size, 3, none⟩ = false := by rw [← hw6]; simp [go_sem, f23]
        have hz6 : w.heap.size + 1 < w6.heap.size := by rw [← hw6]; simp; exact hz5
        have q5 : ∀ i (hi : i < ys.length), w6.cell? ⟨g5, i, none⟩ = some (.string (ys[i])) := fun i hi => by rw [← hw6, World.cell?_setCell_other _ _ _ _ (by first | (simp; done) | (simp; omega))]; exact hc5 i hi
        have HB6 : Aside0 (Below w.heap.size w w6) := ⟨by rw [← hw6]; exact below_set HB5.out (by omega)⟩
        have HR6 : Aside0 (Kd.R Kd.string 9 w6 w.heap.size (fun k => some k = (Value.slice (some ⟨g5, 0, none⟩) ys.length cap5).ownBlock) (.slice (some ⟨g5, 0, none⟩) ys.length cap5) ys) := ⟨by
          rw [← hw6]
          exact Kd.R_far (p := ⟨w.heap.size + 1, 3, none⟩) (Kd.R_tight rfl HR5.out) (fun k hk => by simp [Value.ownBlock] at hk; simp; omega) _⟩
        have Q5 := Aside0.mk q5
        clear q5 hw6 m40 m41 m42 m43 m20 m21 m22 m23 f43 f20 f21 f22 f23 HB5 HR5 hc5 hz5
        go_loopw [8] (fun v8 wr => ∃ i n : Nat, i ≤ ys.length ∧ v8 = .int .i64 (i : Int) ∧ wr = w6.drewN n ∧ Aside0 ((ys.take i).all (fun x => isWord (bs x)) = true)) (fun v8 _ => ys.length - (intOf v8).toNat)
        case atStart => exact ⟨0, 0, Nat.zero_le _, rfl, rfl, ⟨rfl⟩⟩
        case round =>
          obtain ⟨i, n, hi, rfl, rfl, hA⟩ := hrel
          by_cases hil : i < ys.length
          · have hce := Q5.out i hil
            have hsx := hss _ (List.getElem_mem hil)
            have hi0 : (i : Int) < (ys.length : Int) := by omega
            have hi1 : decide ((i : Int) < (ys.length : Int)) = true := decide_eq_true hi0
            have htk : ys.take (i + 1) = ys.take i ++ [ys[i]] := List.take_succ_eq_append_getElem hil
            have hmem : ys[i] ∈ ys := List.getElem_mem hil
            have Hmem := Aside0.mk hmem
            have Htk := Aside0.mk htk
            obtain ⟨y, hy⟩ : ∃ y, y = ys[i] := ⟨_, rfl⟩
            rw [← hy] at hce hsx Htk Hmem
            clear hmem htk hy
            go_wp2_with fail
            refine (word_any y hsx _).mono ?_
            rintro e w7 ⟨rfl, ⟨n7, rfl⟩⟩
            generalize hwy : isWord (bs y) = b7
            have Hwy := Aside0.mk hwy
            clear hwy
            cases b7
            · have hvz : v = zeroV := by
                have hno : ys.all (fun x => isWord (bs x)) = false := by
                  rw [List.all_eq_false]
                  exact ⟨y, Hmem.out, by rw [Hwy.out]; decide⟩
                have := HV2.out
                rw [← hall, hno] at this
                exact this
              subst hvz
              go_wp2
              exact bodyPost_ret (v := .tuple #[.agg #[.string ⟨#[]⟩, .string ⟨#[]⟩, .string ⟨#[]⟩, .slice none 0 0], .bool false]) (by simp [results, Tryz.results38, go_sem, q20, q21, q22, q23]) rfl ⟨_, rfl, Kd.R_nil _ _ _ _ _, by repeat (with_reducible first | exact HB6.out | refine below_set ?_ (by omega) | refine pw_below_drewN ?_ _ | refine below_drew ?_)⟩
            · go_wp2
              go_roundw
              case rel => exact ⟨i + 1, n + n7, by omega, by go_num, by simp, ⟨by rw [Htk.out, List.all_append, hA.out]; simp [Hwy.out]⟩⟩
              case measure => simp [intOf]; omega
          · obtain rfl : i = ys.length := by omega
            have hi1 : decide ((ys.length : Int) < (ys.length : Int)) = false := decide_eq_false (by omega)
            have hvz : v = (x0, x1, x2, ys, true) := by
              have h2 := hA.out
              rw [List.take_length] at h2
              have := HV2.out
              rw [← hall, h2] at this
              exact this
            subst hvz
            have hk : ∀ k, some k = (Value.slice (some ⟨g5, 0, none⟩) ys.length cap5).ownBlock → k ≠ w.heap.size := fun k hk => by simp [Value.ownBlock] at hk; omega
            have Hk := Aside0.mk hk
            clear hk
            go_wp2
            exact bodyPost_ret (v := .tuple #[.agg #[.string x0, .string x1, .string x2, .slice (some ⟨g5, 0, none⟩) ys.length cap5], .bool true]) (by simp [results, Tryz.results38, go_sem, q20, q21, q22, q23]) rfl ⟨_, rfl, Kd.R_mono (Kd.R_far (p := ⟨w.heap.size, 3, none⟩) (Kd.R_far (p := ⟨w.heap.size, 2, none⟩) (Kd.R_far (p := ⟨w.heap.size, 1, none⟩) (Kd.R_far (p := ⟨w.heap.size, 0, none⟩) (Kd.R_drewN HR6.out _) Hk.out _) Hk.out _) Hk.out _) Hk.out _) (fun _ _ => trivial), by repeat (with_reducible first | exact HB6.out | refine below_set ?_ (by omega) | refine pw_below_drewN ?_ _ | refine below_drew ?_)⟩
      · have hl3 : ((xs.length : Int) != 3) = true := bne_iff_ne.2 (by omega)
        have hvz : v = zeroV := by
          rw [hsp]
          match xs, h3 with
          | [], _ => rfl
          | [_], _ => rfl
          | [_, _], _ => rfl
          | [_, _, _], h => exact absurd rfl h
          | _ :: _ :: _ :: _ :: _, _ => rfl
        subst hvz
        obtain ⟨A, c, rfl⟩ := Kd.R_slice hR
        clear hsp h3 hxl hR
        go_wp2
        exact bodyPost_ret (v := .tuple #[.agg #[.string ⟨#[]⟩, .string ⟨#[]⟩, .string ⟨#[]⟩, .slice none 0 0], .bool false]) (by simp [results, Tryz.results38, go_sem, kc2]) rfl ⟨_, rfl, Kd.R_nil _ _ _ _ _, by repeat (with_reducible first | exact HB.out | refine below_set ?_ (by omega) | refine pw_below_drewN ?_ _ | refine below_drew ?_)⟩
set_option maxHeartbeats 1000000 in
theorem split_empty (s : ByteArray) (h0 : s.size = 0) (w : World) : Calls Tryz.prog 38 #[.string s] w (SplitPost zeroV w) := by
  have hu49 := Tryz.underlying65
  have hd : ((s.size : Int) == 0) = true := by rw [h0]; rfl
  have Hh := Aside0.mk h0
  clear h0
  go_enter Tryz.func38, Tryz.ntmps38
  go_wp2
  exact bodyPost_ret (v := .tuple #[.agg #[.string ⟨#[]⟩, .string ⟨#[]⟩, .string ⟨#[]⟩, .slice none 0 0], .bool false]) (by simp [results, Tryz.results38, go_sem]) rfl ⟨_, rfl, Kd.R_nil _ _ _ _ _, ((Below.refl _ _).alloc (Nat.le_refl _) _).alloc (by simp) _⟩
set_option maxHeartbeats 1000000 in
theorem split_other (s : ByteArray) (h0 : 0 < s.size) (c : Int) (hc : bt s 0 = c) (h1 : (c != 118) = true) (w : World) : Calls Tryz.prog 38 #[.string s] w (SplitPost zeroV w) := by
  have hu49 := Tryz.underlying65
  have hd : ((s.size : Int) == 0) = false := beq_eq_false_iff_ne.2 (by omega)
  have hx9 : ∀ h : 0 < s.size, ((s[0]'h).toNat : Int) = c := fun h => by rw [← hc]; exact bt_at s 0 h
  clear hc
  go_enter Tryz.func38, Tryz.ntmps38
  go_wp2
  exact bodyPost_ret (v := .tuple #[.agg #[.string ⟨#[]⟩, .string ⟨#[]⟩, .string ⟨#[]⟩, .slice none 0 0], .bool false]) (by simp [results, Tryz.results38, go_sem]) rfl ⟨_, rfl, Kd.R_nil _ _ _ _ _, ((Below.refl _ _).alloc (Nat.le_refl _) _).alloc (by simp) _⟩
def splitV (s : ByteArray) : V4 := if bs s = [] then zeroV else if (bs s).head? = some 118 then splitS s else zeroV
theorem cutFrom_le (l : List Nat) : cutFrom l 0 ≤ l.length := by
  unfold cutFrom
  simp only [Nat.zero_add, List.drop_zero]
  induction l with
  | nil => simp [cutDash]
  | cons c r ih =>
    by_cases hc : c = 45
    · simp [cutDash, hc]
    · simp [cutDash, hc]; exact ih
theorem Split_any (s : ByteArray) (hs : Small s) (w : World) : Calls Tryz.prog 38 #[.string s] w (SplitPost (splitV s) w) := by
  unfold splitV
  cases hb : bs s with
  | nil =>
    have h0 : s.size = 0 := by rw [← bs_length, hb]; rfl
    rw [if_pos rfl]
    exact split_empty s h0 w
  | cons c r =>
    have h0 : s.size = r.length + 1 := by rw [← bs_length, hb]; rfl
    have hd : (bs s).drop 0 = c :: r := by simpa using hb
    have hc := (bt_drop hd).2.1
    rw [show ((0 : Nat) : Int) = 0 from rfl] at hc
    rw [if_neg (by simp)]
    by_cases h : c = 118
    · subst h
      rw [if_pos (by simp)]
      refine split_go s hs (by omega) hc _ rfl ?_ ?_ _ rfl w
      · rw [cutFrom_step hd, if_neg (by decide)]; unfold cutFrom; omega
      · have := cutFrom_le (bs s); rw [bs_length] at this; exact this
    · rw [if_neg (by simp; exact h)]
      exact split_other s (by omega) c hc (by rw [bne_iff_ne]; omega) w
def graftwoodref03_Split.f (a0 : ByteArray) : Option V4 := if Small a0 then some (splitV a0) else none
theorem graftwoodref03_Split.calls (a0 : ByteArray) (r1 : ByteArray) (r2 : ByteArray) (r3 : ByteArray) (r4 : List ByteArray) (r5 : Bool) (w : World) (h : graftwoodref03_Split.f a0 = some (r1, r2, r3, r4, r5)) :
    Calls Tryz.prog 38 #[.string a0] w fun e w' => ∃ v3_ : Value, e = .returned (.tuple #[.agg #[.string r1, .string r2, .string r3, v3_], .bool r5]) ∧ Kd.R Kd.string 9 w' w.heap.size (fun _ => True) v3_ r4 ∧ Below w.heap.size w w' := by
  unfold graftwoodref03_Split.f at h
  by_cases hs : Small a0
  · rw [if_pos hs] at h
    have := Split_any a0 hs w
    rw [Option.some.inj h] at this
    exact this
  · rw [if_neg hs] at h
    cases h
end Go.Proofs.YtcfphieogalnbaaGreatDoor.Q
end

section
namespace Go.Proofs.YtcfphieogalnbaaGreatDoor.Q
open Go.RowKit Go.Proofs.YtcfphieogalnbaaGreatDoorW.PrintWords Go.Proofs.YtcfphieogalnbaaGreatDoorW.PrintLast Go.Proofs.YtcfphieogalnbaaGreatDoorW.PrintMore
attribute [local go_sem] max2_int min2_int max_two min_two max_three min_three max_four min_four   -- for this text's walks alone
set_option linter.unusedVariables false
set_option linter.unusedSimpArgs false
/-! ### graftwoodref03_May: function 26 -/
def graftwoodref03_May.f (a0 : ByteArray) : Option (Bool) := (graftwoodref03_Split.f a0).bind fun bt188 => (some bt188.2.2.2.2)
set_option maxHeartbeats 8000000 in
set_option maxRecDepth 100000 in
theorem graftwoodref03_May.calls (a0 : ByteArray) (r : Bool) (w : World) (h : graftwoodref03_May.f a0 = some r) :
  Calls Tryz.prog 26 #[.string a0] w fun e w' => e = .returned (.bool r) ∧ Below w.heap.size w w' := by
 have hu65 := Tryz.underlying65
 have HB := Aside0.mk (Below.refl w.heap.size w)
 have H : ((graftwoodref03_Split.f a0).bind fun bt188 => (some bt188.2.2.2.2)) = some r := h
 clear h
 replace H := Option.bind_eq_some_iff.mp H
 obtain ⟨⟨t188, t189, t190, t191, t194⟩, A20, H⟩ := H
 replace H : (some t194) = some r := H
 have A2 := Aside0.mk A20
 clear A20
 obtain rfl := Option.some.inj H
 go_enter Tryz.func26, Tryz.ntmps26
 go_wp2_with (first | ((with_reducible refine gate_callee (f := 38) rfl ?_); refine goesL_ (some 7) rfl rfl Tryz.func38 (by kernel_rfl) rfl #[.string a0] rfl (by (try simp only [List.map_toArray, List.map_cons, List.map_nil]); first | done | rfl | (simp only [List.length_drop, List.length_take]; rfl)) ?_; (with_reducible refine (graftwoodref03_Split.calls a0 t188 t189 t190 t191 t194 _ A2.out).mono ?_); rintro e w3 ⟨v192, rfl, ho0, hb⟩; refine ⟨_, rfl, ?_⟩; have n0_ := Aside0.mk (Kd.R_lower ho0 (below_size (by repeat (first | (with_reducible first | exact HB.out | apply below_alloc | apply pw_below_drewN | apply below_drew1) | exact HB.out)))); have n1_ := Aside0.mk (below_step (by repeat (first | (with_reducible first | exact HB.out | apply below_alloc | apply pw_below_drewN | apply below_drew1) | exact HB.out)) hb); clear HB; have HO193 := n0_; have HB := n1_; clear n0_ n1_; (try clear hb); (try clear hb2); (try clear hk); (try clear hi); (try clear ho0)) | ((with_reducible refine gate_dst (N := 3) rfl ?_); refine box_event ?hg (N := 3) ?hd (cs := #[.string (⟨#[]⟩ : ByteArray), .string (⟨#[]⟩ : ByteArray), .string (⟨#[]⟩ : ByteArray), .slice none 0 0]) (t := 65) ?hr ?_; (case hd => rfl); (case hg => rfl); (case hr => first | (go_simp; done) | (go_simp; rfl)); intro gb195 hg w4 hbox hb; have n0_ := Aside0.mk (Kd.R_below (by (with_reducible repeat (first | apply Kd.R_alloc | apply Kd.R_drewN | apply Kd.R_drew)); exact HO193.out) hb); have n1_ := Aside0.mk (below_step (by repeat (first | (with_reducible first | exact HB.out | apply below_alloc | apply pw_below_drewN | apply below_drew1) | exact HB.out)) hb); have n2_ := Aside0.mk (hbox); have n3_ := Aside0.mk ((by rw [hg]; exact (below_size (by repeat (first | (with_reducible first | exact HB.out | apply below_alloc | apply pw_below_drewN | apply below_drew1) | exact HB.out))) : w.heap.size ≤ gb195)); have n4_ := Aside0.mk ((by rw [hg]; exact (below_size (by repeat (first | (with_reducible first | exact HB.out | apply below_alloc | apply pw_below_drewN | apply below_drew1) | exact HB.out))) : w.heap.size ≤ gb195)); clear HO193; clear HB; have HO193 := n0_; have HB := n1_; have BK195 := n2_; have GW195 := n3_; have GE195 := n4_; clear n0_ n1_ n2_ n3_ n4_; clear hb hbox hg; have hcz5_0 : w4.cell? ⟨gb195, 0, none⟩ = some (.string (⟨#[]⟩ : ByteArray)) := (blk_cell BK195.out 0).trans rfl; have hcz5_1 : w4.cell? ⟨gb195, 1, none⟩ = some (.string (⟨#[]⟩ : ByteArray)) := (blk_cell BK195.out 1).trans rfl; have hcz5_2 : w4.cell? ⟨gb195, 2, none⟩ = some (.string (⟨#[]⟩ : ByteArray)) := (blk_cell BK195.out 2).trans rfl; have hcz5_3 : w4.cell? ⟨gb195, 3, none⟩ = some (.slice none 0 0) := (blk_cell BK195.out 3).trans rfl; have hfz5_0 := blk_frozen BK195.out 0; have hfz5_1 := blk_frozen BK195.out 1; have hfz5_2 := blk_frozen BK195.out 2; have hfz5_3 := blk_frozen BK195.out 3; obtain ⟨Ao6, co6, eo6⟩ := Kd.R_slice HO193.out; subst eo6))
 go_ret
 exact ⟨by first | rfl | (simp [errW_none, errW_some] <;> rfl) | (simp [*, errW_none, errW_some] <;> rfl), by repeat (first | (with_reducible first | exact HB.out | apply below_alloc | apply pw_below_drewN | apply below_drew1 | refine below_set ?_ GE195.out) | exact HB.out)⟩
/-! ### graftwoodref05_May: function 12 -/
def graftwoodref05_May.f (k : Nat) (a0_0 : ByteArray) (a0_1 : ByteArray) : Option (Bool) := (graftwoodref04_May.f k a0_0).bind fun t197 => (if t197 = true then ((graftwoodref03_May.f a0_1).bind fun t198 => (some t198)) else (some false))
set_option maxHeartbeats 8000000 in
set_option maxRecDepth 100000 in
theorem graftwoodref05_May.calls (k : Nat) (a0_0 : ByteArray) (a0_1 : ByteArray) (r : Bool) (w : World) (h : graftwoodref05_May.f k a0_0 a0_1 = some r) :
  Calls Tryz.prog 12 #[.agg #[.string a0_0, .string a0_1]] w fun e w' => e = .returned (.bool r) ∧ Below w.heap.size w w' := by
 have hu24 := Tryz.underlying24
 have HB := Aside0.mk (Below.refl w.heap.size w)
 have H : ((graftwoodref04_May.f k a0_0).bind fun t197 => (if t197 = true then ((graftwoodref03_May.f a0_1).bind fun t198 => (some t198)) else (some false))) = some r := h
 clear h
 replace H := Option.bind_eq_some_iff.mp H
 obtain ⟨t197, A20, H⟩ := H
 replace H : (if t197 = true then ((graftwoodref03_May.f a0_1).bind fun t198 => (some t198)) else (some false)) = some r := H
 have A2 := Aside0.mk A20
 clear A20
 by_cases c3 : t197 = true
 ·subst c3
  have H1 : ((graftwoodref03_May.f a0_1).bind fun t198 => (some t198)) = some r := by rw [if_pos rfl] at H; exact H
  clear H
  have H := H1
  clear H1
  replace H := Option.bind_eq_some_iff.mp H
  obtain ⟨t198, A40, H⟩ := H
  replace H : (some t198) = some r := H
  have A4 := Aside0.mk A40
  clear A40
  obtain rfl := Option.some.inj H
  go_enter Tryz.func12, Tryz.ntmps12
  go_wp2_with (first | ((with_reducible refine gate_dst (N := 1) rfl ?_); refine box_event ?hg (N := 1) ?hd (cs := #[.string a0_0, .string a0_1]) (t := 24) ?hr ?_; (case hd => rfl); (case hg => rfl); (case hr => first | (go_simp; done) | (go_simp; rfl)); intro gb196 hg w5 hbox hb; have n0_ := Aside0.mk (below_step (by repeat (first | (with_reducible first | exact HB.out | apply below_alloc | apply pw_below_drewN | apply below_drew1) | exact HB.out)) hb); have n1_ := Aside0.mk (hbox); have n2_ := Aside0.mk ((by rw [hg]; exact (below_size (by repeat (first | (with_reducible first | exact HB.out | apply below_alloc | apply pw_below_drewN | apply below_drew1) | exact HB.out))) : w.heap.size ≤ gb196)); have n3_ := Aside0.mk ((by rw [hg]; exact (below_size (by repeat (first | (with_reducible first | exact HB.out | apply below_alloc | apply pw_below_drewN | apply below_drew1) | exact HB.out))) : w.heap.size ≤ gb196)); clear HB; have HB := n0_; have BK196 := n1_; have GW196 := n2_; have GE196 := n3_; clear n0_ n1_ n2_ n3_; clear hb hbox hg; have hcz6_0 : w5.cell? ⟨gb196, 0, none⟩ = some (.string a0_0) := (blk_cell BK196.out 0).trans rfl; have hcz6_1 : w5.cell? ⟨gb196, 1, none⟩ = some (.string a0_1) := (blk_cell BK196.out 1).trans rfl; have hfz6_0 := blk_frozen BK196.out 0; have hfz6_1 := blk_frozen BK196.out 1) | ((with_reducible refine gate_callee (f := 25) rfl ?_); refine goesL_ (some 5) rfl rfl Tryz.func25 (by kernel_rfl) rfl #[.string a0_0] rfl (by (try simp only [List.map_toArray, List.map_cons, List.map_nil]); first | done | rfl | (simp only [List.length_drop, List.length_take]; rfl)) ?_; (with_reducible refine (graftwoodref04_May.calls k a0_0 true _ A2.out).mono ?_); rintro e w7 ⟨rfl, hb⟩; refine ⟨_, rfl, ?_⟩; have n0_ := Aside0.mk (blk_below (g := gb196) (o := .cells #[.string a0_0, .string a0_1] 24 (0, 0)) (by (with_reducible repeat (first | refine blk_drewN ?_ _ | refine blk_drew ?_ | refine blk_alloc ?_ _)); exact BK196.out) hb); have n1_ := Aside0.mk (below_step (by repeat (first | (with_reducible first | exact HB.out | apply below_alloc | apply pw_below_drewN | apply below_drew1 | refine below_set ?_ GE196.out) | exact HB.out)) hb); clear BK196; clear HB; have BK196 := n0_; have HB := n1_; clear n0_ n1_; (try clear hb); (try clear hb2); (try clear hk); (try clear hi); have hcz8_0 : w7.cell? ⟨gb196, 0, none⟩ = some (.string a0_0) := (blk_cell BK196.out 0).trans rfl; have hcz8_1 : w7.cell? ⟨gb196, 1, none⟩ = some (.string a0_1) := (blk_cell BK196.out 1).trans rfl; have hfz8_0 := blk_frozen BK196.out 0; have hfz8_1 := blk_frozen BK196.out 1) | (go_at_call 26; (with_reducible refine (graftwoodref03_May.calls a0_1 t198 _ A4.out).mono ?_); rintro e w9 ⟨rfl, hb⟩; have n0_ := Aside0.mk (blk_below (g := gb196) (o := .cells #[.string a0_0, .string a0_1] 24 (0, 0)) (by (with_reducible repeat (first | refine blk_drewN ?_ _ | refine blk_drew ?_ | refine blk_alloc ?_ _)); exact BK196.out) hb); have n1_ := Aside0.mk (below_step (by repeat (first | (with_reducible first | exact HB.out | apply below_alloc | apply pw_below_drewN | apply below_drew1 | refine below_set ?_ GE196.out) | exact HB.out)) hb); clear BK196; clear HB; have BK196 := n0_; have HB := n1_; clear n0_ n1_; (try clear hb); (try clear hb2); (try clear hk); (try clear hi)))
  go_ret
  exact ⟨by first | rfl | (simp [errW_none, errW_some] <;> rfl) | (simp [*, errW_none, errW_some] <;> rfl), by repeat (first | (with_reducible first | exact HB.out | apply below_alloc | apply pw_below_drewN | apply below_drew1 | refine below_set ?_ GE196.out) | exact HB.out)⟩
 ·replace c3 := Bool.eq_false_iff.mpr c3
  subst c3
  have H1 : (some false) = some r := by rw [if_neg (show ¬ (false = true) by decide)] at H; exact H
  clear H
  have H := H1
  clear H1
  obtain rfl := Option.some.inj H
  go_enter Tryz.func12, Tryz.ntmps12
  go_wp2_with (first | ((with_reducible refine gate_dst (N := 1) rfl ?_); refine box_event ?hg (N := 1) ?hd (cs := #[.string a0_0, .string a0_1]) (t := 24) ?hr ?_; (case hd => rfl); (case hg => rfl); (case hr => first | (go_simp; done) | (go_simp; rfl)); intro gb196 hg w10 hbox hb; have n0_ := Aside0.mk (below_step (by repeat (first | (with_reducible first | exact HB.out | apply below_alloc | apply pw_below_drewN | apply below_drew1) | exact HB.out)) hb); have n1_ := Aside0.mk (hbox); have n2_ := Aside0.mk ((by rw [hg]; exact (below_size (by repeat (first | (with_reducible first | exact HB.out | apply below_alloc | apply pw_below_drewN | apply below_drew1) | exact HB.out))) : w.heap.size ≤ gb196)); have n3_ := Aside0.mk ((by rw [hg]; exact (below_size (by repeat (first | (with_reducible first | exact HB.out | apply below_alloc | apply pw_below_drewN | apply below_drew1) | exact HB.out))) : w.heap.size ≤ gb196)); clear HB; have HB := n0_; have BK196 := n1_; have GW196 := n2_; have GE196 := n3_; clear n0_ n1_ n2_ n3_; clear hb hbox hg; have hcz11_0 : w10.cell? ⟨gb196, 0, none⟩ = some (.string a0_0) := (blk_cell BK196.out 0).trans rfl; have hcz11_1 : w10.cell? ⟨gb196, 1, none⟩ = some (.string a0_1) := (blk_cell BK196.out 1).trans rfl; have hfz11_0 := blk_frozen BK196.out 0; have hfz11_1 := blk_frozen BK196.out 1) | ((with_reducible refine gate_callee (f := 25) rfl ?_); refine goesL_ (some 5) rfl rfl Tryz.func25 (by kernel_rfl) rfl #[.string a0_0] rfl (by (try simp only [List.map_toArray, List.map_cons, List.map_nil]); first | done | rfl | (simp only [List.length_drop, List.length_take]; rfl)) ?_; (with_reducible refine (graftwoodref04_May.calls k a0_0 false _ A2.out).mono ?_); rintro e w12 ⟨rfl, hb⟩; refine ⟨_, rfl, ?_⟩; have n0_ := Aside0.mk (blk_below (g := gb196) (o := .cells #[.string a0_0, .string a0_1] 24 (0, 0)) (by (with_reducible repeat (first | refine blk_drewN ?_ _ | refine blk_drew ?_ | refine blk_alloc ?_ _)); exact BK196.out) hb); have n1_ := Aside0.mk (below_step (by repeat (first | (with_reducible first | exact HB.out | apply below_alloc | apply pw_below_drewN | apply below_drew1 | refine below_set ?_ GE196.out) | exact HB.out)) hb); clear BK196; clear HB; have BK196 := n0_; have HB := n1_; clear n0_ n1_; (try clear hb); (try clear hb2); (try clear hk); (try clear hi)))
  go_ret
  exact ⟨by first | rfl | (simp [errW_none, errW_some] <;> rfl) | (simp [*, errW_none, errW_some] <;> rfl), by repeat (first | (with_reducible first | exact HB.out | apply below_alloc | apply pw_below_drewN | apply below_drew1 | refine below_set ?_ GE196.out) | exact HB.out)⟩
/-! ### graftwoodlaw13_all: function 10 -/
def graftwoodlaw13_all.l0 : Nat → List (S24) → Int → Option (Bool)
 | 0, _, _ => none
 | k + 1, x0, x3 => if x3 < (x0.length : Int) then (if 0 ≤ x3 then ((graftwoodref05_May.f k ((rd_T24 x0 x3).f0) ((rd_T24 x0 x3).f1)).bind fun t200 => (if t200 = true then (graftwoodlaw13_all.l0 k x0 (wrap64 (x3 + 1))) else (some false))) else (none)) else (some true)
def graftwoodlaw13_all.f (k : Nat) (l0 : List (S24)) : Option (Bool) := graftwoodlaw13_all.l0 k l0 0
set_option maxHeartbeats 8000000 in
set_option maxRecDepth 100000 in
theorem graftwoodlaw13_all.calls (k : Nat) (A0 : Option Addr) (c0 : Nat) (l0 : List (S24)) (r : Bool) (w : World) (hr0 : Kd.C k24 w A0 l0.length l0) (hc0 : l0.length ≤ c0) (h : graftwoodlaw13_all.f k l0 = some r) :
  Calls Tryz.prog 10 #[.slice A0 l0.length c0] w fun e w' => e = .returned (.bool r) ∧ Below w.heap.size w w' := by
 have hu24 := Tryz.underlying24
 have HR0 := Aside0.mk hr0
 have HC0 := Aside0.mk hc0
 clear hr0 hc0
 have HB := Aside0.mk (Below.refl w.heap.size w)
 have H : (graftwoodlaw13_all.l0 k l0 0) = some r := h
 clear h
 have H' := Aside0.mk H
 clear H
 go_enter Tryz.func10, Tryz.ntmps10
 go_wp2
 go_loopg [3] k (fun kq v3 w' => ∃ (x3_1 : Int), v3 = .int .i64 x3_1 ∧ Aside0 (graftwoodlaw13_all.l0 kq l0 x3_1 = some r) ∧ Aside0 (kq ≤ k) ∧ Aside0 (Below w.heap.size w w'))
 case atStart => exact ⟨(0), (by first | rfl | (simp; done) | (simp [*]; done)), H', ⟨Nat.le_refl _⟩, ⟨by repeat (first | (with_reducible first | exact HB.out | apply below_alloc | apply pw_below_drewN | apply below_drew1) | exact HB.out)⟩⟩
 case round =>
  clear H'
  try clear c1
  obtain ⟨x3_1, rfl, HA, HK1, HB⟩ := hrel
  cases gk with
  | zero => exact absurd HA.out (by simp [graftwoodlaw13_all.l0])
  | succ k1 =>
   have H := HA.out
   clear HA
   simp only [graftwoodlaw13_all.l0] at H
   by_cases c2 : x3_1 < (l0.length : Int)
   ·rw [if_pos c2] at H
    have c2b0 : decide (x3_1 < (l0.length : Int)) = true := decide_eq_true c2
    clear c2
    by_cases c3 : 0 ≤ x3_1
    ·rw [if_pos c3] at H
     have c3b0 : decide (0 ≤ x3_1) = true := decide_eq_true c3
     clear c3
     replace H := Option.bind_eq_some_iff.mp H
     obtain ⟨t200, A40, H⟩ := H
     replace H : (if t200 = true then (graftwoodlaw13_all.l0 k1 l0 (wrap64 (x3_1 + 1))) else (some false)) = some r := H
     have A4 := Aside0.mk A40
     clear A40
     by_cases c5 : t200 = true
     ·subst c5
      have H1 : (graftwoodlaw13_all.l0 k1 l0 (wrap64 (x3_1 + 1))) = some r := by rw [if_pos rfl] at H; exact H
      clear H
      have H := H1
      clear H1
      have H' := Aside0.mk H
      clear H
      have p199 : 0 ≤ (x3_1 : Int) := of_decide_eq_true (by first | (with_reducible assumption) | assumption)
      have q199 : x3_1 < (l0.length : Int) := of_decide_eq_true (by first | (with_reducible assumption) | assumption)
      obtain ⟨ad199, e199, hx199_0, hx199_1⟩ := at_T24 HR0.out x3_1 p199 q199
      cases e199
      replace hx199_0 := (HB.out.cell (World.block_lt_of_cell? w _ hx199_0)).trans hx199_0
      replace hx199_1 := (HB.out.cell (World.block_lt_of_cell? w _ hx199_1)).trans hx199_1
      replace p199 := eq_true p199
      replace q199 := eq_true q199
      go_wp2_with (first | ((with_reducible refine gate_callee (f := 12) rfl ?_); refine goesL_ (some 14) rfl rfl Tryz.func12 (by kernel_rfl) rfl #[.agg #[.string ((rd_T24 l0 x3_1).f0), .string ((rd_T24 l0 x3_1).f1)]] rfl (by (try simp only [List.map_toArray, List.map_cons, List.map_nil]); first | done | rfl | (simp only [List.length_drop, List.length_take]; rfl)) ?_; (with_reducible refine (graftwoodref05_May.calls k1 ((rd_T24 l0 x3_1).f0) ((rd_T24 l0 x3_1).f1) true _ A4.out).mono ?_); rintro e w6 ⟨rfl, hb⟩; refine ⟨_, rfl, ?_⟩; have n0_ := Aside0.mk (below_step (by repeat (first | (with_reducible first | exact HB.out | apply below_alloc | apply pw_below_drewN | apply below_drew1) | exact HB.out)) hb); clear HB; have HB := n0_; clear n0_; (try clear hb); (try clear hb2); (try clear hk); (try clear hi)))
      go_roundg k1
      case measure => have := HK1.out; omega
      case rel => exact ⟨(wrap64 (x3_1 + 1)), (by first | rfl | (simp; done) | (simp [*]; done)), H', ⟨by have := HK1.out; omega⟩, ⟨by repeat (first | (with_reducible first | exact HB.out | apply below_alloc | apply pw_below_drewN | apply below_drew1) | exact HB.out)⟩⟩
     ·replace c5 := Bool.eq_false_iff.mpr c5
      subst c5
      have H1 : (some false) = some r := by rw [if_neg (show ¬ (false = true) by decide)] at H; exact H
      clear H
      have H := H1
      clear H1
      obtain rfl := Option.some.inj H
      have p199 : 0 ≤ (x3_1 : Int) := of_decide_eq_true (by first | (with_reducible assumption) | assumption)
      have q199 : x3_1 < (l0.length : Int) := of_decide_eq_true (by first | (with_reducible assumption) | assumption)
      obtain ⟨ad199, e199, hx199_0, hx199_1⟩ := at_T24 HR0.out x3_1 p199 q199
      cases e199
      replace hx199_0 := (HB.out.cell (World.block_lt_of_cell? w _ hx199_0)).trans hx199_0
      replace hx199_1 := (HB.out.cell (World.block_lt_of_cell? w _ hx199_1)).trans hx199_1
      replace p199 := eq_true p199
      replace q199 := eq_true q199
      go_wp2_with (first | ((with_reducible refine gate_callee (f := 12) rfl ?_); refine goesL_ (some 14) rfl rfl Tryz.func12 (by kernel_rfl) rfl #[.agg #[.string ((rd_T24 l0 x3_1).f0), .string ((rd_T24 l0 x3_1).f1)]] rfl (by (try simp only [List.map_toArray, List.map_cons, List.map_nil]); first | done | rfl | (simp only [List.length_drop, List.length_take]; rfl)) ?_; (with_reducible refine (graftwoodref05_May.calls k1 ((rd_T24 l0 x3_1).f0) ((rd_T24 l0 x3_1).f1) false _ A4.out).mono ?_); rintro e w7 ⟨rfl, hb⟩; refine ⟨_, rfl, ?_⟩; have n0_ := Aside0.mk (below_step (by repeat (first | (with_reducible first | exact HB.out | apply below_alloc | apply pw_below_drewN | apply below_drew1) | exact HB.out)) hb); clear HB; have HB := n0_; clear n0_; (try clear hb); (try clear hb2); (try clear hk); (try clear hi)))
      go_ret
      exact ⟨by first | rfl | (simp [errW_none, errW_some] <;> rfl) | (simp [*, errW_none, errW_some] <;> rfl), by repeat (first | (with_reducible first | exact HB.out | apply below_alloc | apply pw_below_drewN | apply below_drew1) | exact HB.out)⟩
    ·rw [if_neg c3] at H
     exact absurd H (by simp)
   ·rw [if_neg c2] at H
    have c2b0 : decide (x3_1 < (l0.length : Int)) = false := decide_eq_false c2
    clear c2
    obtain rfl := Option.some.inj H
    go_wp2
    go_ret
    exact ⟨by first | rfl | (simp [errW_none, errW_some] <;> rfl) | (simp [*, errW_none, errW_some] <;> rfl), by repeat (first | (with_reducible first | exact HB.out | apply below_alloc | apply pw_below_drewN | apply below_drew1) | exact HB.out)⟩
end Go.Proofs.YtcfphieogalnbaaGreatDoor.Q
end
