/- The contract of the reference of Split (layer 3), walked by hand: any text of at most 2^42 octets. -/
import Derived.Test.YtbkcjgjcnnggbaaRefA

import Derived.RegionTactic
import Derived.BigRegion
import Derived.ChangeAlike
namespace Go.Proofs.Ytbkcjgjcnnggbaa.Q
open Go.RowKit Go.Proofs.YtbkcjgjcnnggbaaW.PrintWords Go.Proofs.YtbkcjgjcnnggbaaW.PrintLast Go.Proofs.YtbkcjgjcnnggbaaW.PrintMore Gw
set_option linter.unusedVariables false
def cutFrom (l : List Nat) (n : Nat) : Nat := n + (cutDash (l.drop n)).1.length
abbrev V4 := ByteArray × ByteArray × ByteArray × List ByteArray × Bool
def zeroV : V4 := (⟨#[]⟩, ⟨#[]⟩, ⟨#[]⟩, [], false)
def SplitPost (v : V4) (w : World) (e : Ending) (w' : World) : Prop := ∃ u : Value, e = .returned (.tuple #[.agg #[.string v.1, .string v.2.1, .string v.2.2.1, u], .bool v.2.2.2.2]) ∧ Kd.R Kd.string 9 w' w.heap.size (fun _ => True) u v.2.2.2.1 ∧ Below w.heap.size w w'
theorem parts_any (s : ByteArray) (hs : Small s) (sep : Nat) (w : World) : Calls Try.prog 23 #[.string s, .int .u8 (sep : Int)] w fun e w' => ∃ v, e = .returned v ∧ Kd.R Kd.string 9 w' w.heap.size (fun _ => True) v ((parts sep (bs s)).map ofB) ∧ Below w.heap.size w w' :=
  graftwoodref01_Parts.calls (s.size + 1) s sep _ w (Parts_tot s hs sep _ (by omega))
theorem cutFrom_step {l : List Nat} {n c : Nat} {r : List Nat} (h : l.drop n = c :: r) : cutFrom l n = if c = 45 then n else cutFrom l (n + 1) := by
  have h2 : l.drop (n + 1) = r := by rw [← List.drop_drop, h]; rfl
  unfold cutFrom
  rw [h, h2]
  by_cases hc : c = 45
  · simp [cutDash, hc]
  · simp [cutDash, hc]; omega
theorem may_any (s : ByteArray) (hs : Small s) (w : World) : Calls Try.prog 24 #[.string s] w fun e w' => e = .returned (.bool (isNum (bs s))) ∧ Drawn0 w w' :=
  graftwoodref02_May.calls (s.size + 1) s _ w (ref2May_tot s hs _ (by omega))
theorem word_any (s : ByteArray) (hs : Small s) (w : World) : Calls Try.prog 37 #[.string s] w fun e w' => e = .returned (.bool (isWord (bs s))) ∧ Drawn0 w w' :=
  graftwoodref03_Word.calls (2 * s.size + 7) s _ w (Word_tot s hs _ (by omega))
theorem parts46 (s : ByteArray) (hs : Small s) (w : World) : Calls Try.prog 23 #[.string s, .int .u8 46] w fun e w' => ∃ v, e = .returned v ∧ Kd.R Kd.string 9 w' w.heap.size (fun _ => True) v ((parts 46 (bs s)).map ofB) ∧ Below w.heap.size w w' := parts_any s hs 46 w
theorem R_cells {w : World} {base : Nat} {ok : Nat → Prop} {v : Value} {xs : List ByteArray} (h : Kd.R Kd.string 9 w base ok v xs) (hp : 0 < xs.length) : ∃ g c, v = .slice (some ⟨g, 0, none⟩) xs.length c ∧ base ≤ g ∧ g < w.heap.size ∧ ∀ i (hi : i < xs.length), w.cell? ⟨g, i, none⟩ = some (.string (xs[i])) := by
  obtain ⟨g, cap, rfl, h1, h2, _⟩ := Kd.R_form h hp
  refine ⟨g, cap, rfl, h1, h2, fun i hi => ?_⟩
  obtain ⟨ad, he, hc⟩ := Kd.at_string (Kd.R_reads' h).2.2 (i : Int) (by omega) (by omega)
  injection he with he
  subst he
  rw [add_plain, Int.toNat_natCast] at hc
  rw [hc]
  simp [rdOf, List.getD_eq_getElem?_getD, List.getElem?_eq_getElem hi]
theorem two_blocks {w w1 : World} {A B : Array Value} {t u : TypeId} (hb : Below ((w.alloc (.cells A t)).alloc (.cells B u)).heap.size ((w.alloc (.cells A t)).alloc (.cells B u)) w1) :
    (∀ i, w1.cell? ⟨w.heap.size, i, none⟩ = A[i]?) ∧ (∀ i, w1.cell? ⟨w.heap.size + 1, i, none⟩ = B[i]?) ∧ (∀ i, w1.frozen? ⟨w.heap.size, i, none⟩ = false) ∧ (∀ i, w1.frozen? ⟨w.heap.size + 1, i, none⟩ = false) ∧ w.heap.size + 1 < w1.heap.size := by
  have h1 := (hb.block w.heap.size (by simp; omega)).trans (heap_alloc2_old w (.cells A t) (.cells B u))
  have h2 := (hb.block (w.heap.size + 1) (by simp)).trans (heap_alloc2_new w (.cells A t) (.cells B u))
  exact ⟨blk_cell h1, blk_cell h2, blk_frozen h1, blk_frozen h2, by have := hb.size; simp at this; omega⟩
def splitOf (s : ByteArray) (cut : Nat) : List ByteArray → V4
  | [a, b, c] => if isNum (bs a) && isNum (bs b) && isNum (bs c) then
      if cut = s.size then (a, b, c, [], true)
      else if (parts 46 ((bs s).drop (cut + 1))).all isWord then (a, b, c, (parts 46 ((bs s).drop (cut + 1))).map ofB, true) else zeroV
    else zeroV
  | _ => zeroV
def splitS (s : ByteArray) : V4 := splitOf s (cutFrom (bs s) 0) ((parts 46 (((bs s).take (cutFrom (bs s) 0)).drop 1)).map ofB)
set_option maxHeartbeats 2000000 in
theorem split_go (s : ByteArray) (hs : Small s) (h0 : 0 < s.size) (h1 : bt s 0 = 118) (cut : Nat) (hcut : cutFrom (bs s) 0 = cut) (hc1 : 1 ≤ cut) (hc2 : cut ≤ s.size) (v : V4) (hv : splitS s = v) (w : World) : Calls Try.prog 30 #[.string s] w (SplitPost v w) := by
  have hu49 := Try.underlying49
  have Hv := Aside0.mk hv
  clear hv
  have hd : ((s.size : Int) == 0) = false := beq_eq_false_iff_ne.2 (by omega)
  have hx9 : ∀ h : 0 < s.size, ((s[0]'h).toNat : Int) = 118 := fun h => by rw [← h1]; exact bt_at s 0 h
  have hq : decide (0 < s.size) = true := decide_eq_true h0
  have hsz : s.size ≤ 4398046511104 := hs
  have Hcut := Aside0.mk hcut
  clear h1 hcut
  go_enter Try.func30, Try.ntmps30
  go_wp2
  go_loop [5, 6] (fun v5 v6 => ∃ j : Int, -1 ≤ j ∧ j < s.size ∧ v5 = .int .i64 (cutFrom (bs s) (j + 1).toNat : Nat) ∧ v6 = .int .i64 j) (fun _ v6 => (intOf v6 + 1).toNat)
  case atStart =>
    have e : cutFrom (bs s) ((s.size : Int) - 1 + 1).toNat = s.size := by
      rw [show ((s.size : Int) - 1 + 1).toNat = s.size from by omega]
      unfold cutFrom
      rw [List.drop_eq_nil_of_le (by rw [bs_length]; omega)]
      rfl
    exact ⟨(s.size : Int) - 1, by omega, by omega, by rw [e], rfl⟩
  case round =>
    obtain ⟨j, hj1, hj2, rfl, rfl⟩ := hrel
    by_cases hj : 0 ≤ j
    · obtain ⟨m, rfl⟩ := Int.eq_ofNat_of_zero_le hj
      have hm : m < s.size := by omega
      have hdr : (bs s).drop m = (bs s)[m]'(by rw [bs_length]; exact hm) :: (bs s).drop (m + 1) := List.drop_eq_getElem_cons _
      have hst := cutFrom_step hdr
      have hbt := (bt_drop hdr).2.1
      obtain ⟨c, hc⟩ : ∃ c, c = (bs s)[m]'(by rw [bs_length]; exact hm) := ⟨_, rfl⟩
      rw [← hc] at hst hbt
      have hxm : ∀ h : m < s.size, ((s[m]'h).toNat : Int) = (c : Int) := fun h => by rw [← hbt]; exact bt_at s m h
      have Hst := Aside0.mk hst
      have hqm : decide (m < s.size) = true := decide_eq_true hm
      clear hc hst hbt hdr hj1 hj2
      have hj3 : (-1 : Int) ≤ (m : Int) - 1 := by omega
      by_cases h45 : c = 45
      · have hb : ((c : Int) == 45) = true := beq_iff_eq.2 (by omega)
        have H45 := Aside0.mk h45
        clear h45
        go_wp2
        go_round
        case rel => exact ⟨(m : Int) - 1, by omega, by omega, by rw [show ((m : Int) - 1 + 1).toNat = m from by omega, Hst.out, if_pos H45.out], rfl⟩
        case measure => simp [intOf]
      · have hb : ((c : Int) == 45) = false := beq_eq_false_iff_ne.2 (by omega)
        have H45 := Aside0.mk h45
        clear h45
        go_wp2
        go_round
        case rel => exact ⟨(m : Int) - 1, by omega, by omega, by rw [show ((m : Int) - 1 + 1).toNat = m from by omega, Hst.out, if_neg H45.out, show ((m : Int) + 1).toNat = m + 1 from by omega], rfl⟩
        case measure => simp [intOf]
    · obtain rfl : j = -1 := by omega
      rw [show ((-1 : Int) + 1).toNat = 0 from rfl, Hcut.out]
      clear hj1 hj2 hj
      have hc1' : (1 : Int) ≤ (cut : Int) := by omega
      have hc2' : (cut : Int) ≤ (s.size : Int) := by omega
      go_wp2_with fail
      refine (parts46 _ ?_ _).mono ?_
      · unfold Small; simp only [ByteArray.size_extract]; omega
      rintro e w1 ⟨u, rfl, hR, hb⟩
      rw [bs_extract] at hR
      obtain ⟨xs, hxs⟩ : ∃ xs, xs = (parts 46 (((bs s).take cut).drop 1)).map ofB := ⟨_, rfl⟩
      rw [← hxs] at hR
      have hsp : splitS s = splitOf s cut xs := by unfold splitS; rw [Hcut.out, ← hxs]
      rw [Hv.out] at hsp
      have hxl : ∀ x ∈ xs, Small x := fun x hx => by
        rw [hxs, ← bs_extract] at hx
        refine ((parts_small (s := s.extract 1 cut) ?_ 46).2 x hx).1
        unfold Small; simp only [ByteArray.size_extract]; omega
      clear hxs Hcut Hv
      obtain ⟨kc2, kc4, kf2, kf4, hz⟩ := two_blocks hb
      have hB : Below w.heap.size w w1 := ((((Below.refl _ _).alloc (Nat.le_refl _) _).alloc (by simp) _).trans (hb.mono (by simp; omega)))
      have HB := Aside0.mk hB
      clear hB hb
      by_cases h3 : xs.length = 3
      · obtain ⟨x0, x1, x2, rfl⟩ : ∃ a b c, xs = [a, b, c] := by
          match xs, h3 with
          | [a, b, c], _ => exact ⟨a, b, c, rfl⟩
        obtain ⟨g, cap, rfl, hg1, hg2, hcs⟩ := R_cells hR (by simp)
        have hcx0 : w1.cell? ⟨g, 0, none⟩ = some (.string x0) := hcs 0 (by simp)
        have hcx1 : w1.cell? ⟨g, 1, none⟩ = some (.string x1) := hcs 1 (by simp)
        have hcx2 : w1.cell? ⟨g, 2, none⟩ = some (.string x2) := hcs 2 (by simp)
        have hs0 : Small x0 := hxl x0 (by simp)
        have hs1 : Small x1 := hxl x1 (by simp)
        have hs2 : Small x2 := hxl x2 (by simp)
        simp only [splitOf] at hsp
        generalize hb0 : isNum (bs x0) = b0 at hsp
        generalize hb1 : isNum (bs x1) = b1 at hsp
        generalize hb2 : isNum (bs x2) = b2 at hsp
        have B0 := Aside0.mk hb0
        have B1 := Aside0.mk hb1
        have B2 := Aside0.mk hb2
        have Hsp := Aside0.mk hsp
        clear hsp h3 hxl hcs hb0 hb1 hb2
        go_wp2_with fail
        refine (may_any x0 hs0 _).mono ?_
        rintro e w2 ⟨rfl, ⟨n2, rfl⟩⟩
        rw [B0.out]
        cases b0
        · have hvz : v = zeroV := Hsp.out
          subst hvz
          go_wp2
          exact bodyPost_ret (v := .tuple #[.agg #[.string ⟨#[]⟩, .string ⟨#[]⟩, .string ⟨#[]⟩, .slice none 0 0], .bool false]) (by simp [results, Try.results30, go_sem, kc2]) rfl ⟨_, rfl, Kd.R_nil _ _ _ _ _, by repeat (with_reducible first | exact HB.out | refine below_set ?_ (by omega) | refine pw_below_drewN ?_ _ | refine below_drew ?_)⟩
        go_wp2_with fail
        refine (may_any x1 hs1 _).mono ?_
        rintro e w3 ⟨rfl, ⟨n3, rfl⟩⟩
        rw [B1.out]
        cases b1
        · have hvz : v = zeroV := Hsp.out
          subst hvz
          go_wp2
          exact bodyPost_ret (v := .tuple #[.agg #[.string ⟨#[]⟩, .string ⟨#[]⟩, .string ⟨#[]⟩, .slice none 0 0], .bool false]) (by simp [results, Try.results30, go_sem, kc2]) rfl ⟨_, rfl, Kd.R_nil _ _ _ _ _, by repeat (with_reducible first | exact HB.out | refine below_set ?_ (by omega) | refine pw_below_drewN ?_ _ | refine below_drew ?_)⟩
        go_wp2_with fail
        refine (may_any x2 hs2 _).mono ?_
        rintro e w4 ⟨rfl, ⟨n4, rfl⟩⟩
        rw [B2.out]
        cases b2
        · have hvz : v = zeroV := Hsp.out
          subst hvz
          go_wp2
          exact bodyPost_ret (v := .tuple #[.agg #[.string ⟨#[]⟩, .string ⟨#[]⟩, .string ⟨#[]⟩, .slice none 0 0], .bool false]) (by simp [results, Try.results30, go_sem, kc2]) rfl ⟨_, rfl, Kd.R_nil _ _ _ _ _, by repeat (with_reducible first | exact HB.out | refine below_set ?_ (by omega) | refine pw_below_drewN ?_ _ | refine below_drew ?_)⟩
        by_cases hcs : cut = s.size
        · have e77 : ((cut : Int) == (s.size : Int)) = true := beq_iff_eq.2 (by omega)
          have hvz : v = (x0, x1, x2, [], true) := Hsp.out.trans (if_pos hcs)
          subst hvz
          clear hcs
          go_wp2_with fail
          go_region
          go_wp2_with fail
          exact bodyPost_ret (v := .tuple #[.agg #[.string x0, .string x1, .string x2, .slice none 0 0], .bool true]) (by simp [results, Try.results30, go_sem, kc2]) rfl ⟨_, rfl, Kd.R_nil _ _ _ _ _, by repeat (with_reducible first | exact HB.out | refine below_set ?_ (by omega) | refine pw_below_drewN ?_ _ | refine below_drew ?_)⟩
        have e77 : ((cut : Int) == (s.size : Int)) = false := beq_eq_false_iff_ne.2 (by omega)
        have hv2 : v = if (parts 46 ((bs s).drop (cut + 1))).all isWord then (x0, x1, x2, (parts 46 ((bs s).drop (cut + 1))).map ofB, true) else zeroV := Hsp.out.trans (if_neg hcs)
        have HV2 := Aside0.mk hv2
        have hlt : (cut : Int) + 1 ≤ (s.size : Int) := by omega
        have hle : cut + 1 ≤ s.size := by omega
        clear hcs hv2 Hsp
        go_wp2_with fail
        go_region
        go_wp2_with fail
        refine (parts46 _ ?_ _).mono ?_
        · unfold Small; simp only [ByteArray.size_extract]; omega
        rintro e w5 ⟨u5, rfl, hR5, hb5⟩
        have e5 : bs (s.extract (cut + 1) s.size) = (bs s).drop (cut + 1) := by rw [bs_extract, List.take_of_length_le (by rw [bs_length]; omega)]
        rw [e5] at hR5
        have hss : ∀ x ∈ (parts 46 ((bs s).drop (cut + 1))).map ofB, Small x := fun x hx => by
          rw [← e5] at hx
          refine ((parts_small (s := s.extract (cut + 1) s.size) ?_ 46).2 x hx).1
          unfold Small; simp only [ByteArray.size_extract]; omega
        have hall : ((parts 46 ((bs s).drop (cut + 1))).map ofB).all (fun x => isWord (bs x)) = (parts 46 ((bs s).drop (cut + 1))).all isWord := by rw [← e5]; exact parts_all _ _ _
        obtain ⟨q, qs, hq2⟩ := parts_cons 46 ((bs s).drop (cut + 1))
        have hne : 0 < ((parts 46 ((bs s).drop (cut + 1))).map ofB).length := by rw [hq2]; simp
        have hyl : ((parts 46 ((bs s).drop (cut + 1))).map ofB).length ≤ 8796093022208 := by
          have := (parts_small (s := s.extract (cut + 1) s.size) (by unfold Small; simp only [ByteArray.size_extract]; omega) 46).1
          rw [← e5]; simp only [ByteArray.size_extract] at this; omega
        generalize (parts 46 ((bs s).drop (cut + 1))).map ofB = ys at hR5 hss hall HV2 hne hyl
        clear hq2 e5
        obtain ⟨g5, cap5, rfl, hg51, hg52, hc5⟩ := R_cells hR5 hne
        have hz5 : w.heap.size + 1 < w5.heap.size := by have := hb5.size; simp at this; omega
        have hg5 : w.heap.size + 1 < g5 := by simp at hg51; omega
        have m40 : w5.cell? ⟨w.heap.size + 1, 0, none⟩ = some (.string x0) := (hb5.cell (p := ⟨w.heap.size + 1, 0, none⟩) (by simp; omega)).trans (by simp [go_sem, kc4])
        have m41 : w5.cell? ⟨w.heap.size + 1, 1, none⟩ = some (.string x1) := (hb5.cell (p := ⟨w.heap.size + 1, 1, none⟩) (by simp; omega)).trans (by simp [go_sem, kc4])
        have m42 : w5.cell? ⟨w.heap.size + 1, 2, none⟩ = some (.string x2) := (hb5.cell (p := ⟨w.heap.size + 1, 2, none⟩) (by simp; omega)).trans (by simp [go_sem, kc4])
        have m43 : w5.cell? ⟨w.heap.size + 1, 3, none⟩ = some (.slice none 0 0) := (hb5.cell (p := ⟨w.heap.size + 1, 3, none⟩) (by simp; omega)).trans (by simp [go_sem, kc4])
        have m20 : w5.cell? ⟨w.heap.size, 0, none⟩ = some (.string ⟨#[]⟩) := (hb5.cell (p := ⟨w.heap.size, 0, none⟩) (by simp; omega)).trans (by simp [go_sem, kc2])
        have m21 : w5.cell? ⟨w.heap.size, 1, none⟩ = some (.string ⟨#[]⟩) := (hb5.cell (p := ⟨w.heap.size, 1, none⟩) (by simp; omega)).trans (by simp [go_sem, kc2])
        have m22 : w5.cell? ⟨w.heap.size, 2, none⟩ = some (.string ⟨#[]⟩) := (hb5.cell (p := ⟨w.heap.size, 2, none⟩) (by simp; omega)).trans (by simp [go_sem, kc2])
        have m23 : w5.cell? ⟨w.heap.size, 3, none⟩ = some (.slice none 0 0) := (hb5.cell (p := ⟨w.heap.size, 3, none⟩) (by simp; omega)).trans (by simp [go_sem, kc2])
        have f43 := (hb5.frozen (p := ⟨w.heap.size + 1, 3, none⟩) (by simp; omega)).trans (show _ = false by simp [kf4])
        have f20 := (hb5.frozen (p := ⟨w.heap.size, 0, none⟩) (by simp; omega)).trans (show _ = false by simp [kf2])
        have f21 := (hb5.frozen (p := ⟨w.heap.size, 1, none⟩) (by simp; omega)).trans (show _ = false by simp [kf2])
        have f22 := (hb5.frozen (p := ⟨w.heap.size, 2, none⟩) (by simp; omega)).trans (show _ = false by simp [kf2])
        have f23 := (hb5.frozen (p := ⟨w.heap.size, 3, none⟩) (by simp; omega)).trans (show _ = false by simp [kf2])
        have HB5 := Aside0.mk ((by repeat (with_reducible first | exact HB.out | refine below_set ?_ (by omega) | refine pw_below_drewN ?_ _ | refine below_drew ?_) : Below w.heap.size w _).trans (hb5.mono (by simp; omega)))
        have HR5 := Aside0.mk (Kd.R_lower hR5 (by simp; omega : w.heap.size ≤ _))
        clear hb5 hR5 hg51 kc2 kc4 kf2 kf4 HB hcx0 hcx1 hcx2 hz hg1 hg2
        have hyl2 : (ys.length : Int) ≤ 8796093022208 := by omega
        go_wp2_with fail
        generalize hw6 : w5.setCell ⟨w.heap.size + 1, 3, none⟩ (.slice (some ⟨g5, 0, none⟩) ys.length cap5) = w6
        have q43 : w6.cell? ⟨w.heap.size + 1, 3, none⟩ = some (.slice (some ⟨g5, 0, none⟩) ys.length cap5) := by rw [← hw6]; simp [go_sem, m43]
        have q40 : w6.cell? ⟨w.heap.size + 1, 0, none⟩ = some (.string x0) := by rw [← hw6]; simp [go_sem, m40]
        have q41 : w6.cell? ⟨w.heap.size + 1, 1, none⟩ = some (.string x1) := by rw [← hw6]; simp [go_sem, m41]
        have q42 : w6.cell? ⟨w.heap.size + 1, 2, none⟩ = some (.string x2) := by rw [← hw6]; simp [go_sem, m42]
        have q20 : w6.cell? ⟨w.heap.size, 0, none⟩ = some (.string ⟨#[]⟩) := by rw [← hw6]; simp [go_sem, m20]
        have q21 : w6.cell? ⟨w.heap.size, 1, none⟩ = some (.string ⟨#[]⟩) := by rw [← hw6]; simp [go_sem, m21]
        have q22 : w6.cell? ⟨w.heap.size, 2, none⟩ = some (.string ⟨#[]⟩) := by rw [← hw6]; simp [go_sem, m22]
        have q23 : w6.cell? ⟨w.heap.size, 3, none⟩ = some (.slice none 0 0) := by rw [← hw6]; simp [go_sem, m23]
        have g20 : w6.frozen? ⟨w.heap.size, 0, none⟩ = false := by rw [← hw6]; simp [go_sem, f20]
        have g21 : w6.frozen? ⟨w.heap.size, 1, none⟩ = false := by rw [← hw6]; simp [go_sem, f21]
        have g22 : w6.frozen? ⟨w.heap.size, 2, none⟩ = false := by rw [← hw6]; simp [go_sem, f22]
        have g23 : w6.frozen? ⟨w.heap.size, 3, none⟩ = false := by rw [← hw6]; simp [go_sem, f23]
        have hz6 : w.heap.size + 1 < w6.heap.size := by rw [← hw6]; simp; exact hz5
        have q5 : ∀ i (hi : i < ys.length), w6.cell? ⟨g5, i, none⟩ = some (.string (ys[i])) := fun i hi => by rw [← hw6, World.cell?_setCell_other _ _ _ _ (by first | (simp; done) | (simp; omega))]; exact hc5 i hi
        have HB6 : Aside0 (Below w.heap.size w w6) := ⟨by rw [← hw6]; exact below_set HB5.out (by omega)⟩
        have HR6 : Aside0 (Kd.R Kd.string 9 w6 w.heap.size (fun k => some k = (Value.slice (some ⟨g5, 0, none⟩) ys.length cap5).ownBlock) (.slice (some ⟨g5, 0, none⟩) ys.length cap5) ys) := ⟨by
          rw [← hw6]
          exact Kd.R_far (p := ⟨w.heap.size + 1, 3, none⟩) (Kd.R_tight rfl HR5.out) (fun k hk => by simp [Value.ownBlock] at hk; simp; omega) _⟩
        have Q5 := Aside0.mk q5
        clear q5 hw6 m40 m41 m42 m43 m20 m21 m22 m23 f43 f20 f21 f22 f23 HB5 HR5 hc5 hz5
        go_loopw [8] (fun v8 wr => ∃ i n : Nat, i ≤ ys.length ∧ v8 = .int .i64 (i : Int) ∧ wr = w6.drewN n ∧ Aside0 ((ys.take i).all (fun x => isWord (bs x)) = true)) (fun v8 _ => ys.length - (intOf v8).toNat)
        case atStart => exact ⟨0, 0, Nat.zero_le _, rfl, rfl, ⟨rfl⟩⟩
        case round =>
          obtain ⟨i, n, hi, rfl, rfl, hA⟩ := hrel
          by_cases hil : i < ys.length
          · have hce := Q5.out i hil
            have hsx := hss _ (List.getElem_mem hil)
            have hi0 : (i : Int) < (ys.length : Int) := by omega
            have hi1 : decide ((i : Int) < (ys.length : Int)) = true := decide_eq_true hi0
            have htk : ys.take (i + 1) = ys.take i ++ [ys[i]] := List.take_succ_eq_append_getElem hil
            have hmem : ys[i] ∈ ys := List.getElem_mem hil
            have Hmem := Aside0.mk hmem
            have Htk := Aside0.mk htk
            obtain ⟨y, hy⟩ : ∃ y, y = ys[i] := ⟨_, rfl⟩
            rw [← hy] at hce hsx Htk Hmem
            clear hmem htk hy
            go_wp2_with fail
            refine (word_any y hsx _).mono ?_
            rintro e w7 ⟨rfl, ⟨n7, rfl⟩⟩
            generalize hwy : isWord (bs y) = b7
            have Hwy := Aside0.mk hwy
            clear hwy
            cases b7
            · have hvz : v = zeroV := by
                have hno : ys.all (fun x => isWord (bs x)) = false := by
                  rw [List.all_eq_false]
                  exact ⟨y, Hmem.out, by rw [Hwy.out]; decide⟩
                have := HV2.out
                rw [← hall, hno] at this
                exact this
              subst hvz
              go_wp2
              exact bodyPost_ret (v := .tuple #[.agg #[.string ⟨#[]⟩, .string ⟨#[]⟩, .string ⟨#[]⟩, .slice none 0 0], .bool false]) (by simp [results, Try.results30, go_sem, q20, q21, q22, q23]) rfl ⟨_, rfl, Kd.R_nil _ _ _ _ _, by repeat (with_reducible first | exact HB6.out | refine below_set ?_ (by omega) | refine pw_below_drewN ?_ _ | refine below_drew ?_)⟩
            · go_wp2
              go_roundw
              case rel => exact ⟨i + 1, n + n7, by omega, by go_num, by simp, ⟨by rw [Htk.out, List.all_append, hA.out]; simp [Hwy.out]⟩⟩
              case measure => simp [intOf]; omega
          · obtain rfl : i = ys.length := by omega
            have hi1 : decide ((ys.length : Int) < (ys.length : Int)) = false := decide_eq_false (by omega)
            have hvz : v = (x0, x1, x2, ys, true) := by
              have h2 := hA.out
              rw [List.take_length] at h2
              have := HV2.out
              rw [← hall, h2] at this
              exact this
            subst hvz
            have hk : ∀ k, some k = (Value.slice (some ⟨g5, 0, none⟩) ys.length cap5).ownBlock → k ≠ w.heap.size := fun k hk => by simp [Value.ownBlock] at hk; omega
            have Hk := Aside0.mk hk
            clear hk
            go_wp2
            exact bodyPost_ret (v := .tuple #[.agg #[.string x0, .string x1, .string x2, .slice (some ⟨g5, 0, none⟩) ys.length cap5], .bool true]) (by simp [results, Try.results30, go_sem, q20, q21, q22, q23]) rfl ⟨_, rfl, Kd.R_mono (Kd.R_far (p := ⟨w.heap.size, 3, none⟩) (Kd.R_far (p := ⟨w.heap.size, 2, none⟩) (Kd.R_far (p := ⟨w.heap.size, 1, none⟩) (Kd.R_far (p := ⟨w.heap.size, 0, none⟩) (Kd.R_drewN HR6.out _) Hk.out _) Hk.out _) Hk.out _) Hk.out _) (fun _ _ => trivial), by repeat (with_reducible first | exact HB6.out | refine below_set ?_ (by omega) | refine pw_below_drewN ?_ _ | refine below_drew ?_)⟩
      · have hl3 : ((xs.length : Int) != 3) = true := bne_iff_ne.2 (by omega)
        have hvz : v = zeroV := by
          rw [hsp]
          match xs, h3 with
          | [], _ => rfl
          | [_], _ => rfl
          | [_, _], _ => rfl
          | [_, _, _], h => exact absurd rfl h
          | _ :: _ :: _ :: _ :: _, _ => rfl
        subst hvz
        obtain ⟨A, c, rfl⟩ := Kd.R_slice hR
        clear hsp h3 hxl hR
        go_wp2
        exact bodyPost_ret (v := .tuple #[.agg #[.string ⟨#[]⟩, .string ⟨#[]⟩, .string ⟨#[]⟩, .slice none 0 0], .bool false]) (by simp [results, Try.results30, go_sem, kc2]) rfl ⟨_, rfl, Kd.R_nil _ _ _ _ _, by repeat (with_reducible first | exact HB.out | refine below_set ?_ (by omega) | refine pw_below_drewN ?_ _ | refine below_drew ?_)⟩
set_option maxHeartbeats 1000000 in
theorem split_empty (s : ByteArray) (h0 : s.size = 0) (w : World) : Calls Try.prog 30 #[.string s] w (SplitPost zeroV w) := by
  have hu49 := Try.underlying49
  have hd : ((s.size : Int) == 0) = true := by rw [h0]; rfl
  have Hh := Aside0.mk h0
  clear h0
  go_enter Try.func30, Try.ntmps30
  go_wp2
  exact bodyPost_ret (v := .tuple #[.agg #[.string ⟨#[]⟩, .string ⟨#[]⟩, .string ⟨#[]⟩, .slice none 0 0], .bool false]) (by simp [results, Try.results30, go_sem]) rfl ⟨_, rfl, Kd.R_nil _ _ _ _ _, ((Below.refl _ _).alloc (Nat.le_refl _) _).alloc (by simp) _⟩
set_option maxHeartbeats 1000000 in
theorem split_other (s : ByteArray) (h0 : 0 < s.size) (c : Int) (hc : bt s 0 = c) (h1 : (c != 118) = true) (w : World) : Calls Try.prog 30 #[.string s] w (SplitPost zeroV w) := by
  have hu49 := Try.underlying49
  have hd : ((s.size : Int) == 0) = false := beq_eq_false_iff_ne.2 (by omega)
  have hx9 : ∀ h : 0 < s.size, ((s[0]'h).toNat : Int) = c := fun h => by rw [← hc]; exact bt_at s 0 h
  clear hc
  go_enter Try.func30, Try.ntmps30
  go_wp2
  exact bodyPost_ret (v := .tuple #[.agg #[.string ⟨#[]⟩, .string ⟨#[]⟩, .string ⟨#[]⟩, .slice none 0 0], .bool false]) (by simp [results, Try.results30, go_sem]) rfl ⟨_, rfl, Kd.R_nil _ _ _ _ _, ((Below.refl _ _).alloc (Nat.le_refl _) _).alloc (by simp) _⟩
def splitV (s : ByteArray) : V4 := if bs s = [] then zeroV else if (bs s).head? = some 118 then splitS s else zeroV
theorem cutFrom_le (l : List Nat) : cutFrom l 0 ≤ l.length := by
  unfold cutFrom
  simp only [Nat.zero_add, List.drop_zero]
  induction l with
  | nil => simp [cutDash]
  | cons c r ih =>
    by_cases hc : c = 45
    · simp [cutDash, hc]
    · simp [cutDash, hc]; exact ih
theorem Split_any (s : ByteArray) (hs : Small s) (w : World) : Calls Try.prog 30 #[.string s] w (SplitPost (splitV s) w) := by
  unfold splitV
  cases hb : bs s with
  | nil =>
    have h0 : s.size = 0 := by rw [← bs_length, hb]; rfl
    rw [if_pos rfl]
    exact split_empty s h0 w
  | cons c r =>
    have h0 : s.size = r.length + 1 := by rw [← bs_length, hb]; rfl
    have hd : (bs s).drop 0 = c :: r := by simpa using hb
    have hc := (bt_drop hd).2.1
    rw [show ((0 : Nat) : Int) = 0 from rfl] at hc
    rw [if_neg (by simp)]
    by_cases h : c = 118
    · subst h
      rw [if_pos (by simp)]
      refine split_go s hs (by omega) hc _ rfl ?_ ?_ _ rfl w
      · rw [cutFrom_step hd, if_neg (by decide)]; unfold cutFrom; omega
      · have := cutFrom_le (bs s); rw [bs_length] at this; exact this
    · rw [if_neg (by simp; exact h)]
      exact split_other s (by omega) c hc (by rw [bne_iff_ne]; omega) w
def graftwoodref03_Split.f (a0 : ByteArray) : Option V4 := if Small a0 then some (splitV a0) else none
theorem graftwoodref03_Split.calls (a0 : ByteArray) (r1 : ByteArray) (r2 : ByteArray) (r3 : ByteArray) (r4 : List ByteArray) (r5 : Bool) (w : World) (h : graftwoodref03_Split.f a0 = some (r1, r2, r3, r4, r5)) :
    Calls Try.prog 30 #[.string a0] w fun e w' => ∃ v3_ : Value, e = .returned (.tuple #[.agg #[.string r1, .string r2, .string r3, v3_], .bool r5]) ∧ Kd.R Kd.string 9 w' w.heap.size (fun _ => True) v3_ r4 ∧ Below w.heap.size w w' := by
  unfold graftwoodref03_Split.f at h
  by_cases hs : Small a0
  · rw [if_pos hs] at h
    have := Split_any a0 hs w
    rw [Option.some.inj h] at this
    exact this
  · rw [if_neg hs] at h
    cases h
end Go.Proofs.Ytbkcjgjcnnggbaa.Q
