/- Part 12 of this claim: several texts one behind the other: RCmp, Fgraftwoodref05Less, Fgraftwoodref05With, Fgraftwoodref05Set. What each shows stands in its theorems; conditions: sizes of texts and lists, as the functions' definitions say. -/
import Derived.Test.YtohdmmafjpjmfaaGreatDoorMRoomOf8
import Derived.Test.YtohdmmafjpjmfaaGreatDoorMRoomOf2
import Derived.Test.YtohdmmafjpjmfaaGreatDoorMRoomOf5
import Derived.Test.YtohdmmafjpjmfaaGreatDoorMRoomOf3
import Derived.Test.YtohdmmafjpjmfaaGreatDoorMRoomOf11
import Derived.RegionTactic
import Derived.BigRegion
import Derived.ChangeAlike
import Derived.Deep.QuietTactic
import Derived.BigQuiet
import Derived.Deep.RegionHeld3
section
namespace Go.Proofs.YtohdmmafjpjmfaaGreatDoor.Q
open Go.Proofs.YtohdmmafjpjmfaaGreatDoor.QB.D
open Go Go.RowKit Go.Lib Go.Proofs.YtohdmmafjpjmfaaGreatDoorW.PrintWords Go.Proofs.YtohdmmafjpjmfaaGreatDoorW.PrintLast Go.Proofs.YtohdmmafjpjmfaaGreatDoorW.PrintMore Gw Go.Proofs.YtohdmmafjpjmfaaGreatDoor.QB.D
set_option linter.unusedVariables false
set_option linter.unusedSimpArgs false
def FSr (A : Option Addr) (xs : List ByteArray) (w : World) : Prop := ∀ i (hi : i < xs.length), ∃ g, A = some ⟨g, 0, none⟩ ∧ g < w.heap.size ∧ w.cell? ⟨g, i, none⟩ = some (.string (xs[i]))
theorem FSr.below {A : Option Addr} {xs : List ByteArray} {w w' : World} {b : Nat} (h : FSr A xs w) (hb : Below b w w') (hw : w.heap.size ≤ b) : FSr A xs w' := fun i hi => by
  obtain ⟨g, rfl, h1, h2⟩ := h i hi
  exact ⟨g, rfl, Nat.lt_of_lt_of_le h1 hb.size, (hb.cell (p := ⟨g, i, none⟩) (by simp; omega)).trans h2⟩
theorem FSr_of_R {w : World} {base : Nat} {u : Value} {xs : List ByteArray} (h : Kd.R Kd.string 9 w base (fun _ => True) u xs) : ∃ A c, u = .slice A xs.length c ∧ FSr A xs w := by
  obtain ⟨A, c, rfl⟩ := Kd.R_slice h
  refine ⟨A, c, rfl, fun i hi => ?_⟩
  obtain ⟨g, c', e, h1, h2, h3⟩ := vR_cells h (by omega)
  injection e with e
  exact ⟨g, e, h2, h3 i hi⟩
set_option maxHeartbeats 4000000 in
set_option maxRecDepth 100000 in
theorem rcmp_go (a b : ByteArray) (x0 x1 x2 : ByteArray) (xp : List ByteArray) (y0 y1 y2 : ByteArray) (yp : List ByteArray)
    (hx : graftwoodref03_Split.f a = some (x0, x1, x2, xp, true)) (hy : graftwoodref03_Split.f b = some (y0, y1, y2, yp, true))
    (K : Nat) (n0 n1 n2 : Int) (h0 : graftwoodref02_Cmp.f K x0 y0 = some n0) (h1 : graftwoodref02_Cmp.f K x1 y1 = some n1) (h2 : graftwoodref02_Cmp.f K x2 y2 = some n2)
    (hw : ∀ i (hi : i < xp.length) (hj : i < yp.length), graftwoodref03_words.f K xp[i] yp[i] = some (wordC (bs xp[i]) (bs yp[i])))
    (hlx : (xp.length : Int) ≤ 4398046511110) (hly : (yp.length : Int) ≤ 4398046511110)
    (r : Int) (hr : r = orI n0 (orI n1 (orI n2 (preC (xp.map bs) (yp.map bs)))))
    (w : World) : Calls Tryz.prog 69 #[.string a, .string b] w fun e w' => e = .returned (.int .i64 r) ∧ Below w.heap.size w w' := by
  have HW := Aside0.mk hw
  have HR := Aside0.mk hr
  have C0 := fun w => graftwoodref02_Cmp.calls K x0 y0 n0 w h0
  have C1 := fun w => graftwoodref02_Cmp.calls K x1 y1 n1 w h1
  have C2 := fun w => graftwoodref02_Cmp.calls K x2 y2 n2 w h2
  have hu49 := Tryz.underlying81
  clear hw hr h0 h1 h2
  go_enter Tryz.func69, Tryz.ntmps69
  go_wp2_with fail
  refine (graftwoodref03_Split.calls _ _ _ _ _ _ _ hx).mono ?_
  rintro e w1 ⟨u, rfl, hR, hb⟩
  obtain ⟨A, c, rfl, hF⟩ := FSr_of_R hR
  have HB := Aside0.mk hb
  have HF := Aside0.mk hF
  clear hb hF hR hx
  go_wp2_with fail
  refine (graftwoodref03_Split.calls _ _ _ _ _ _ _ hy).mono ?_
  rintro e w2 ⟨u, rfl, hR, hb⟩
  obtain ⟨A2, c2, rfl, hF⟩ := FSr_of_R hR
  have b12 : Below w1.heap.size w1 w2 := (by repeat (with_reducible first | exact Below.refl _ _ | refine below_set ?_ (by simp) | refine below_alloc ?_ _) : Below w1.heap.size w1 _).trans (hb.mono (by simp))
  have hz : w1.heap.size < w2.heap.size := by have := hb.size; simp at this; omega
  have q0 : w2.cell? ⟨w1.heap.size, 0, none⟩ = some (.string x0) := (hb.cell (p := ⟨w1.heap.size, 0, none⟩) (by simp)).trans (by simp [go_sem])
  have q1 : w2.cell? ⟨w1.heap.size, 1, none⟩ = some (.string x1) := (hb.cell (p := ⟨w1.heap.size, 1, none⟩) (by simp)).trans (by simp [go_sem])
  have q2 : w2.cell? ⟨w1.heap.size, 2, none⟩ = some (.string x2) := (hb.cell (p := ⟨w1.heap.size, 2, none⟩) (by simp)).trans (by simp [go_sem])
  have q3 : w2.cell? ⟨w1.heap.size, 3, none⟩ = some (.slice A xp.length c) := (hb.cell (p := ⟨w1.heap.size, 3, none⟩) (by simp)).trans (by simp [go_sem])
  clear hR hb
  have HF2 := Aside0.mk hF
  clear hF hy
  go_wp2_with fail
  generalize hW : w2.alloc (.cells #[.string y0, .string y1, .string y2, .slice A2 yp.length c2] 81 (0, 0)) = w3
  have g0 : w3.cell? ⟨w1.heap.size, 0, none⟩ = some (.string x0) := by rw [← hW]; exact Lib.cell?_alloc_some _ q0
  have g1 : w3.cell? ⟨w1.heap.size, 1, none⟩ = some (.string x1) := by rw [← hW]; exact Lib.cell?_alloc_some _ q1
  have g2 : w3.cell? ⟨w1.heap.size, 2, none⟩ = some (.string x2) := by rw [← hW]; exact Lib.cell?_alloc_some _ q2
  have g3 : w3.cell? ⟨w1.heap.size, 3, none⟩ = some (.slice A xp.length c) := by rw [← hW]; exact Lib.cell?_alloc_some _ q3
  have k0 : w3.cell? ⟨w2.heap.size, 0, none⟩ = some (.string y0) := by rw [← hW]; simp [go_sem]
  have k1 : w3.cell? ⟨w2.heap.size, 1, none⟩ = some (.string y1) := by rw [← hW]; simp [go_sem]
  have k2 : w3.cell? ⟨w2.heap.size, 2, none⟩ = some (.string y2) := by rw [← hW]; simp [go_sem]
  have k3 : w3.cell? ⟨w2.heap.size, 3, none⟩ = some (.slice A2 yp.length c2) := by rw [← hW]; simp [go_sem]
  have hz3 : w3.heap.size = w2.heap.size + 1 := by rw [← hW]; simp
  have hB3 : Below w1.heap.size w1 w3 := by rw [← hW]; exact b12.trans (((Below.refl _ _).alloc (Nat.le_refl _) _).mono (by omega))
  have HF3 : Aside0 (FSr A xp w3) := ⟨HF.out.below hB3 (Nat.le_refl _)⟩
  have HF4 : Aside0 (FSr A2 yp w3) := ⟨HF2.out.below (b := w2.heap.size) (by rw [← hW]; exact (Below.refl _ _).alloc (Nat.le_refl _) _) (Nat.le_refl _)⟩
  have HB3 : Aside0 (Below w.heap.size w w3) := ⟨HB.out.trans (hB3.mono HB.out.size)⟩
  clear HF HF2 HB hB3 b12 q0 q1 q2 q3 hW
  have h13 : w1.heap.size < w3.heap.size := by omega
  have h23 : w2.heap.size < w3.heap.size := by omega
  have mixed : Tryz.prog.follows Departure.mixedOrders = true := by kernel_rfl
  have KS : ∀ w', Below w3.heap.size w3 w' → (fun w' => Below w3.heap.size w3 w' ∧ w'.cell? ⟨w1.heap.size, 0, none⟩ = some (.string x0) ∧ w'.cell? ⟨w1.heap.size, 1, none⟩ = some (.string x1) ∧ w'.cell? ⟨w1.heap.size, 2, none⟩ = some (.string x2) ∧ w'.cell? ⟨w1.heap.size, 3, none⟩ = some (.slice A xp.length c) ∧ w'.cell? ⟨w2.heap.size, 0, none⟩ = some (.string y0) ∧ w'.cell? ⟨w2.heap.size, 1, none⟩ = some (.string y1) ∧ w'.cell? ⟨w2.heap.size, 2, none⟩ = some (.string y2) ∧ w'.cell? ⟨w2.heap.size, 3, none⟩ = some (.slice A2 yp.length c2)) w' := fun w' h =>
    ⟨h, (h.cell (p := ⟨w1.heap.size, 0, none⟩) h13).trans g0, (h.cell (p := ⟨w1.heap.size, 1, none⟩) h13).trans g1, (h.cell (p := ⟨w1.heap.size, 2, none⟩) h13).trans g2, (h.cell (p := ⟨w1.heap.size, 3, none⟩) h13).trans g3, (h.cell (p := ⟨w2.heap.size, 0, none⟩) h23).trans k0, (h.cell (p := ⟨w2.heap.size, 1, none⟩) h23).trans k1, (h.cell (p := ⟨w2.heap.size, 2, none⟩) h23).trans k2, (h.cell (p := ⟨w2.heap.size, 3, none⟩) h23).trans k3⟩
  have KE0 := KS w3 (Below.refl _ _)
  obtain ⟨_, e0_, e1_, e2_, e3_, f0_, f1_, f2_, f3_⟩ := KE0
  with_reducible refine (C0 _).mono ?_
  rintro e v0 ⟨rfl, hb9⟩
  have HB0 : Aside0 (Below w3.heap.size w3 v0) := ⟨hb9⟩
  clear hb9 e0_ e1_ e2_ e3_ f0_ f1_ f2_ f3_
  cases hc0 : (n0 != 0)
  case true =>
    have hz9 : n0 ≠ 0 := by simpa using hc0
    go_wp2
    go_ret
    exact ⟨by rw [HR.out, orI, if_neg hz9]; rfl, HB3.out.trans (HB0.out.mono HB3.out.size)⟩
  have HN0 : Aside0 (n0 = 0) := ⟨by simpa using hc0⟩
  have KE1 := KS v0 (HB0.out)
  obtain ⟨_, e0_, e1_, e2_, e3_, f0_, f1_, f2_, f3_⟩ := KE1
  go_wp2_with fail
  with_reducible refine (C1 _).mono ?_
  rintro e v1 ⟨rfl, hb9⟩
  have HB1 : Aside0 (Below w3.heap.size w3 v1) := ⟨HB0.out.trans (hb9.mono HB0.out.size)⟩
  clear hb9 e0_ e1_ e2_ e3_ f0_ f1_ f2_ f3_
  cases hc1 : (n1 != 0)
  case true =>
    have hz9 : n1 ≠ 0 := by simpa using hc1
    go_wp2
    go_ret
    exact ⟨by rw [HR.out, orI, if_pos HN0.out, orI, if_neg hz9]; rfl, HB3.out.trans (HB1.out.mono HB3.out.size)⟩
  have HN1 : Aside0 (n1 = 0) := ⟨by simpa using hc1⟩
  have KE2 := KS v1 (HB1.out)
  obtain ⟨_, e0_, e1_, e2_, e3_, f0_, f1_, f2_, f3_⟩ := KE2
  go_wp2_with fail
  with_reducible refine (C2 _).mono ?_
  rintro e v2 ⟨rfl, hb9⟩
  have HB2 : Aside0 (Below w3.heap.size w3 v2) := ⟨HB1.out.trans (hb9.mono HB1.out.size)⟩
  clear hb9 e0_ e1_ e2_ e3_ f0_ f1_ f2_ f3_
  cases hc2 : (n2 != 0)
  case true =>
    have hz9 : n2 ≠ 0 := by simpa using hc2
    go_wp2
    go_ret
    exact ⟨by rw [HR.out, orI, if_pos HN0.out, orI, if_pos HN1.out, orI, if_neg hz9]; rfl, HB3.out.trans (HB2.out.mono HB3.out.size)⟩
  have HN2 : Aside0 (n2 = 0) := ⟨by simpa using hc2⟩
  have HR2 : Aside0 (r = preC (xp.map bs) (yp.map bs)) := ⟨by rw [HR.out, orI, if_pos HN0.out, orI, if_pos HN1.out, orI, if_pos HN2.out]⟩
  have FX := Aside0.mk (HF3.out.below HB2.out (Nat.le_refl _))
  have FY := Aside0.mk (HF4.out.below HB2.out (Nat.le_refl _))
  obtain ⟨_, _, _, _, m3, _, _, _, m4⟩ := KS v2 HB2.out
  have HB4 : Aside0 (Below w.heap.size w v2) := ⟨HB3.out.trans (HB2.out.mono HB3.out.size)⟩
  have hz14 : w1.heap.size < v2.heap.size := Nat.lt_of_lt_of_le h13 HB2.out.size
  have hz24 : w2.heap.size < v2.heap.size := Nat.lt_of_lt_of_le h23 HB2.out.size
  clear HR HB0 HB1 HB2 HB3 HF3 HF4 g0 g1 g2 g3 k0 k1 k2 k3 hz3 hz KS C0 C1 C2 HN0 HN1 HN2 h13 h23
  cases lx : ((xp.length : Int) == 0)
  · have nx : xp.length ≠ 0 := fun h => by rw [h] at lx; exact absurd lx (by decide)
    cases ly : ((yp.length : Int) == 0)
    · have ny : yp.length ≠ 0 := fun h => by rw [h] at ly; exact absurd ly (by decide)
      have hpc : preC (xp.map bs) (yp.map bs) = wordsC (xp.map bs) (yp.map bs) := by
        unfold preC
        rw [if_neg]
        rintro (h | h)
        · rw [List.map_eq_nil_iff] at h
          subst h
          exact nx rfl
        · rw [List.map_eq_nil_iff] at h
          subst h
          exact ny rfl
      have HPC := Aside0.mk (HR2.out.trans hpc)
      clear hpc
      go_wp2_with fail
      go_quiet (fail)
      go_wp2_with fail
      go_loopw [14] (fun v14 wr => ∃ i : Nat, i ≤ xp.length ∧ i ≤ yp.length ∧ v14 = .int .i64 (i : Int) ∧ Aside0 (Below v2.heap.size v2 wr) ∧ Aside0 (wordsC (xp.map bs) (yp.map bs) = wordsC ((xp.drop i).map bs) ((yp.drop i).map bs))) (fun v14 _ => xp.length - (RowKit.intOf v14).toNat)
      case atStart => exact ⟨0, Nat.zero_le _, Nat.zero_le _, rfl, ⟨by repeat (with_reducible first | exact Below.refl _ _ | refine pw_below_drewN ?_ _ | refine below_drew ?_)⟩, ⟨rfl⟩⟩
      case round =>
        obtain ⟨i, hi, hi2, rfl, HWr, HA⟩ := hrel
        have r3 : wr.cell? ⟨w1.heap.size, 3, none⟩ = some (.slice A xp.length c) := (HWr.out.cell (p := ⟨w1.heap.size, 3, none⟩) hz14).trans m3
        have r4 : wr.cell? ⟨w2.heap.size, 3, none⟩ = some (.slice A2 yp.length c2) := (HWr.out.cell (p := ⟨w2.heap.size, 3, none⟩) hz24).trans m4
        by_cases hl : i < xp.length ∧ i < yp.length
        · obtain ⟨hl1, hl2⟩ := hl
          have FXr := FX.out.below HWr.out (Nat.le_refl _)
          have FYr := FY.out.below HWr.out (Nat.le_refl _)
          obtain ⟨g, rfl, hg1, hg2⟩ := FXr i hl1
          obtain ⟨g', rfl, hg3, hg4⟩ := FYr i hl2
          have hd1 : xp.drop i = xp[i] :: xp.drop (i + 1) := List.drop_eq_getElem_cons hl1
          have hd2 : yp.drop i = yp[i] :: yp.drop (i + 1) := List.drop_eq_getElem_cons hl2
          have hA2 := HA.out
          rw [hd1, hd2, List.map_cons, List.map_cons] at hA2
          have CW := fun w => graftwoodref03_words.calls K xp[i] yp[i] _ w (HW.out i hl1 hl2)
          obtain ⟨cv, hcv⟩ : ∃ cv, cv = wordC (bs xp[i]) (bs yp[i]) := ⟨_, rfl⟩
          have hA3 : wordsC (xp.map bs) (yp.map bs) = orI cv (wordsC ((xp.drop (i + 1)).map bs) ((yp.drop (i + 1)).map bs)) := by rw [hA2, hcv]; rfl
          have HA3 := Aside0.mk hA3
          rw [← hcv] at CW
          generalize xp[i] = px at CW hg2
          generalize yp[i] = py at CW hg4
          have j1 : (i : Int) < (xp.length : Int) := by omega
          have j2 : (i : Int) < (yp.length : Int) := by omega
          have jd1 : decide ((i : Int) < (xp.length : Int)) = true := decide_eq_true j1
          have jd2 : decide ((i : Int) < (yp.length : Int)) = true := decide_eq_true j2
          clear hA2 hA3 hcv hd1 hd2 FXr FYr
          have KS : ∀ w', Below wr.heap.size wr w' → Below wr.heap.size wr w' ∧ w'.cell? ⟨w1.heap.size, 3, none⟩ = some (.slice (some ⟨g, 0, none⟩) xp.length c) ∧ w'.cell? ⟨w2.heap.size, 3, none⟩ = some (.slice (some ⟨g', 0, none⟩) yp.length c2) ∧ w'.cell? ⟨g, i, none⟩ = some (.string px) ∧ w'.cell? ⟨g', i, none⟩ = some (.string py) := fun w' h =>
            ⟨h, (h.cell (p := ⟨w1.heap.size, 3, none⟩) (Nat.lt_of_lt_of_le hz14 HWr.out.size)).trans r3, (h.cell (p := ⟨w2.heap.size, 3, none⟩) (Nat.lt_of_lt_of_le hz24 HWr.out.size)).trans r4, (h.cell (p := ⟨g, i, none⟩) hg1).trans hg2, (h.cell (p := ⟨g', i, none⟩) hg3).trans hg4⟩
          go_wp2_with fail
          go_region_held3 (fun w' => Below wr.heap.size wr w' ∧ w'.cell? ⟨w1.heap.size, 3, none⟩ = some (.slice (some ⟨g, 0, none⟩) xp.length c) ∧ w'.cell? ⟨w2.heap.size, 3, none⟩ = some (.slice (some ⟨g', 0, none⟩) yp.length c2) ∧ w'.cell? ⟨g, i, none⟩ = some (.string px) ∧ w'.cell? ⟨g', i, none⟩ = some (.string py))
            (first
              | exact KS _ (below_drew (Below.refl _ _))
              | exact KS _ ((And.left ‹Below wr.heap.size wr _ ∧ _›).trans (hb9.mono (And.left ‹Below wr.heap.size wr _ ∧ _›).size))
              | exact KS _ (And.left ‹Below wr.heap.size wr _ ∧ _›))
            (first
              | (go_at_call 83; with_reducible refine (CW _).mono ?_; rintro e w'' ⟨rfl, hb9⟩))
          have hB9 := And.left ‹Below wr.heap.size wr _ ∧ _›
          have HB9 : Aside0 (Below v2.heap.size v2 w'') := ⟨HWr.out.trans (hB9.mono HWr.out.size)⟩
          have HB8 : Aside0 (Below w.heap.size w w'') := ⟨HB4.out.trans (HB9.out.mono HB4.out.size)⟩
          clear hB9 hb9 KS r3 r4 hg2 hg4
          rename_i hHeldZ
          clear hHeldZ
          cases hc0 : (cv != 0)
          · have hz : cv = 0 := by simpa using hc0
            go_wp2
            go_roundw
            case rel => exact ⟨i + 1, by omega, by omega, by go_num, HB9, ⟨by rw [HA3.out, hz]; rfl⟩⟩
            case measure => simp [RowKit.intOf]; omega
          · have hz : cv ≠ 0 := by simpa using hc0
            go_wp2
            go_ret
            exact ⟨by rw [HPC.out, HA3.out, orI, if_neg hz]; rfl, HB8.out⟩
        · have hval : wordsC (xp.map bs) (yp.map bs) = cmpN xp.length yp.length := by
            rw [HA.out]
            by_cases e1 : i = xp.length
            · rw [List.drop_of_length_le (by omega)]
              by_cases e2 : i = yp.length
              · rw [List.drop_of_length_le (by omega), ← e1, ← e2]; simp [wordsC, cmpN]
              · rw [List.drop_eq_getElem_cons (show i < yp.length by omega)]
                simp only [List.map_nil, List.map_cons, wordsC, cmpN]
                rw [if_pos (by omega)]
            · have e2 : i = yp.length := by omega
              rw [List.drop_eq_getElem_cons (show i < xp.length by omega), List.drop_of_length_le (show yp.length ≤ i by omega)]
              simp only [List.map_nil, List.map_cons, wordsC, cmpN]
              rw [if_neg (by omega), if_pos (by omega)]
          have HV := Aside0.mk hval
          have HB8 : Aside0 (Below w.heap.size w wr) := ⟨HB4.out.trans (HWr.out.mono HB4.out.size)⟩
          clear hval
          by_cases a1 : i < xp.length
          · have jd1 : decide ((i : Int) < (xp.length : Int)) = true := decide_eq_true (by omega)
            have jd2 : decide ((i : Int) < (yp.length : Int)) = false := decide_eq_false (by omega)
            have kd1 : decide ((xp.length : Int) < (yp.length : Int)) = false := decide_eq_false (by omega)
            have kd2 : decide ((yp.length : Int) < (xp.length : Int)) = true := decide_eq_true (by omega)
            have hv2 : cmpN xp.length yp.length = 1 := by unfold cmpN; rw [if_neg (by omega), if_pos (by omega)]
            go_wp2
            go_ret
            exact ⟨by rw [HPC.out, HV.out, hv2]; rfl, HB8.out⟩
          · have jd1 : decide ((i : Int) < (xp.length : Int)) = false := decide_eq_false (by omega)
            by_cases a2 : xp.length < yp.length
            · have kd1 : decide ((xp.length : Int) < (yp.length : Int)) = true := decide_eq_true (by omega)
              have hv2 : cmpN xp.length yp.length = -1 := by unfold cmpN; rw [if_pos (by omega)]
              go_wp2
              go_ret
              exact ⟨by rw [HPC.out, HV.out, hv2]; rfl, HB8.out⟩
            · have kd1 : decide ((xp.length : Int) < (yp.length : Int)) = false := decide_eq_false (by omega)
              have kd2 : decide ((yp.length : Int) < (xp.length : Int)) = false := decide_eq_false (by omega)
              have hv2 : cmpN xp.length yp.length = 0 := by unfold cmpN; rw [if_neg (by omega), if_neg (by omega)]
              go_wp2
              go_ret
              exact ⟨by rw [HPC.out, HV.out, hv2]; rfl, HB8.out⟩
    · have ny : yp = [] := List.length_eq_zero_iff.1 (by simpa using ly)
      have HPC : Aside0 (r = -1) := ⟨by rw [HR2.out]; unfold preC; rw [if_pos (Or.inr (by rw [ny]; rfl)), List.length_map, List.length_map, ny]; unfold cmpN; rw [if_pos (by simp; omega)]⟩
      clear ny HR2
      go_wp2_with fail
      go_quiet (fail)
      go_wp2
      go_ret
      exact ⟨by rw [HPC.out]; rfl, by repeat (with_reducible first | exact HB4.out | refine pw_below_drewN ?_ _ | refine below_drew ?_)⟩
  · have nx : xp = [] := List.length_eq_zero_iff.1 (by simpa using lx)
    cases ly : ((yp.length : Int) == 0)
    · have ny : yp.length ≠ 0 := fun h => by rw [h] at ly; exact absurd ly (by decide)
      have HPC : Aside0 (r = 1) := ⟨by rw [HR2.out]; unfold preC; rw [if_pos (Or.inl (by rw [nx]; rfl)), List.length_map, List.length_map, nx]; unfold cmpN; rw [if_neg (by simp), if_pos (by simp; omega)]⟩
      clear nx HR2
      go_wp2_with fail
      go_quiet (fail)
      go_wp2
      go_ret
      exact ⟨by rw [HPC.out]; rfl, by repeat (with_reducible first | exact HB4.out | refine pw_below_drewN ?_ _ | refine below_drew ?_)⟩
    · have ny : yp = [] := List.length_eq_zero_iff.1 (by simpa using ly)
      have HPC : Aside0 (r = 0) := ⟨by rw [HR2.out]; unfold preC; rw [if_pos (Or.inl (by rw [nx]; rfl)), List.length_map, List.length_map, nx, ny]; rfl⟩
      clear nx ny HR2
      go_wp2_with fail
      go_quiet (fail)
      go_wp2
      go_ret
      exact ⟨by rw [HPC.out]; rfl, by repeat (with_reducible first | exact HB4.out | refine pw_below_drewN ?_ _ | refine below_drew ?_)⟩
def graftwoodref03_Cmp.f (a0 a1 : ByteArray) : Option Int := if (Tiny a0 ∧ Tiny a1) ∧ isVersion (bs a0) = true ∧ isVersion (bs a1) = true then some (verC (vOf (bs a0)) (vOf (bs a1))) else none
theorem graftwoodref03_Cmp.calls (a0 a1 : ByteArray) (r : Int) (w : World) (h : graftwoodref03_Cmp.f a0 a1 = some r) :
    Calls Tryz.prog 69 #[.string a0, .string a1] w fun e w' => e = .returned (.int .i64 r) ∧ Below w.heap.size w w' := by
  unfold graftwoodref03_Cmp.f at h
  split at h
  case isFalse => cases h
  case isTrue hc =>
    obtain ⟨⟨ht0, ht1⟩, hv0, hv1⟩ := hc
    unfold Tiny at ht0 ht1
    rw [← vparts_some] at hv0 hv1
    obtain ⟨⟨p, q, s, l⟩, h0⟩ := Option.isSome_iff_exists.1 hv0
    obtain ⟨⟨p', q', s', l'⟩, h1⟩ := Option.isSome_iff_exists.1 hv1
    have f0 : graftwoodref03_Split.f a0 = some (ofB p, ofB q, ofB s, l.map ofB, true) := by unfold graftwoodref03_Split.f; rw [if_pos (by unfold Small; omega), split_some _ _ _ _ _ h0]
    have f1 : graftwoodref03_Split.f a1 = some (ofB p', ofB q', ofB s', l'.map ofB, true) := by unfold graftwoodref03_Split.f; rw [if_pos (by unfold Small; omega), split_some _ _ _ _ _ h1]
    obtain ⟨⟨n0, n1, n2⟩, o0, l0, _⟩ := vparts_facts (bs_oct a0) h0
    obtain ⟨⟨m0, m1, m2⟩, o1, l1, _⟩ := vparts_facts (bs_oct a1) h1
    rw [bs_length] at l0 l1 o0 o1
    have e0 : ∀ t ∈ p :: q :: s :: l, bs (ofB t) = t ∧ Small (ofB t) ∧ (ofB t).size ≤ 4294967281 := fun t ht => by
      have hz : (ofB t).size = t.length := by rw [← bs_length, bs_ofB (o0 t ht).1]
      have := (o0 t ht).2
      exact ⟨bs_ofB (o0 t ht).1, by unfold Small; omega, by omega⟩
    have e1 : ∀ t ∈ p' :: q' :: s' :: l', bs (ofB t) = t ∧ Small (ofB t) ∧ (ofB t).size ≤ 4294967281 := fun t ht => by
      have hz : (ofB t).size = t.length := by rw [← bs_length, bs_ofB (o1 t ht).1]
      have := (o1 t ht).2
      exact ⟨bs_ofB (o1 t ht).1, by unfold Small; omega, by omega⟩
    have b0 := e0 p (by simp)
    have b1 := e0 q (by simp)
    have b2 := e0 s (by simp)
    have c0 := e1 p' (by simp)
    have c1 := e1 q' (by simp)
    have c2 := e1 s' (by simp)
    have hl0 : (l.map ofB).map bs = l := by
      rw [List.map_map]
      exact (List.map_congr_left fun t ht => (e0 t (by simp [ht])).1).trans (List.map_id _)
    have hl1 : (l'.map ofB).map bs = l' := by
      rw [List.map_map]
      exact (List.map_congr_left fun t ht => (e1 t (by simp [ht])).1).trans (List.map_id _)
    have hv : ∀ {x : List Nat} {v : VP}, vparts x = some v → vOf x = v := fun {x v} h => by unfold vOf; rw [h]; rfl
    rw [hv h0, hv h1] at h
    refine rcmp_go a0 a1 (ofB p) (ofB q) (ofB s) (l.map ofB) (ofB p') (ofB q') (ofB s') (l'.map ofB) f0 f1 17179869184 (numC p p') (numC q q') (numC s s')
      (by have := rnum_val (ofB p) (ofB p') b0.2.1 c0.2.1 (by rw [b0.1]; exact n0) (by rw [c0.1]; exact m0) 17179869184 (by omega); rwa [b0.1, c0.1] at this)
      (by have := rnum_val (ofB q) (ofB q') b1.2.1 c1.2.1 (by rw [b1.1]; exact n1) (by rw [c1.1]; exact m1) 17179869184 (by omega); rwa [b1.1, c1.1] at this)
      (by have := rnum_val (ofB s) (ofB s') b2.2.1 c2.2.1 (by rw [b2.1]; exact n2) (by rw [c2.1]; exact m2) 17179869184 (by omega); rwa [b2.1, c2.1] at this)
      (fun i hi hj => by
        have g0 : (l.map ofB)[i] ∈ l.map ofB := List.getElem_mem _
        have g1 : (l'.map ofB)[i] ∈ l'.map ofB := List.getElem_mem _
        obtain ⟨t0, ht0, hh0⟩ := List.mem_map.1 g0
        obtain ⟨t1, ht1, hh1⟩ := List.mem_map.1 g1
        have k0 := (e0 t0 (by simp [ht0])).2
        have k1 := (e1 t1 (by simp [ht1])).2
        rw [hh0] at k0
        rw [hh1] at k1
        exact rwords_val _ _ k0.1 k1.1 _ (by omega))
      (by rw [List.length_map]; omega) (by rw [List.length_map]; omega) r ?_ w
    rw [← Option.some.inj h, hl0, hl1, preC_eq]
    rfl
end Go.Proofs.YtohdmmafjpjmfaaGreatDoor.Q
end
section
namespace Go.Proofs.YtohdmmafjpjmfaaGreatDoor.Q
open Go.RowKit Go.Proofs.YtohdmmafjpjmfaaGreatDoorW.PrintWords Go.Proofs.YtohdmmafjpjmfaaGreatDoorW.PrintLast Go.Proofs.YtohdmmafjpjmfaaGreatDoorW.PrintMore
attribute [local go_sem] max2_int min2_int max_two min_two max_three min_three max_four min_four   -- for this text's walks alone
set_option linter.unusedVariables false
set_option linter.unusedSimpArgs false
def graftwoodref05_Less.f (k : Nat) (a0_0 : ByteArray) (a0_1 : ByteArray) (a1_0 : ByteArray) (a1_1 : ByteArray) : Option (Bool) := (graftwoodref01_Cmp.f k a0_0 a1_0).bind fun t233 => (if t233 < 0 then (some true) else (if t233 = 0 then ((graftwoodref03_Cmp.f a0_1 a1_1).bind fun t234 => (some (decide (t234 < 0)))) else (some false)))
set_option maxHeartbeats 8000000 in
set_option maxRecDepth 100000 in
theorem graftwoodref05_Less.calls (k : Nat) (a0_0 : ByteArray) (a0_1 : ByteArray) (a1_0 : ByteArray) (a1_1 : ByteArray) (r : Bool) (w : World) (h : graftwoodref05_Less.f k a0_0 a0_1 a1_0 a1_1 = some r) :
  Calls Tryz.prog 53 #[.agg #[.string a0_0, .string a0_1], .agg #[.string a1_0, .string a1_1]] w fun e w' => e = .returned (.bool r) ∧ Below w.heap.size w w' := by
 have hu34 := Tryz.underlying34
 have HB := Aside0.mk (Below.refl w.heap.size w)
 have H : ((graftwoodref01_Cmp.f k a0_0 a1_0).bind fun t233 => (if t233 < 0 then (some true) else (if t233 = 0 then ((graftwoodref03_Cmp.f a0_1 a1_1).bind fun t234 => (some (decide (t234 < 0)))) else (some false)))) = some r := h
 clear h
 replace H := Option.bind_eq_some_iff.mp H
 obtain ⟨t233, A30, H⟩ := H
 replace H : (if t233 < 0 then (some true) else (if t233 = 0 then ((graftwoodref03_Cmp.f a0_1 a1_1).bind fun t234 => (some (decide (t234 < 0)))) else (some false))) = some r := H
 have A3 := Aside0.mk A30
 clear A30
 by_cases c4 : t233 < 0
 ·rw [if_pos c4] at H
  have c4b0 : decide (t233 < 0) = true := decide_eq_true c4
  clear c4
  obtain rfl := Option.some.inj H
  go_enter Tryz.func53, Tryz.ntmps53
  go_wp2_with (first | ((with_reducible refine gate_dst (N := 2) rfl ?_); refine box_event ?hg (N := 2) ?hd (cs := #[.string a0_0, .string a0_1]) (t := 34) ?hr ?_; (case hd => rfl); (case hg => rfl); (case hr => first | (go_simp; done) | (go_simp; rfl)); intro gb231 hg w5 hbox hb; have n0_ := Aside0.mk (below_step (by repeat (first | (with_reducible first | exact HB.out | apply below_alloc | apply pw_below_drewN | apply below_drew1) | exact HB.out)) hb); have n1_ := Aside0.mk (hbox); have n2_ := Aside0.mk ((by rw [hg]; exact (below_size (by repeat (first | (with_reducible first | exact HB.out | apply below_alloc | apply pw_below_drewN | apply below_drew1) | exact HB.out))) : w.heap.size ≤ gb231)); have n3_ := Aside0.mk ((by rw [hg]; exact (below_size (by repeat (first | (with_reducible first | exact HB.out | apply below_alloc | apply pw_below_drewN | apply below_drew1) | exact HB.out))) : w.heap.size ≤ gb231)); clear HB; have HB := n0_; have BK231 := n1_; have GW231 := n2_; have GE231 := n3_; clear n0_ n1_ n2_ n3_; clear hb hbox hg) | ((with_reducible refine gate_dst (N := 3) rfl ?_); refine box_event ?hg (N := 3) ?hd (cs := #[.string a1_0, .string a1_1]) (t := 34) ?hr ?_; (case hd => rfl); (case hg => rfl); (case hr => first | (go_simp; done) | (go_simp; rfl)); intro gb232 hg w6 hbox hb; have n0_ := Aside0.mk (blk_below (g := gb231) (o := .cells #[.string a0_0, .string a0_1] 34 (0, 0)) (by (with_reducible repeat (first | refine blk_drewN ?_ _ | refine blk_drew ?_ | refine blk_alloc ?_ _)); exact BK231.out) hb); have n1_ := Aside0.mk (below_step (by repeat (first | (with_reducible first | exact HB.out | apply below_alloc | apply pw_below_drewN | apply below_drew1 | refine below_set ?_ GE231.out) | exact HB.out)) hb); have n2_ := Aside0.mk (hbox); have n3_ := Aside0.mk ((by rw [hg]; exact (below_size (by repeat (first | (with_reducible first | exact HB.out | apply below_alloc | apply pw_below_drewN | apply below_drew1 | refine below_set ?_ GE231.out) | exact HB.out))) : w.heap.size ≤ gb232)); have n4_ := Aside0.mk ((by rw [hg]; exact (below_size (by repeat (first | (with_reducible first | exact HB.out | apply below_alloc | apply pw_below_drewN | apply below_drew1 | refine below_set ?_ GE231.out) | exact HB.out))) : w.heap.size ≤ gb232)); have n5_ := Aside0.mk ((by rw [hg]; exact Nat.ne_of_lt (blk_lt (g := gb231) (o := .cells #[.string a0_0, .string a0_1] 34 (0, 0)) (by (with_reducible repeat (first | refine blk_drewN ?_ _ | refine blk_drew ?_ | refine blk_alloc ?_ _)); exact BK231.out)) : gb231 ≠ gb232)); have n6_ := Aside0.mk ((by rw [hg]; exact Nat.ne_of_gt (blk_lt (g := gb231) (o := .cells #[.string a0_0, .string a0_1] 34 (0, 0)) (by (with_reducible repeat (first | refine blk_drewN ?_ _ | refine blk_drew ?_ | refine blk_alloc ?_ _)); exact BK231.out)) : gb232 ≠ gb231)); clear BK231; clear HB; have BK231 := n0_; have HB := n1_; have BK232 := n2_; have GW232 := n3_; have GE232 := n4_; have NB231_232 := n5_; have NB232_231 := n6_; clear n0_ n1_ n2_ n3_ n4_ n5_ n6_; clear hb hbox hg; have hnb7 := NB231_232.out; have hnc7 := NB232_231.out; have hcz8_0 : w6.cell? ⟨gb231, 0, none⟩ = some (.string a0_0) := (blk_cell BK231.out 0).trans rfl; have hcz8_1 : w6.cell? ⟨gb231, 1, none⟩ = some (.string a0_1) := (blk_cell BK231.out 1).trans rfl; have hfz8_0 := blk_frozen BK231.out 0; have hfz8_1 := blk_frozen BK231.out 1; have hcz9_0 : w6.cell? ⟨gb232, 0, none⟩ = some (.string a1_0) := (blk_cell BK232.out 0).trans rfl; have hcz9_1 : w6.cell? ⟨gb232, 1, none⟩ = some (.string a1_1) := (blk_cell BK232.out 1).trans rfl; have hfz9_0 := blk_frozen BK232.out 0; have hfz9_1 := blk_frozen BK232.out 1) | ((with_reducible refine gate_callee (f := 68) rfl ?_); refine goesL_ (some 10) rfl rfl Tryz.func68 (by kernel_rfl) rfl #[.string a0_0, .string a1_0] rfl (by (try simp only [List.map_toArray, List.map_cons, List.map_nil]); first | done | rfl | (simp only [List.length_drop, List.length_take]; rfl)) ?_; (with_reducible refine (graftwoodref01_Cmp.calls k a0_0 a1_0 t233 _ A3.out).mono ?_); rintro e w' ⟨rfl, ⟨nd, rfl⟩⟩; refine ⟨_, rfl, ?_⟩))
  go_ret
  exact ⟨by first | rfl | (simp [errW_none, errW_some] <;> rfl) | (simp [*, errW_none, errW_some] <;> rfl), by repeat (first | (with_reducible first | exact HB.out | apply below_alloc | apply pw_below_drewN | apply below_drew1 | refine below_set ?_ GE231.out | refine below_set ?_ GE232.out) | exact HB.out)⟩
 ·rw [if_neg c4] at H
  have c4b0 : decide (t233 < 0) = false := decide_eq_false c4
  clear c4
  by_cases c10 : t233 = 0
  ·rw [if_pos c10] at H
   have c10b0 : (t233 == 0) = true := beq_iff_eq.mpr c10
   have c10b1 : (t233 != 0) = false := bne_eq_false_iff_eq.mpr c10
   clear c10
   replace H := Option.bind_eq_some_iff.mp H
   obtain ⟨t234, A110, H⟩ := H
   replace H : (some (decide (t234 < 0))) = some r := H
   have A11 := Aside0.mk A110
   clear A110
   obtain rfl := Option.some.inj H
   go_enter Tryz.func53, Tryz.ntmps53
   go_wp2_with (first | ((with_reducible refine gate_dst (N := 2) rfl ?_); refine box_event ?hg (N := 2) ?hd (cs := #[.string a0_0, .string a0_1]) (t := 34) ?hr ?_; (case hd => rfl); (case hg => rfl); (case hr => first | (go_simp; done) | (go_simp; rfl)); intro gb231 hg w12 hbox hb; have n0_ := Aside0.mk (below_step (by repeat (first | (with_reducible first | exact HB.out | apply below_alloc | apply pw_below_drewN | apply below_drew1) | exact HB.out)) hb); have n1_ := Aside0.mk (hbox); have n2_ := Aside0.mk ((by rw [hg]; exact (below_size (by repeat (first | (with_reducible first | exact HB.out | apply below_alloc | apply pw_below_drewN | apply below_drew1) | exact HB.out))) : w.heap.size ≤ gb231)); have n3_ := Aside0.mk ((by rw [hg]; exact (below_size (by repeat (first | (with_reducible first | exact HB.out | apply below_alloc | apply pw_below_drewN | apply below_drew1) | exact HB.out))) : w.heap.size ≤ gb231)); clear HB; have HB := n0_; have BK231 := n1_; have GW231 := n2_; have GE231 := n3_; clear n0_ n1_ n2_ n3_; clear hb hbox hg) | ((with_reducible refine gate_dst (N := 3) rfl ?_); refine box_event ?hg (N := 3) ?hd (cs := #[.string a1_0, .string a1_1]) (t := 34) ?hr ?_; (case hd => rfl); (case hg => rfl); (case hr => first | (go_simp; done) | (go_simp; rfl)); intro gb232 hg w13 hbox hb; have n0_ := Aside0.mk (blk_below (g := gb231) (o := .cells #[.string a0_0, .string a0_1] 34 (0, 0)) (by (with_reducible repeat (first | refine blk_drewN ?_ _ | refine blk_drew ?_ | refine blk_alloc ?_ _)); exact BK231.out) hb); have n1_ := Aside0.mk (below_step (by repeat (first | (with_reducible first | exact HB.out | apply below_alloc | apply pw_below_drewN | apply below_drew1 | refine below_set ?_ GE231.out) | exact HB.out)) hb); have n2_ := Aside0.mk (hbox); have n3_ := Aside0.mk ((by rw [hg]; exact (below_size (by repeat (first | (with_reducible first | exact HB.out | apply below_alloc | apply pw_below_drewN | apply below_drew1 | refine below_set ?_ GE231.out) | exact HB.out))) : w.heap.size ≤ gb232)); have n4_ := Aside0.mk ((by rw [hg]; exact (below_size (by repeat (first | (with_reducible first | exact HB.out | apply below_alloc | apply pw_below_drewN | apply below_drew1 | refine below_set ?_ GE231.out) | exact HB.out))) : w.heap.size ≤ gb232)); have n5_ := Aside0.mk ((by rw [hg]; exact Nat.ne_of_lt (blk_lt (g := gb231) (o := .cells #[.string a0_0, .string a0_1] 34 (0, 0)) (by (with_reducible repeat (first | refine blk_drewN ?_ _ | refine blk_drew ?_ | refine blk_alloc ?_ _)); exact BK231.out)) : gb231 ≠ gb232)); have n6_ := Aside0.mk ((by rw [hg]; exact Nat.ne_of_gt (blk_lt (g := gb231) (o := .cells #[.string a0_0, .string a0_1] 34 (0, 0)) (by (with_reducible repeat (first | refine blk_drewN ?_ _ | refine blk_drew ?_ | refine blk_alloc ?_ _)); exact BK231.out)) : gb232 ≠ gb231)); clear BK231; clear HB; have BK231 := n0_; have HB := n1_; have BK232 := n2_; have GW232 := n3_; have GE232 := n4_; have NB231_232 := n5_; have NB232_231 := n6_; clear n0_ n1_ n2_ n3_ n4_ n5_ n6_; clear hb hbox hg; have hnb14 := NB231_232.out; have hnc14 := NB232_231.out; have hcz15_0 : w13.cell? ⟨gb231, 0, none⟩ = some (.string a0_0) := (blk_cell BK231.out 0).trans rfl; have hcz15_1 : w13.cell? ⟨gb231, 1, none⟩ = some (.string a0_1) := (blk_cell BK231.out 1).trans rfl; have hfz15_0 := blk_frozen BK231.out 0; have hfz15_1 := blk_frozen BK231.out 1; have hcz16_0 : w13.cell? ⟨gb232, 0, none⟩ = some (.string a1_0) := (blk_cell BK232.out 0).trans rfl; have hcz16_1 : w13.cell? ⟨gb232, 1, none⟩ = some (.string a1_1) := (blk_cell BK232.out 1).trans rfl; have hfz16_0 := blk_frozen BK232.out 0; have hfz16_1 := blk_frozen BK232.out 1) | ((with_reducible refine gate_callee (f := 68) rfl ?_); refine goesL_ (some 10) rfl rfl Tryz.func68 (by kernel_rfl) rfl #[.string a0_0, .string a1_0] rfl (by (try simp only [List.map_toArray, List.map_cons, List.map_nil]); first | done | rfl | (simp only [List.length_drop, List.length_take]; rfl)) ?_; (with_reducible refine (graftwoodref01_Cmp.calls k a0_0 a1_0 t233 _ A3.out).mono ?_); rintro e w' ⟨rfl, ⟨nd, rfl⟩⟩; refine ⟨_, rfl, ?_⟩) | (go_at_call 69; (with_reducible refine (graftwoodref03_Cmp.calls a0_1 a1_1 t234 _ A11.out).mono ?_); rintro e w17 ⟨rfl, hb⟩; have n0_ := Aside0.mk (blk_below (g := gb231) (o := .cells #[.string a0_0, .string a0_1] 34 (0, 0)) (by (with_reducible repeat (first | refine blk_drewN ?_ _ | refine blk_drew ?_ | refine blk_alloc ?_ _)); exact BK231.out) hb); have n1_ := Aside0.mk (blk_below (g := gb232) (o := .cells #[.string a1_0, .string a1_1] 34 (0, 0)) (by (with_reducible repeat (first | refine blk_drewN ?_ _ | refine blk_drew ?_ | refine blk_alloc ?_ _)); exact BK232.out) hb); have n2_ := Aside0.mk (below_step (by repeat (first | (with_reducible first | exact HB.out | apply below_alloc | apply pw_below_drewN | apply below_drew1 | refine below_set ?_ GE231.out | refine below_set ?_ GE232.out) | exact HB.out)) hb); clear BK231; clear BK232; clear HB; have BK231 := n0_; have BK232 := n1_; have HB := n2_; clear n0_ n1_ n2_; (try clear hb); (try clear hb2); (try clear hk); (try clear hi)))
   go_ret
   exact ⟨by first | rfl | (simp [errW_none, errW_some] <;> rfl) | (simp [*, errW_none, errW_some] <;> rfl), by repeat (first | (with_reducible first | exact HB.out | apply below_alloc | apply pw_below_drewN | apply below_drew1 | refine below_set ?_ GE231.out | refine below_set ?_ GE232.out) | exact HB.out)⟩
  ·rw [if_neg c10] at H
   have c10b0 : (t233 == 0) = false := beq_eq_false_iff_ne.mpr c10
   have c10b1 : (t233 != 0) = true := bne_iff_ne.mpr c10
   obtain rfl := Option.some.inj H
   go_enter Tryz.func53, Tryz.ntmps53
   go_wp2_with (first | ((with_reducible refine gate_dst (N := 2) rfl ?_); refine box_event ?hg (N := 2) ?hd (cs := #[.string a0_0, .string a0_1]) (t := 34) ?hr ?_; (case hd => rfl); (case hg => rfl); (case hr => first | (go_simp; done) | (go_simp; rfl)); intro gb231 hg w18 hbox hb; have n0_ := Aside0.mk (below_step (by repeat (first | (with_reducible first | exact HB.out | apply below_alloc | apply pw_below_drewN | apply below_drew1) | exact HB.out)) hb); have n1_ := Aside0.mk (hbox); have n2_ := Aside0.mk ((by rw [hg]; exact (below_size (by repeat (first | (with_reducible first | exact HB.out | apply below_alloc | apply pw_below_drewN | apply below_drew1) | exact HB.out))) : w.heap.size ≤ gb231)); have n3_ := Aside0.mk ((by rw [hg]; exact (below_size (by repeat (first | (with_reducible first | exact HB.out | apply below_alloc | apply pw_below_drewN | apply below_drew1) | exact HB.out))) : w.heap.size ≤ gb231)); clear HB; have HB := n0_; have BK231 := n1_; have GW231 := n2_; have GE231 := n3_; clear n0_ n1_ n2_ n3_; clear hb hbox hg) | ((with_reducible refine gate_dst (N := 3) rfl ?_); refine box_event ?hg (N := 3) ?hd (cs := #[.string a1_0, .string a1_1]) (t := 34) ?hr ?_; (case hd => rfl); (case hg => rfl); (case hr => first | (go_simp; done) | (go_simp; rfl)); intro gb232 hg w19 hbox hb; have n0_ := Aside0.mk (blk_below (g := gb231) (o := .cells #[.string a0_0, .string a0_1] 34 (0, 0)) (by (with_reducible repeat (first | refine blk_drewN ?_ _ | refine blk_drew ?_ | refine blk_alloc ?_ _)); exact BK231.out) hb); have n1_ := Aside0.mk (below_step (by repeat (first | (with_reducible first | exact HB.out | apply below_alloc | apply pw_below_drewN | apply below_drew1 | refine below_set ?_ GE231.out) | exact HB.out)) hb); have n2_ := Aside0.mk (hbox); have n3_ := Aside0.mk ((by rw [hg]; exact (below_size (by repeat (first | (with_reducible first | exact HB.out | apply below_alloc | apply pw_below_drewN | apply below_drew1 | refine below_set ?_ GE231.out) | exact HB.out))) : w.heap.size ≤ gb232)); have n4_ := Aside0.mk ((by rw [hg]; exact (below_size (by repeat (first | (with_reducible first | exact HB.out | apply below_alloc | apply pw_below_drewN | apply below_drew1 | refine below_set ?_ GE231.out) | exact HB.out))) : w.heap.size ≤ gb232)); have n5_ := Aside0.mk ((by rw [hg]; exact Nat.ne_of_lt (blk_lt (g := gb231) (o := .cells #[.string a0_0, .string a0_1] 34 (0, 0)) (by (with_reducible repeat (first | refine blk_drewN ?_ _ | refine blk_drew ?_ | refine blk_alloc ?_ _)); exact BK231.out)) : gb231 ≠ gb232)); have n6_ := Aside0.mk ((by rw [hg]; exact Nat.ne_of_gt (blk_lt (g := gb231) (o := .cells #[.string a0_0, .string a0_1] 34 (0, 0)) (by (with_reducible repeat (first | refine blk_drewN ?_ _ | refine blk_drew ?_ | refine blk_alloc ?_ _)); exact BK231.out)) : gb232 ≠ gb231)); clear BK231; clear HB; have BK231 := n0_; have HB := n1_; have BK232 := n2_; have GW232 := n3_; have GE232 := n4_; have NB231_232 := n5_; have NB232_231 := n6_; clear n0_ n1_ n2_ n3_ n4_ n5_ n6_; clear hb hbox hg; have hnb20 := NB231_232.out; have hnc20 := NB232_231.out; have hcz21_0 : w19.cell? ⟨gb231, 0, none⟩ = some (.string a0_0) := (blk_cell BK231.out 0).trans rfl; have hcz21_1 : w19.cell? ⟨gb231, 1, none⟩ = some (.string a0_1) := (blk_cell BK231.out 1).trans rfl; have hfz21_0 := blk_frozen BK231.out 0; have hfz21_1 := blk_frozen BK231.out 1; have hcz22_0 : w19.cell? ⟨gb232, 0, none⟩ = some (.string a1_0) := (blk_cell BK232.out 0).trans rfl; have hcz22_1 : w19.cell? ⟨gb232, 1, none⟩ = some (.string a1_1) := (blk_cell BK232.out 1).trans rfl; have hfz22_0 := blk_frozen BK232.out 0; have hfz22_1 := blk_frozen BK232.out 1) | ((with_reducible refine gate_callee (f := 68) rfl ?_); refine goesL_ (some 10) rfl rfl Tryz.func68 (by kernel_rfl) rfl #[.string a0_0, .string a1_0] rfl (by (try simp only [List.map_toArray, List.map_cons, List.map_nil]); first | done | rfl | (simp only [List.length_drop, List.length_take]; rfl)) ?_; (with_reducible refine (graftwoodref01_Cmp.calls k a0_0 a1_0 t233 _ A3.out).mono ?_); rintro e w' ⟨rfl, ⟨nd, rfl⟩⟩; refine ⟨_, rfl, ?_⟩))
   go_ret
   exact ⟨by first | rfl | (simp [errW_none, errW_some] <;> rfl) | (simp [*, errW_none, errW_some] <;> rfl), by repeat (first | (with_reducible first | exact HB.out | apply below_alloc | apply pw_below_drewN | apply below_drew1 | refine below_set ?_ GE231.out | refine below_set ?_ GE232.out) | exact HB.out)⟩
mutual
def graftwoodref05_With.l0 : Nat → List (S34) → List (S34) → Int → ByteArray → ByteArray → Option ((List (S34)))
 | 0, _, _, _, _, _ => none
 | k + 1, x0, x5, x6, x236000, x236001 => if x6 < (x0.length : Int) then (if 0 ≤ x6 then ((graftwoodref05_Less.f k ((rd_T34 x0 x6).f0) ((rd_T34 x0 x6).f1) x236000 x236001).bind fun t237 => (if t237 = true then (if x5.length < 4398046511104 then (graftwoodref05_With.l0 k x0 (x5 ++ [(⟨(rd_T34 x0 x6).f0, (rd_T34 x0 x6).f1⟩ : S34)]) (wrap64 (x6 + 1)) x236000 x236001) else (none)) else (graftwoodref05_With.l0 k x0 x5 (wrap64 (x6 + 1)) x236000 x236001))) else (none)) else (if x5.length < 4398046511104 then (graftwoodref05_With.l1 k x0 (x5 ++ [(⟨x236000, x236001⟩ : S34)]) 0 x236000 x236001) else (none))
def graftwoodref05_With.l1 : Nat → List (S34) → List (S34) → Int → ByteArray → ByteArray → Option ((List (S34)))
 | 0, _, _, _, _, _ => none
 | k + 1, x0, x5, x7, x236000, x236001 => if x7 < (x0.length : Int) then (if 0 ≤ x7 then ((graftwoodref05_Less.f k x236000 x236001 ((rd_T34 x0 x7).f0) ((rd_T34 x0 x7).f1)).bind fun t246 => (if t246 = true then (if x5.length < 4398046511104 then (graftwoodref05_With.l1 k x0 (x5 ++ [(⟨(rd_T34 x0 x7).f0, (rd_T34 x0 x7).f1⟩ : S34)]) (wrap64 (x7 + 1)) x236000 x236001) else (none)) else (graftwoodref05_With.l1 k x0 x5 (wrap64 (x7 + 1)) x236000 x236001))) else (none)) else (some x5)
end
def graftwoodref05_With.f (k : Nat) (l0 : List (S34)) (a1_0 : ByteArray) (a1_1 : ByteArray) : Option ((List (S34))) := graftwoodref05_With.l0 k l0 ([] : List (S34)) 0 a1_0 a1_1
def graftwoodref05_Set.l0 : Nat → List (S34) → List (S34) → Int → Option ((List (S34)))
 | 0, _, _, _ => none
 | k + 1, x0, x3, x4 => if x4 < (x0.length : Int) then (if 0 ≤ x4 then ((graftwoodref05_With.f k x3 ((rd_T34 x0 x4).f0) ((rd_T34 x0 x4).f1)).bind fun t252 => (graftwoodref05_Set.l0 k x0 t252 (wrap64 (x4 + 1)))) else (none)) else (some x3)
def graftwoodref05_Set.f (k : Nat) (l0 : List (S34)) : Option ((List (S34))) := graftwoodref05_Set.l0 k l0 ([] : List (S34)) 0
end Go.Proofs.YtohdmmafjpjmfaaGreatDoor.Q
end
