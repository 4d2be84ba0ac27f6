/- Part 9 of this claim: several texts one behind the other: RCmp, Fgraftwoodref05Less, Fgraftwoodref05With, Fgraftwoodref05Set, RLess5, RMay5, LAll13, RWith5, RSet5. What each shows stands in its theorems; conditions: sizes of texts and lists, as the functions' definitions say. -/
import Derived.Test.YtcfphieogalnbaaGreatDoorMDiffTells5
import Derived.Test.YtcfphieogalnbaaGreatDoorMDiffTells0
import Derived.Test.YtcfphieogalnbaaGreatDoorMDiffTells1
import Derived.Test.YtcfphieogalnbaaGreatDoorMDiffTells8
import Derived.RegionTactic
import Derived.BigRegion
import Derived.ChangeAlike
import Derived.Deep.QuietTactic
import Derived.BigQuiet
import Derived.Deep.RegionHeld3
import Derived.Test.YtcfphieogalnbaaGreatDoorMDiffTells6
import Derived.Test.YtcfphieogalnbaaGreatDoorMDiffTells3
import Derived.Test.YtcfphieogalnbaaGreatDoorMDiffTells7
section
namespace Go.Proofs.YtcfphieogalnbaaGreatDoor.Q
open Go.Proofs.YtcfphieogalnbaaGreatDoor.QB.D
open Go Go.RowKit Go.Lib Go.Proofs.YtcfphieogalnbaaGreatDoorW.PrintWords Go.Proofs.YtcfphieogalnbaaGreatDoorW.PrintLast Go.Proofs.YtcfphieogalnbaaGreatDoorW.PrintMore Gw Go.Proofs.YtcfphieogalnbaaGreatDoor.QB.D
set_option linter.unusedVariables false
set_option linter.unusedSimpArgs false
/-- A slice of texts, by its cells. -/
def FSr (A : Option Addr) (xs : List ByteArray) (w : World) : Prop := ∀ i (hi : i < xs.length), ∃ g, A = some ⟨g, 0, none⟩ ∧ g < w.heap.size ∧ w.cell? ⟨g, i, none⟩ = some (.string (xs[i]))
theorem FSr.below {A : Option Addr} {xs : List ByteArray} {w w' : World} {b : Nat} (h : FSr A xs w) (hb : Below b w w') (hw : w.heap.size ≤ b) : FSr A xs w' := fun i hi => by
  obtain ⟨g, rfl, h1, h2⟩ := h i hi
  exact ⟨g, rfl, Nat.lt_of_lt_of_le h1 hb.size, (hb.cell (p := ⟨g, i, none⟩) (by simp; omega)).trans h2⟩
theorem FSr_of_R {w : World} {base : Nat} {u : Value} {xs : List ByteArray} (h : Kd.R Kd.string 9 w base (fun _ => True) u xs) : ∃ A c, u = .slice A xs.length c ∧ FSr A xs w := by
  obtain ⟨A, c, rfl⟩ := Kd.R_slice h
  refine ⟨A, c, rfl, fun i hi => ?_⟩
  obtain ⟨g, c', e, h1, h2, h3⟩ := vR_cells h (by omega)
  injection e with e
  exact ⟨g, e, h2, h3 i hi⟩
set_option maxHeartbeats 4000000 in
set_option maxRecDepth 100000 in
theorem rcmp_go (a b : ByteArray) (x0 x1 x2 : ByteArray) (xp : List ByteArray) (y0 y1 y2 : ByteArray) (yp : List ByteArray)
    (hx : graftwoodref03_Split.f a = some (x0, x1, x2, xp, true)) (hy : graftwoodref03_Split.f b = some (y0, y1, y2, yp, true))
    (K : Nat) (n0 n1 n2 : Int) (h0 : graftwoodref02_Cmp.f K x0 y0 = some n0) (h1 : graftwoodref02_Cmp.f K x1 y1 = some n1) (h2 : graftwoodref02_Cmp.f K x2 y2 = some n2)
    (hw : ∀ i (hi : i < xp.length) (hj : i < yp.length), graftwoodref03_words.f K xp[i] yp[i] = some (wordC (bs xp[i]) (bs yp[i])))
    (hlx : (xp.length : Int) ≤ 4398046511110) (hly : (yp.length : Int) ≤ 4398046511110)
    (r : Int) (hr : r = orI n0 (orI n1 (orI n2 (preC (xp.map bs) (yp.map bs)))))
    (w : World) : Calls Tryz.prog 45 #[.string a, .string b] w fun e w' => e = .returned (.int .i64 r) ∧ Below w.heap.size w w' := by
  have HW := Aside0.mk hw
  have HR := Aside0.mk hr
  have C0 := fun w => graftwoodref02_Cmp.calls K x0 y0 n0 w h0
  have C1 := fun w => graftwoodref02_Cmp.calls K x1 y1 n1 w h1
  have C2 := fun w => graftwoodref02_Cmp.calls K x2 y2 n2 w h2
  have hu49 := Tryz.underlying65
  clear hw hr h0 h1 h2
  go_enter Tryz.func45, Tryz.ntmps45
  go_wp2_with fail
  refine (graftwoodref03_Split.calls _ _ _ _ _ _ _ hx).mono ?_
  rintro e w1 ⟨u, rfl, hR, hb⟩
  obtain ⟨A, c, rfl, hF⟩ := FSr_of_R hR
  have HB := Aside0.mk hb
  have HF := Aside0.mk hF
  clear hb hF hR hx
  go_wp2_with fail
  refine (graftwoodref03_Split.calls _ _ _ _ _ _ _ hy).mono ?_
  rintro e w2 ⟨u, rfl, hR, hb⟩
  obtain ⟨A2, c2, rfl, hF⟩ := FSr_of_R hR
  have b12 : Below w1.heap.size w1 w2 := (by repeat (with_reducible first | exact Below.refl _ _ | refine below_set ?_ (by simp) | refine below_alloc ?_ _) : Below w1.heap.size w1 _).trans (hb.mono (by simp))
  have hz : w1.heap.size < w2.heap.size := by have := hb.size; simp at this; omega
  have q0 : w2.cell? ⟨w1.heap.size, 0, none⟩ = some (.string x0) := (hb.cell (p := ⟨w1.heap.size, 0, none⟩) (by simp)).trans (by simp [go_sem])
  have q1 : w2.cell? ⟨w1.heap.size, 1, none⟩ = some (.string x1) := (hb.cell (p := ⟨w1.heap.size, 1, none⟩) (by simp)).trans (by simp [go_sem])
  have q2 : w2.cell? ⟨w1.heap.size, 2, none⟩ = some (.string x2) := (hb.cell (p := ⟨w1.heap.size, 2, none⟩) (by simp)).trans (by simp [go_sem])
  have q3 : w2.cell? ⟨w1.heap.size, 3, none⟩ = some (.slice A xp.length c) := (hb.cell (p := ⟨w1.heap.size, 3, none⟩) (by simp)).trans (by simp [go_sem])
  clear hR hb
  have HF2 := Aside0.mk hF
  clear hF hy
  go_wp2_with fail
  generalize hW : w2.alloc (.cells #[.string y0, .string y1, .string y2, .slice A2 yp.length c2] 65 (0, 0)) = w3
  have g0 : w3.cell? ⟨w1.heap.size, 0, none⟩ = some (.string x0) := by rw [← hW]; exact Lib.cell?_alloc_some _ q0
  have g1 : w3.cell? ⟨w1.heap.size, 1, none⟩ = some (.string x1) := by rw [← hW]; exact Lib.cell?_alloc_some _ q1
  have g2 : w3.cell? ⟨w1.heap.size, 2, none⟩ = some (.string x2) := by rw [← hW]; exact Lib.cell?_alloc_some _ q2
  have g3 : w3.cell? ⟨w1.heap.size, 3, none⟩ = some (.slice A xp.length c) := by rw [← hW]; exact Lib.cell?_alloc_some _ q3
  have k0 : w3.cell? ⟨w2.heap.size, 0, none⟩ = some (.string y0) := by rw [← hW]; simp [go_sem]
  have k1 : w3.cell? ⟨w2.heap.size, 1, none⟩ = some (.string y1) := by rw [← hW]; simp [go_sem]
  have k2 : w3.cell? ⟨w2.heap.size, 2, none⟩ = some (.string y2) := by rw [← hW]; simp [go_sem]
  have k3 : w3.cell? ⟨w2.heap.size, 3, none⟩ = some (.slice A2 yp.length c2) := by rw [← hW]; simp [go_sem]
  have hz3 : w3.heap.size = w2.heap.size + 1 := by rw [← hW]; simp
  have hB3 : Below w1.heap.size w1 w3 := by rw [← hW]; exact b12.trans (((Below.refl _ _).alloc (Nat.le_refl _) _).mono (by omega))
  have HF3 : Aside0 (FSr A xp w3) := ⟨HF.out.below hB3 (Nat.le_refl _)⟩
  have HF4 : Aside0 (FSr A2 yp w3) := ⟨HF2.out.below (b := w2.heap.size) (by rw [← hW]; exact (Below.refl _ _).alloc (Nat.le_refl _) _) (Nat.le_refl _)⟩
  have HB3 : Aside0 (Below w.heap.size w w3) := ⟨HB.out.trans (hB3.mono HB.out.size)⟩
  clear HF HF2 HB hB3 b12 q0 q1 q2 q3 hW
  have h13 : w1.heap.size < w3.heap.size := by omega
  have h23 : w2.heap.size < w3.heap.size := by omega
  have mixed : Tryz.prog.follows Departure.mixedOrders = true := by kernel_rfl
  have KS : ∀ w', Below w3.heap.size w3 w' → (fun w' => Below w3.heap.size w3 w' ∧ w'.cell? ⟨w1.heap.size, 0, none⟩ = some (.string x0) ∧ w'.cell? ⟨w1.heap.size, 1, none⟩ = some (.string x1) ∧ w'.cell? ⟨w1.heap.size, 2, none⟩ = some (.string x2) ∧ w'.cell? ⟨w1.heap.size, 3, none⟩ = some (.slice A xp.length c) ∧ w'.cell? ⟨w2.heap.size, 0, none⟩ = some (.string y0) ∧ w'.cell? ⟨w2.heap.size, 1, none⟩ = some (.string y1) ∧ w'.cell? ⟨w2.heap.size, 2, none⟩ = some (.string y2) ∧ w'.cell? ⟨w2.heap.size, 3, none⟩ = some (.slice A2 yp.length c2)) w' := fun w' h =>
    ⟨h, (h.cell (p := ⟨w1.heap.size, 0, none⟩) h13).trans g0, (h.cell (p := ⟨w1.heap.size, 1, none⟩) h13).trans g1, (h.cell (p := ⟨w1.heap.size, 2, none⟩) h13).trans g2, (h.cell (p := ⟨w1.heap.size, 3, none⟩) h13).trans g3, (h.cell (p := ⟨w2.heap.size, 0, none⟩) h23).trans k0, (h.cell (p := ⟨w2.heap.size, 1, none⟩) h23).trans k1, (h.cell (p := ⟨w2.heap.size, 2, none⟩) h23).trans k2, (h.cell (p := ⟨w2.heap.size, 3, none⟩) h23).trans k3⟩
  have KE0 := KS w3 (Below.refl _ _)
  obtain ⟨_, e0_, e1_, e2_, e3_, f0_, f1_, f2_, f3_⟩ := KE0
  with_reducible refine (C0 _).mono ?_
  rintro e v0 ⟨rfl, hb9⟩
  have HB0 : Aside0 (Below w3.heap.size w3 v0) := ⟨hb9⟩
  clear hb9 e0_ e1_ e2_ e3_ f0_ f1_ f2_ f3_
  cases hc0 : (n0 != 0)
  case true =>
    have hz9 : n0 ≠ 0 := by simpa using hc0
    go_wp2
    go_ret
    exact ⟨by rw [HR.out, orI, if_neg hz9]; rfl, HB3.out.trans (HB0.out.mono HB3.out.size)⟩
  have HN0 : Aside0 (n0 = 0) := ⟨by simpa using hc0⟩
  have KE1 := KS v0 (HB0.out)
  obtain ⟨_, e0_, e1_, e2_, e3_, f0_, f1_, f2_, f3_⟩ := KE1
  go_wp2_with fail
  with_reducible refine (C1 _).mono ?_
  rintro e v1 ⟨rfl, hb9⟩
  have HB1 : Aside0 (Below w3.heap.size w3 v1) := ⟨HB0.out.trans (hb9.mono HB0.out.size)⟩
  clear hb9 e0_ e1_ e2_ e3_ f0_ f1_ f2_ f3_
  cases hc1 : (n1 != 0)
  case true =>
    have hz9 : n1 ≠ 0 := by simpa using hc1
    go_wp2
    go_ret
    exact ⟨by rw [HR.out, orI, if_pos HN0.out, orI, if_neg hz9]; rfl, HB3.out.trans (HB1.out.mono HB3.out.size)⟩
  have HN1 : Aside0 (n1 = 0) := ⟨by simpa using hc1⟩
  have KE2 := KS v1 (HB1.out)
  obtain ⟨_, e0_, e1_, e2_, e3_, f0_, f1_, f2_, f3_⟩ := KE2
  go_wp2_with fail
  with_reducible refine (C2 _).mono ?_
  rintro e v2 ⟨rfl, hb9⟩
  have HB2 : Aside0 (Below w3.heap.size w3 v2) := ⟨HB1.out.trans (hb9.mono HB1.out.size)⟩
  clear hb9 e0_ e1_ e2_ e3_ f0_ f1_ f2_ f3_
  cases hc2 : (n2 != 0)
  case true =>
    have hz9 : n2 ≠ 0 := by simpa using hc2
    go_wp2
    go_ret
    exact ⟨by rw [HR.out, orI, if_pos HN0.out, orI, if_pos HN1.out, orI, if_neg hz9]; rfl, HB3.out.trans (HB2.out.mono HB3.out.size)⟩
  have HN2 : Aside0 (n2 = 0) := ⟨by simpa using hc2⟩
  have HR2 : Aside0 (r = preC (xp.map bs) (yp.map bs)) := ⟨by rw [HR.out, orI, if_pos HN0.out, orI, if_pos HN1.out, orI, if_pos HN2.out]⟩
  have FX := Aside0.mk (HF3.out.below HB2.out (Nat.le_refl _))
  have FY := Aside0.mk (HF4.out.below HB2.out (Nat.le_refl _))
  obtain ⟨_, _, _, _, m3, _, _, _, m4⟩ := KS v2 HB2.out
  have HB4 : Aside0 (Below w.heap.size w v2) := ⟨HB3.out.trans (HB2.out.mono HB3.out.size)⟩
  have hz14 : w1.heap.size < v2.heap.size := Nat.lt_of_lt_of_le h13 HB2.out.size
  have hz24 : w2.heap.size < v2.heap.size := Nat.lt_of_lt_of_le h23 HB2.out.size
  clear HR HB0 HB1 HB2 HB3 HF3 HF4 g0 g1 g2 g3 k0 k1 k2 k3 hz3 hz KS C0 C1 C2 HN0 HN1 HN2 h13 h23
  cases lx : ((xp.length : Int) == 0)
  · have nx : xp.length ≠ 0 := fun h => by rw [h] at lx; exact absurd lx (by decide)
    cases ly : ((yp.length : Int) == 0)
    · have ny : yp.length ≠ 0 := fun h => by rw [h] at ly; exact absurd ly (by decide)
      have hpc : preC (xp.map bs) (yp.map bs) = wordsC (xp.map bs) (yp.map bs) := by
        unfold preC
        rw [if_neg]
        rintro (h | h)
        · rw [List.map_eq_nil_iff] at h
          subst h
          exact nx rfl
        · rw [List.map_eq_nil_iff] at h
          subst h
          exact ny rfl
      have HPC := Aside0.mk (HR2.out.trans hpc)
      clear hpc
      go_wp2_with fail
      go_quiet (fail)
      go_wp2_with fail
      go_loopw [14] (fun v14 wr => ∃ i : Nat, i ≤ xp.length ∧ i ≤ yp.length ∧ v14 = .int .i64 (i : Int) ∧ Aside0 (Below v2.heap.size v2 wr) ∧ Aside0 (wordsC (xp.map bs) (yp.map bs) = wordsC ((xp.drop i).map bs) ((yp.drop i).map bs))) (fun v14 _ => xp.length - (RowKit.intOf v14).toNat)
      case atStart => exact ⟨0, Nat.zero_le _, Nat.zero_le _, rfl, ⟨by repeat (with_reducible first | exact Below.refl _ _ | refine pw_below_drewN ?_ _ | refine below_drew ?_)⟩, ⟨rfl⟩⟩
      case round =>
        obtain ⟨i, hi, hi2, rfl, HWr, HA⟩ := hrel
        have r3 : wr.cell? ⟨w1.heap.size, 3, none⟩ = some (.slice A xp.length c) := (HWr.out.cell (p := ⟨w1.heap.size, 3, none⟩) hz14).trans m3
        have r4 : wr.cell? ⟨w2.heap.size, 3, none⟩ = some (.slice A2 yp.length c2) := (HWr.out.cell (p := ⟨w2.heap.size, 3, none⟩) hz24).trans m4
        by_cases hl : i < xp.length ∧ i < yp.length
        · obtain ⟨hl1, hl2⟩ := hl
          have FXr := FX.out.below HWr.out (Nat.le_refl _)
          have FYr := FY.out.below HWr.out (Nat.le_refl _)
          obtain ⟨g, rfl, hg1, hg2⟩ := FXr i hl1
          obtain ⟨g', rfl, hg3, hg4⟩ := FYr i hl2
          have hd1 : xp.drop i = xp[i] :: xp.drop (i + 1) := List.drop_eq_getElem_cons hl1
          have hd2 : yp.drop i = yp[i] :: yp.drop (i + 1) := List.drop_eq_getElem_cons hl2
          have hA2 := HA.out
          rw [hd1, hd2, List.map_cons, List.map_cons] at hA2
          have CW := fun w => graftwoodref03_words.calls K xp[i] yp[i] _ w (HW.out i hl1 hl2)
          obtain ⟨cv, hcv⟩ : ∃ cv, cv = wordC (bs xp[i]) (bs yp[i]) := ⟨_, rfl⟩
          have hA3 : wordsC (xp.map bs) (yp.map bs) = orI cv (wordsC ((xp.drop (i + 1)).map bs) ((yp.drop (i + 1)).map bs)) := by rw [hA2, hcv]; rfl
          have HA3 := Aside0.mk hA3
          rw [← hcv] at CW
          generalize xp[i] = px at CW hg2
          generalize yp[i] = py at CW hg4
          have j1 : (i : Int) < (xp.length : Int) := by omega
          have j2 : (i : Int) < (yp.length : Int) := by omega
          have jd1 : decide ((i : Int) < (xp.length : Int)) = true := decide_eq_true j1
          have jd2 : decide ((i : Int) < (yp.length : Int)) = true := decide_eq_true j2
          clear hA2 hA3 hcv hd1 hd2 FXr FYr
          have KS : ∀ w', Below wr.heap.size wr w' → Below wr.heap.size wr w' ∧ w'.cell? ⟨w1.heap.size, 3, none⟩ = some (.slice (some ⟨g, 0, none⟩) xp.length c) ∧ w'.cell? ⟨w2.heap.size, 3, none⟩ = some (.slice (some ⟨g', 0, none⟩) yp.length c2) ∧ w'.cell? ⟨g, i, none⟩ = some (.string px) ∧ w'.cell? ⟨g', i, none⟩ = some (.string py) := fun w' h =>
            ⟨h, (h.cell (p := ⟨w1.heap.size, 3, none⟩) (Nat.lt_of_lt_of_le hz14 HWr.out.size)).trans r3, (h.cell (p := ⟨w2.heap.size, 3, none⟩) (Nat.lt_of_lt_of_le hz24 HWr.out.size)).trans r4, (h.cell (p := ⟨g, i, none⟩) hg1).trans hg2, (h.cell (p := ⟨g', i, none⟩) hg3).trans hg4⟩
          go_wp2_with fail
          go_region_held3 (fun w' => Below wr.heap.size wr w' ∧ w'.cell? ⟨w1.heap.size, 3, none⟩ = some (.slice (some ⟨g, 0, none⟩) xp.length c) ∧ w'.cell? ⟨w2.heap.size, 3, none⟩ = some (.slice (some ⟨g', 0, none⟩) yp.length c2) ∧ w'.cell? ⟨g, i, none⟩ = some (.string px) ∧ w'.cell? ⟨g', i, none⟩ = some (.string py))
            (first
              | exact KS _ (below_drew (Below.refl _ _))
              | exact KS _ ((And.left ‹Below wr.heap.size wr _ ∧ _›).trans (hb9.mono (And.left ‹Below wr.heap.size wr _ ∧ _›).size))
              | exact KS _ (And.left ‹Below wr.heap.size wr _ ∧ _›))
            (first
              | (go_at_call 56; with_reducible refine (CW _).mono ?_; rintro e w'' ⟨rfl, hb9⟩))
          have hB9 := And.left ‹Below wr.heap.size wr _ ∧ _›
          have HB9 : Aside0 (Below v2.heap.size v2 w'') := ⟨HWr.out.trans (hB9.mono HWr.out.size)⟩
          have HB8 : Aside0 (Below w.heap.size w w'') := ⟨HB4.out.trans (HB9.out.mono HB4.out.size)⟩
          clear hB9 hb9 KS r3 r4 hg2 hg4
          rename_i hHeldZ
          clear hHeldZ
          cases hc0 : (cv != 0)
          · have hz : cv = 0 := by simpa using hc0
            go_wp2
            go_roundw
            case rel => exact ⟨i + 1, by omega, by omega, by go_num, HB9, ⟨by rw [HA3.out, hz]; rfl⟩⟩
            case measure => simp [RowKit.intOf]; omega
          · have hz : cv ≠ 0 := by simpa using hc0
            go_wp2
            go_ret
            exact ⟨by rw [HPC.out, HA3.out, orI, if_neg hz]; rfl, HB8.out⟩
        · have hval : wordsC (xp.map bs) (yp.map bs) = cmpN xp.length yp.length := by
            rw [HA.out]
            by_cases e1 : i = xp.length
            · rw [List.drop_of_length_le (by omega)]
              by_cases e2 : i = yp.length
              · rw [List.drop_of_length_le (by omega), ← e1, ← e2]; simp [wordsC, cmpN]
              · rw [List.drop_eq_getElem_cons (show i < yp.length by omega)]
                simp only [List.map_nil, List.map_cons, wordsC, cmpN]
                rw [if_pos (by omega)]
            · have e2 : i = yp.length := by omega
              rw [List.drop_eq_getElem_cons (show i < xp.length by omega), List.drop_of_length_le (show yp.length ≤ i by omega)]
              simp only [List.map_nil, List.map_cons, wordsC, cmpN]
              rw [if_neg (by omega), if_pos (by omega)]
          have HV := Aside0.mk hval
          have HB8 : Aside0 (Below w.heap.size w wr) := ⟨HB4.out.trans (HWr.out.mono HB4.out.size)⟩
          clear hval
          by_cases a1 : i < xp.length
          · have jd1 : decide ((i : Int) < (xp.length : Int)) = true := decide_eq_true (by omega)
            have jd2 : decide ((i : Int) < (yp.length : Int)) = false := decide_eq_false (by omega)
            have kd1 : decide ((xp.length : Int) < (yp.length : Int)) = false := decide_eq_false (by omega)
            have kd2 : decide ((yp.length : Int) < (xp.length : Int)) = true := decide_eq_true (by omega)
            have hv2 : cmpN xp.length yp.length = 1 := by unfold cmpN; rw [if_neg (by omega), if_pos (by omega)]
            go_wp2
            go_ret
            exact ⟨by rw [HPC.out, HV.out, hv2]; rfl, HB8.out⟩
          · have jd1 : decide ((i : Int) < (xp.length : Int)) = false := decide_eq_false (by omega)
            by_cases a2 : xp.length < yp.length
            · have kd1 : decide ((xp.length : Int) < (yp.length : Int)) = true := decide_eq_true (by omega)
              have hv2 : cmpN xp.length yp.length = -1 := by unfold cmpN; rw [if_pos (by omega)]
              go_wp2
              go_ret
              exact ⟨by rw [HPC.out, HV.out, hv2]; rfl, HB8.out⟩
            · have kd1 : decide ((xp.length : Int) < (yp.length : Int)) = false := decide_eq_false (by omega)
              have kd2 : decide ((yp.length : Int) < (xp.length : Int)) = false := decide_eq_false (by omega)
              have hv2 : cmpN xp.length yp.length = 0 := by unfold cmpN; rw [if_neg (by omega), if_neg (by omega)]
              go_wp2
              go_ret
              exact ⟨by rw [HPC.out, HV.out, hv2]; rfl, HB8.out⟩
    · have ny : yp = [] := List.length_eq_zero_iff.1 (by simpa using ly)
      have HPC : Aside0 (r = -1) := ⟨by rw [HR2.out]; unfold preC; rw [if_pos (Or.inr (by rw [ny]; rfl)), List.length_map, List.length_map, ny]; unfold cmpN; rw [if_pos (by simp; omega)]⟩
      clear ny HR2
      go_wp2_with fail
      go_quiet (fail)
      go_wp2
      go_ret
      exact ⟨by rw [HPC.out]; rfl, by repeat (with_reducible first | exact HB4.out | refine pw_below_drewN ?_ _ | refine below_drew ?_)⟩
  · have nx : xp = [] := List.length_eq_zero_iff.1 (by simpa using lx)
    cases ly : ((yp.length : Int) == 0)
    · have ny : yp.length ≠ 0 := fun h => by rw [h] at ly; exact absurd ly (by decide)
      have HPC : Aside0 (r = 1) := ⟨by rw [HR2.out]; unfold preC; rw [if_pos (Or.inl (by rw [nx]; rfl)), List.length_map, List.length_map, nx]; unfold cmpN; rw [if_neg (by simp), if_pos (by simp; omega)]⟩
      clear nx HR2
      go_wp2_with fail
      go_quiet (fail)
      go_wp2
      go_ret
      exact ⟨by rw [HPC.out]; rfl, by repeat (with_reducible first | exact HB4.out | refine pw_below_drewN ?_ _ | refine below_drew ?_)⟩
    · have ny : yp = [] := List.length_eq_zero_iff.1 (by simpa using ly)
      have HPC : Aside0 (r = 0) := ⟨by rw [HR2.out]; unfold preC; rw [if_pos (Or.inl (by rw [nx]; rfl)), List.length_map, List.length_map, nx, ny]; rfl⟩
      clear nx ny HR2
      go_wp2_with fail
      go_quiet (fail)
      go_wp2
      go_ret
      exact ⟨by rw [HPC.out]; rfl, by repeat (with_reducible first | exact HB4.out | refine pw_below_drewN ?_ _ | refine below_drew ?_)⟩
def graftwoodref03_Cmp.f (a0 a1 : ByteArray) : Option Int := if (Tiny a0 ∧ Tiny a1) ∧ isVersion (bs a0) = true ∧ isVersion (bs a1) = true then some (verC (vOf (bs a0)) (vOf (bs a1))) else none
theorem graftwoodref03_Cmp.calls (a0 a1 : ByteArray) (r : Int) (w : World) (h : graftwoodref03_Cmp.f a0 a1 = some r) :
    Calls Tryz.prog 45 #[.string a0, .string a1] w fun e w' => e = .returned (.int .i64 r) ∧ Below w.heap.size w w' := by
  unfold graftwoodref03_Cmp.f at h
  split at h
  case isFalse => cases h
  case isTrue hc =>
    obtain ⟨⟨ht0, ht1⟩, hv0, hv1⟩ := hc
    unfold Tiny at ht0 ht1
    rw [← vparts_some] at hv0 hv1
    obtain ⟨⟨p, q, s, l⟩, h0⟩ := Option.isSome_iff_exists.1 hv0
    obtain ⟨⟨p', q', s', l'⟩, h1⟩ := Option.isSome_iff_exists.1 hv1
    have f0 : graftwoodref03_Split.f a0 = some (ofB p, ofB q, ofB s, l.map ofB, true) := by unfold graftwoodref03_Split.f; rw [if_pos (by unfold Small; omega), split_some _ _ _ _ _ h0]
    have f1 : graftwoodref03_Split.f a1 = some (ofB p', ofB q', ofB s', l'.map ofB, true) := by unfold graftwoodref03_Split.f; rw [if_pos (by unfold Small; omega), split_some _ _ _ _ _ h1]
    obtain ⟨⟨n0, n1, n2⟩, o0, l0, _⟩ := vparts_facts (bs_oct a0) h0
    obtain ⟨⟨m0, m1, m2⟩, o1, l1, _⟩ := vparts_facts (bs_oct a1) h1
    rw [bs_length] at l0 l1 o0 o1
    have e0 : ∀ t ∈ p :: q :: s :: l, bs (ofB t) = t ∧ Small (ofB t) ∧ (ofB t).size ≤ 4294967281 := fun t ht => by
      have hz : (ofB t).size = t.length := by rw [← bs_length, bs_ofB (o0 t ht).1]
      have := (o0 t ht).2
      exact ⟨bs_ofB (o0 t ht).1, by unfold Small; omega, by omega⟩
    have e1 : ∀ t ∈ p' :: q' :: s' :: l', bs (ofB t) = t ∧ Small (ofB t) ∧ (ofB t).size ≤ 4294967281 := fun t ht => by
      have hz : (ofB t).size = t.length := by rw [← bs_length, bs_ofB (o1 t ht).1]
      have := (o1 t ht).2
      exact ⟨bs_ofB (o1 t ht).1, by unfold Small; omega, by omega⟩
    have b0 := e0 p (by simp)
    have b1 := e0 q (by simp)
    have b2 := e0 s (by simp)
    have c0 := e1 p' (by simp)
    have c1 := e1 q' (by simp)
    have c2 := e1 s' (by simp)
    have hl0 : (l.map ofB).map bs = l := by
      rw [List.map_map]
      exact (List.map_congr_left fun t ht => (e0 t (by simp [ht])).1).trans (List.map_id _)
    have hl1 : (l'.map ofB).map bs = l' := by
      rw [List.map_map]
      exact (List.map_congr_left fun t ht => (e1 t (by simp [ht])).1).trans (List.map_id _)
    have hv : ∀ {x : List Nat} {v : VP}, vparts x = some v → vOf x = v := fun {x v} h => by unfold vOf; rw [h]; rfl
    rw [hv h0, hv h1] at h
    refine rcmp_go a0 a1 (ofB p) (ofB q) (ofB s) (l.map ofB) (ofB p') (ofB q') (ofB s') (l'.map ofB) f0 f1 17179869184 (numC p p') (numC q q') (numC s s')
      (by have := rnum_val (ofB p) (ofB p') b0.2.1 c0.2.1 (by rw [b0.1]; exact n0) (by rw [c0.1]; exact m0) 17179869184 (by omega); rwa [b0.1, c0.1] at this)
      (by have := rnum_val (ofB q) (ofB q') b1.2.1 c1.2.1 (by rw [b1.1]; exact n1) (by rw [c1.1]; exact m1) 17179869184 (by omega); rwa [b1.1, c1.1] at this)
      (by have := rnum_val (ofB s) (ofB s') b2.2.1 c2.2.1 (by rw [b2.1]; exact n2) (by rw [c2.1]; exact m2) 17179869184 (by omega); rwa [b2.1, c2.1] at this)
      (fun i hi hj => by
        have g0 : (l.map ofB)[i] ∈ l.map ofB := List.getElem_mem _
        have g1 : (l'.map ofB)[i] ∈ l'.map ofB := List.getElem_mem _
        obtain ⟨t0, ht0, hh0⟩ := List.mem_map.1 g0
        obtain ⟨t1, ht1, hh1⟩ := List.mem_map.1 g1
        have k0 := (e0 t0 (by simp [ht0])).2
        have k1 := (e1 t1 (by simp [ht1])).2
        rw [hh0] at k0
        rw [hh1] at k1
        exact rwords_val _ _ k0.1 k1.1 _ (by omega))
      (by rw [List.length_map]; omega) (by rw [List.length_map]; omega) r ?_ w
    rw [← Option.some.inj h, hl0, hl1, preC_eq]
    rfl
end Go.Proofs.YtcfphieogalnbaaGreatDoor.Q
end

section
namespace Go.Proofs.YtcfphieogalnbaaGreatDoor.Q
open Go.RowKit Go.Proofs.YtcfphieogalnbaaGreatDoorW.PrintWords Go.Proofs.YtcfphieogalnbaaGreatDoorW.PrintLast Go.Proofs.YtcfphieogalnbaaGreatDoorW.PrintMore
attribute [local go_sem] max2_int min2_int max_two min_two max_three min_three max_four min_four   -- for this text's walks alone
set_option linter.unusedVariables false
set_option linter.unusedSimpArgs false
/-! ### graftwoodref05_Less: function 32 -/
def graftwoodref05_Less.f (k : Nat) (a0_0 : ByteArray) (a0_1 : ByteArray) (a1_0 : ByteArray) (a1_1 : ByteArray) : Option (Bool) := (graftwoodref01_Cmp.f k a0_0 a1_0).bind fun t250 => (if t250 < 0 then (some true) else (if t250 = 0 then ((graftwoodref03_Cmp.f a0_1 a1_1).bind fun t251 => (some (decide (t251 < 0)))) else (some false)))
set_option maxHeartbeats 8000000 in
set_option maxRecDepth 100000 in
theorem graftwoodref05_Less.calls (k : Nat) (a0_0 : ByteArray) (a0_1 : ByteArray) (a1_0 : ByteArray) (a1_1 : ByteArray) (r : Bool) (w : World) (h : graftwoodref05_Less.f k a0_0 a0_1 a1_0 a1_1 = some r) :
    Calls Tryz.prog 32 #[.agg #[.string a0_0, .string a0_1], .agg #[.string a1_0, .string a1_1]] w fun e w' => e = .returned (.bool r) ∧ Below w.heap.size w w' := by
  have hu24 := Tryz.underlying24
  have HB := Aside0.mk (Below.refl w.heap.size w)
  have H : ((graftwoodref01_Cmp.f k a0_0 a1_0).bind fun t250 => (if t250 < 0 then (some true) else (if t250 = 0 then ((graftwoodref03_Cmp.f a0_1 a1_1).bind fun t251 => (some (decide (t251 < 0)))) else (some false)))) = some r := h
  clear h
  replace H := Option.bind_eq_some_iff.mp H
  obtain ⟨t250, A30, H⟩ := H
  replace H : (if t250 < 0 then (some true) else (if t250 = 0 then ((graftwoodref03_Cmp.f a0_1 a1_1).bind fun t251 => (some (decide (t251 < 0)))) else (some false))) = some r := H
  have A3 := Aside0.mk A30
  clear A30
  by_cases c4 : t250 < 0
  · rw [if_pos c4] at H
    have c4b0 : decide (t250 < 0) = true := decide_eq_true c4
    clear c4
    obtain rfl := Option.some.inj H
    go_enter Tryz.func32, Tryz.ntmps32
    go_wp2_with (first | ((with_reducible refine gate_dst (N := 2) rfl ?_); refine box_event ?hg (N := 2) ?hd (cs := #[.string a0_0, .string a0_1]) (t := 24) ?hr ?_; (case hd => rfl); (case hg => rfl); (case hr => first | (go_simp; done) | (go_simp; rfl)); intro gb248 hg w5 hbox hb; have n0_ := Aside0.mk (below_step (by repeat (first | (with_reducible first | exact HB.out | apply below_alloc | apply pw_below_drewN | apply below_drew1) | exact HB.out)) hb); have n1_ := Aside0.mk (hbox); have n2_ := Aside0.mk ((by rw [hg]; exact (below_size (by repeat (first | (with_reducible first | exact HB.out | apply below_alloc | apply pw_below_drewN | apply below_drew1) | exact HB.out))) : w.heap.size ≤ gb248)); have n3_ := Aside0.mk ((by rw [hg]; exact (below_size (by repeat (first | (with_reducible first | exact HB.out | apply below_alloc | apply pw_below_drewN | apply below_drew1) | exact HB.out))) : w.heap.size ≤ gb248)); clear HB; have HB := n0_; have BK248 := n1_; have GW248 := n2_; have GE248 := n3_; clear n0_ n1_ n2_ n3_; clear hb hbox hg) | ((with_reducible refine gate_dst (N := 3) rfl ?_); refine box_event ?hg (N := 3) ?hd (cs := #[.string a1_0, .string a1_1]) (t := 24) ?hr ?_; (case hd => rfl); (case hg => rfl); (case hr => first | (go_simp; done) | (go_simp; rfl)); intro gb249 hg w6 hbox hb; have n0_ := Aside0.mk (blk_below (g := gb248) (o := .cells #[.string a0_0, .string a0_1] 24 (0, 0)) (by (with_reducible repeat (first | refine blk_drewN ?_ _ | refine blk_drew ?_ | refine blk_alloc ?_ _)); exact BK248.out) hb); have n1_ := Aside0.mk (below_step (by repeat (first | (with_reducible first | exact HB.out | apply below_alloc | apply pw_below_drewN | apply below_drew1 | refine below_set ?_ GE248.out) | exact HB.out)) hb); have n2_ := Aside0.mk (hbox); have n3_ := Aside0.mk ((by rw [hg]; exact (below_size (by repeat (first | (with_reducible first | exact HB.out | apply below_alloc | apply pw_below_drewN | apply below_drew1 | refine below_set ?_ GE248.out) | exact HB.out))) : w.heap.size ≤ gb249)); have n4_ := Aside0.mk ((by rw [hg]; exact (below_size (by repeat (first | (with_reducible first | exact HB.out | apply below_alloc | apply pw_below_drewN | apply below_drew1 | refine below_set ?_ GE248.out) | exact HB.out))) : w.heap.size ≤ gb249)); have n5_ := Aside0.mk ((by rw [hg]; exact Nat.ne_of_lt (blk_lt (g := gb248) (o := .cells #[.string a0_0, .string a0_1] 24 (0, 0)) (by (with_reducible repeat (first | refine blk_drewN ?_ _ | refine blk_drew ?_ | refine blk_alloc ?_ _)); exact BK248.out)) : gb248 ≠ gb249)); have n6_ := Aside0.mk ((by rw [hg]; exact Nat.ne_of_gt (blk_lt (g := gb248) (o := .cells #[.string a0_0, .string a0_1] 24 (0, 0)) (by (with_reducible repeat (first | refine blk_drewN ?_ _ | refine blk_drew ?_ | refine blk_alloc ?_ _)); exact BK248.out)) : gb249 ≠ gb248)); clear BK248; clear HB; have BK248 := n0_; have HB := n1_; have BK249 := n2_; have GW249 := n3_; have GE249 := n4_; have NB248_249 := n5_; have NB249_248 := n6_; clear n0_ n1_ n2_ n3_ n4_ n5_ n6_; clear hb hbox hg; have hnb7 := NB248_249.out; have hnc7 := NB249_248.out; have hcz8_0 : w6.cell? ⟨gb248, 0, none⟩ = some (.string a0_0) := (blk_cell BK248.out 0).trans rfl; have hcz8_1 : w6.cell? ⟨gb248, 1, none⟩ = some (.string a0_1) := (blk_cell BK248.out 1).trans rfl; have hfz8_0 := blk_frozen BK248.out 0; have hfz8_1 := blk_frozen BK248.out 1; have hcz9_0 : w6.cell? ⟨gb249, 0, none⟩ = some (.string a1_0) := (blk_cell BK249.out 0).trans rfl; have hcz9_1 : w6.cell? ⟨gb249, 1, none⟩ = some (.string a1_1) := (blk_cell BK249.out 1).trans rfl; have hfz9_0 := blk_frozen BK249.out 0; have hfz9_1 := blk_frozen BK249.out 1) | ((with_reducible refine gate_callee (f := 44) rfl ?_); refine goesL_ (some 10) rfl rfl Tryz.func44 (by kernel_rfl) rfl #[.string a0_0, .string a1_0] rfl (by (try simp only [List.map_toArray, List.map_cons, List.map_nil]); first | done | rfl | (simp only [List.length_drop, List.length_take]; rfl)) ?_; (with_reducible refine (graftwoodref01_Cmp.calls k a0_0 a1_0 t250 _ A3.out).mono ?_); rintro e w' ⟨rfl, ⟨nd, rfl⟩⟩; refine ⟨_, rfl, ?_⟩))
    go_ret
    exact ⟨by first | rfl | (simp [errW_none, errW_some] <;> rfl) | (simp [*, errW_none, errW_some] <;> rfl), by repeat (first | (with_reducible first | exact HB.out | apply below_alloc | apply pw_below_drewN | apply below_drew1 | refine below_set ?_ GE248.out | refine below_set ?_ GE249.out) | exact HB.out)⟩
  · rw [if_neg c4] at H
    have c4b0 : decide (t250 < 0) = false := decide_eq_false c4
    clear c4
    by_cases c10 : t250 = 0
    · rw [if_pos c10] at H
      have c10b0 : (t250 == 0) = true := beq_iff_eq.mpr c10
      have c10b1 : (t250 != 0) = false := bne_eq_false_iff_eq.mpr c10
      clear c10
      replace H := Option.bind_eq_some_iff.mp H
      obtain ⟨t251, A110, H⟩ := H
      replace H : (some (decide (t251 < 0))) = some r := H
      have A11 := Aside0.mk A110
      clear A110
      obtain rfl := Option.some.inj H
      go_enter Tryz.func32, Tryz.ntmps32
      go_wp2_with (first | ((with_reducible refine gate_dst (N := 2) rfl ?_); refine box_event ?hg (N := 2) ?hd (cs := #[.string a0_0, .string a0_1]) (t := 24) ?hr ?_; (case hd => rfl); (case hg => rfl); (case hr => first | (go_simp; done) | (go_simp; rfl)); intro gb248 hg w12 hbox hb; have n0_ := Aside0.mk (below_step (by repeat (first | (with_reducible first | exact HB.out | apply below_alloc | apply pw_below_drewN | apply below_drew1) | exact HB.out)) hb); have n1_ := Aside0.mk (hbox); have n2_ := Aside0.mk ((by rw [hg]; exact (below_size (by repeat (first | (with_reducible first | exact HB.out | apply below_alloc | apply pw_below_drewN | apply below_drew1) | exact HB.out))) : w.heap.size ≤ gb248)); have n3_ := Aside0.mk ((by rw [hg]; exact (below_size (by repeat (first | (with_reducible first | exact HB.out | apply below_alloc | apply pw_below_drewN | apply below_drew1) | exact HB.out))) : w.heap.size ≤ gb248)); clear HB; have HB := n0_; have BK248 := n1_; have GW248 := n2_; have GE248 := n3_; clear n0_ n1_ n2_ n3_; clear hb hbox hg) | ((with_reducible refine gate_dst (N := 3) rfl ?_); refine box_event ?hg (N := 3) ?hd (cs := #[.string a1_0, .string a1_1]) (t := 24) ?hr ?_; (case hd => rfl); (case hg => rfl); (case hr => first | (go_simp; done) | (go_simp; rfl)); intro gb249 hg w13 hbox hb; have n0_ := Aside0.mk (blk_below (g := gb248) (o := .cells #[.string a0_0, .string a0_1] 24 (0, 0)) (by (with_reducible repeat (first | refine blk_drewN ?_ _ | refine blk_drew ?_ | refine blk_alloc ?_ _)); exact BK248.out) hb); have n1_ := Aside0.mk (below_step (by repeat (first | (with_reducible first | exact HB.out | apply below_alloc | apply pw_below_drewN | apply below_drew1 | refine below_set ?_ GE248.out) | exact HB.out)) hb); have n2_ := Aside0.mk (hbox); have n3_ := Aside0.mk ((by rw [hg]; exact (below_size (by repeat (first | (with_reducible first | exact HB.out | apply below_alloc | apply pw_below_drewN | apply below_drew1 | refine below_set ?_ GE248.out) | exact HB.out))) : w.heap.size ≤ gb249)); have n4_ := Aside0.mk ((by rw [hg]; exact (below_size (by repeat (first | (with_reducible first | exact HB.out | apply below_alloc | apply pw_below_drewN | apply below_drew1 | refine below_set ?_ GE248.out) | exact HB.out))) : w.heap.size ≤ gb249)); have n5_ := Aside0.mk ((by rw [hg]; exact Nat.ne_of_lt (blk_lt (g := gb248) (o := .cells #[.string a0_0, .string a0_1] 24 (0, 0)) (by (with_reducible repeat (first | refine blk_drewN ?_ _ | refine blk_drew ?_ | refine blk_alloc ?_ _)); exact BK248.out)) : gb248 ≠ gb249)); have n6_ := Aside0.mk ((by rw [hg]; exact Nat.ne_of_gt (blk_lt (g := gb248) (o := .cells #[.string a0_0, .string a0_1] 24 (0, 0)) (by (with_reducible repeat (first | refine blk_drewN ?_ _ | refine blk_drew ?_ | refine blk_alloc ?_ _)); exact BK248.out)) : gb249 ≠ gb248)); clear BK248; clear HB; have BK248 := n0_; have HB := n1_; have BK249 := n2_; have GW249 := n3_; have GE249 := n4_; have NB248_249 := n5_; have NB249_248 := n6_; clear n0_ n1_ n2_ n3_ n4_ n5_ n6_; clear hb hbox hg; have hnb14 := NB248_249.out; have hnc14 := NB249_248.out; have hcz15_0 : w13.cell? ⟨gb248, 0, none⟩ = some (.string a0_0) := (blk_cell BK248.out 0).trans rfl; have hcz15_1 : w13.cell? ⟨gb248, 1, none⟩ = some (.string a0_1) := (blk_cell BK248.out 1).trans rfl; have hfz15_0 := blk_frozen BK248.out 0; have hfz15_1 := blk_frozen BK248.out 1; have hcz16_0 : w13.cell? ⟨gb249, 0, none⟩ = some (.string a1_0) := (blk_cell BK249.out 0).trans rfl; have hcz16_1 : w13.cell? ⟨gb249, 1, none⟩ = some (.string a1_1) := (blk_cell BK249.out 1).trans rfl; have hfz16_0 := blk_frozen BK249.out 0; have hfz16_1 := blk_frozen BK249.out 1) | ((with_reducible refine gate_callee (f := 44) rfl ?_); refine goesL_ (some 10) rfl rfl Tryz.func44 (by kernel_rfl) rfl #[.string a0_0, .string a1_0] rfl (by (try simp only [List.map_toArray, List.map_cons, List.map_nil]); first | done | rfl | (simp only [List.length_drop, List.length_take]; rfl)) ?_; (with_reducible refine (graftwoodref01_Cmp.calls k a0_0 a1_0 t250 _ A3.out).mono ?_); rintro e w' ⟨rfl, ⟨nd, rfl⟩⟩; refine ⟨_, rfl, ?_⟩) | (go_at_call 45; (with_reducible refine (graftwoodref03_Cmp.calls a0_1 a1_1 t251 _ A11.out).mono ?_); rintro e w17 ⟨rfl, hb⟩; have n0_ := Aside0.mk (blk_below (g := gb248) (o := .cells #[.string a0_0, .string a0_1] 24 (0, 0)) (by (with_reducible repeat (first | refine blk_drewN ?_ _ | refine blk_drew ?_ | refine blk_alloc ?_ _)); exact BK248.out) hb); have n1_ := Aside0.mk (blk_below (g := gb249) (o := .cells #[.string a1_0, .string a1_1] 24 (0, 0)) (by (with_reducible repeat (first | refine blk_drewN ?_ _ | refine blk_drew ?_ | refine blk_alloc ?_ _)); exact BK249.out) hb); have n2_ := Aside0.mk (below_step (by repeat (first | (with_reducible first | exact HB.out | apply below_alloc | apply pw_below_drewN | apply below_drew1 | refine below_set ?_ GE248.out | refine below_set ?_ GE249.out) | exact HB.out)) hb); clear BK248; clear BK249; clear HB; have BK248 := n0_; have BK249 := n1_; have HB := n2_; clear n0_ n1_ n2_; (try clear hb); (try clear hb2); (try clear hk); (try clear hi)))
      go_ret
      exact ⟨by first | rfl | (simp [errW_none, errW_some] <;> rfl) | (simp [*, errW_none, errW_some] <;> rfl), by repeat (first | (with_reducible first | exact HB.out | apply below_alloc | apply pw_below_drewN | apply below_drew1 | refine below_set ?_ GE248.out | refine below_set ?_ GE249.out) | exact HB.out)⟩
    · rw [if_neg c10] at H
      have c10b0 : (t250 == 0) = false := beq_eq_false_iff_ne.mpr c10
      have c10b1 : (t250 != 0) = true := bne_iff_ne.mpr c10
      obtain rfl := Option.some.inj H
      go_enter Tryz.func32, Tryz.ntmps32
      go_wp2_with (first | ((with_reducible refine gate_dst (N := 2) rfl ?_); refine box_event ?hg (N := 2) ?hd (cs := #[.string a0_0, .string a0_1]) (t := 24) ?hr ?_; (case hd => rfl); (case hg => rfl); (case hr => first | (go_simp; done) | (go_simp; rfl)); intro gb248 hg w18 hbox hb; have n0_ := Aside0.mk (below_step (by repeat (first | (with_reducible first | exact HB.out | apply below_alloc | apply pw_below_drewN | apply below_drew1) | exact HB.out)) hb); have n1_ := Aside0.mk (hbox); have n2_ := Aside0.mk ((by rw [hg]; exact (below_size (by repeat (first | (with_reducible first | exact HB.out | apply below_alloc | apply pw_below_drewN | apply below_drew1) | exact HB.out))) : w.heap.size ≤ gb248)); have n3_ := Aside0.mk ((by rw [hg]; exact (below_size (by repeat (first | (with_reducible first | exact HB.out | apply below_alloc | apply pw_below_drewN | apply below_drew1) | exact HB.out))) : w.heap.size ≤ gb248)); clear HB; have HB := n0_; have BK248 := n1_; have GW248 := n2_; have GE248 := n3_; clear n0_ n1_ n2_ n3_; clear hb hbox hg) | ((with_reducible refine gate_dst (N := 3) rfl ?_); refine box_event ?hg (N := 3) ?hd (cs := #[.string a1_0, .string a1_1]) (t := 24) ?hr ?_; (case hd => rfl); (case hg => rfl); (case hr => first | (go_simp; done) | (go_simp; rfl)); intro gb249 hg w19 hbox hb; have n0_ := Aside0.mk (blk_below (g := gb248) (o := .cells #[.string a0_0, .string a0_1] 24 (0, 0)) (by (with_reducible repeat (first | refine blk_drewN ?_ _ | refine blk_drew ?_ | refine blk_alloc ?_ _)); exact BK248.out) hb); have n1_ := Aside0.mk (below_step (by repeat (first | (with_reducible first | exact HB.out | apply below_alloc | apply pw_below_drewN | apply below_drew1 | refine below_set ?_ GE248.out) | exact HB.out)) hb); have n2_ := Aside0.mk (hbox); have n3_ := Aside0.mk ((by rw [hg]; exact (below_size (by repeat (first | (with_reducible first | exact HB.out | apply below_alloc | apply pw_below_drewN | apply below_drew1 | refine below_set ?_ GE248.out) | exact HB.out))) : w.heap.size ≤ gb249)); have n4_ := Aside0.mk ((by rw [hg]; exact (below_size (by repeat (first | (with_reducible first | exact HB.out | apply below_alloc | apply pw_below_drewN | apply below_drew1 | refine below_set ?_ GE248.out) | exact HB.out))) : w.heap.size ≤ gb249)); have n5_ := Aside0.mk ((by rw [hg]; exact Nat.ne_of_lt (blk_lt (g := gb248) (o := .cells #[.string a0_0, .string a0_1] 24 (0, 0)) (by (with_reducible repeat (first | refine blk_drewN ?_ _ | refine blk_drew ?_ | refine blk_alloc ?_ _)); exact BK248.out)) : gb248 ≠ gb249)); have n6_ := Aside0.mk ((by rw [hg]; exact Nat.ne_of_gt (blk_lt (g := gb248) (o := .cells #[.string a0_0, .string a0_1] 24 (0, 0)) (by (with_reducible repeat (first | refine blk_drewN ?_ _ | refine blk_drew ?_ | refine blk_alloc ?_ _)); exact BK248.out)) : gb249 ≠ gb248)); clear BK248; clear HB; have BK248 := n0_; have HB := n1_; have BK249 := n2_; have GW249 := n3_; have GE249 := n4_; have NB248_249 := n5_; have NB249_248 := n6_; clear n0_ n1_ n2_ n3_ n4_ n5_ n6_; clear hb hbox hg; have hnb20 := NB248_249.out; have hnc20 := NB249_248.out; have hcz21_0 : w19.cell? ⟨gb248, 0, none⟩ = some (.string a0_0) := (blk_cell BK248.out 0).trans rfl; have hcz21_1 : w19.cell? ⟨gb248, 1, none⟩ = some (.string a0_1) := (blk_cell BK248.out 1).trans rfl; have hfz21_0 := blk_frozen BK248.out 0; have hfz21_1 := blk_frozen BK248.out 1; have hcz22_0 : w19.cell? ⟨gb249, 0, none⟩ = some (.string a1_0) := (blk_cell BK249.out 0).trans rfl; have hcz22_1 : w19.cell? ⟨gb249, 1, none⟩ = some (.string a1_1) := (blk_cell BK249.out 1).trans rfl; have hfz22_0 := blk_frozen BK249.out 0; have hfz22_1 := blk_frozen BK249.out 1) | ((with_reducible refine gate_callee (f := 44) rfl ?_); refine goesL_ (some 10) rfl rfl Tryz.func44 (by kernel_rfl) rfl #[.string a0_0, .string a1_0] rfl (by (try simp only [List.map_toArray, List.map_cons, List.map_nil]); first | done | rfl | (simp only [List.length_drop, List.length_take]; rfl)) ?_; (with_reducible refine (graftwoodref01_Cmp.calls k a0_0 a1_0 t250 _ A3.out).mono ?_); rintro e w' ⟨rfl, ⟨nd, rfl⟩⟩; refine ⟨_, rfl, ?_⟩))
      go_ret
      exact ⟨by first | rfl | (simp [errW_none, errW_some] <;> rfl) | (simp [*, errW_none, errW_some] <;> rfl), by repeat (first | (with_reducible first | exact HB.out | apply below_alloc | apply pw_below_drewN | apply below_drew1 | refine below_set ?_ GE248.out | refine below_set ?_ GE249.out) | exact HB.out)⟩
/-! ### graftwoodref05_With: function 39 -/
mutual
def graftwoodref05_With.l0 : Nat → List (S24) → List (S24) → Int → ByteArray → ByteArray → Option ((List (S24)))
  | 0, _, _, _, _, _ => none
  | k + 1, x0, x5, x6, x253000, x253001 => if x6 < (x0.length : Int) then (if 0 ≤ x6 then ((graftwoodref05_Less.f k ((rd_T24 x0 x6).f0) ((rd_T24 x0 x6).f1) x253000 x253001).bind fun t254 => (if t254 = true then (if x5.length < 4398046511104 then (graftwoodref05_With.l0 k x0 (x5 ++ [(⟨(rd_T24 x0 x6).f0, (rd_T24 x0 x6).f1⟩ : S24)]) (wrap64 (x6 + 1)) x253000 x253001) else (none)) else (graftwoodref05_With.l0 k x0 x5 (wrap64 (x6 + 1)) x253000 x253001))) else (none)) else (if x5.length < 4398046511104 then (graftwoodref05_With.l1 k x0 (x5 ++ [(⟨x253000, x253001⟩ : S24)]) 0 x253000 x253001) else (none))
def graftwoodref05_With.l1 : Nat → List (S24) → List (S24) → Int → ByteArray → ByteArray → Option ((List (S24)))
  | 0, _, _, _, _, _ => none
  | k + 1, x0, x5, x7, x253000, x253001 => if x7 < (x0.length : Int) then (if 0 ≤ x7 then ((graftwoodref05_Less.f k x253000 x253001 ((rd_T24 x0 x7).f0) ((rd_T24 x0 x7).f1)).bind fun t263 => (if t263 = true then (if x5.length < 4398046511104 then (graftwoodref05_With.l1 k x0 (x5 ++ [(⟨(rd_T24 x0 x7).f0, (rd_T24 x0 x7).f1⟩ : S24)]) (wrap64 (x7 + 1)) x253000 x253001) else (none)) else (graftwoodref05_With.l1 k x0 x5 (wrap64 (x7 + 1)) x253000 x253001))) else (none)) else (some x5)
end
def graftwoodref05_With.f (k : Nat) (l0 : List (S24)) (a1_0 : ByteArray) (a1_1 : ByteArray) : Option ((List (S24))) := graftwoodref05_With.l0 k l0 ([] : List (S24)) 0 a1_0 a1_1
set_option maxHeartbeats 8000000 in
set_option maxRecDepth 100000 in
theorem graftwoodref05_With.calls (k : Nat) (A0 : Option Addr) (c0 : Nat) (l0 : List (S24)) (a1_0 : ByteArray) (a1_1 : ByteArray) (r : List (S24)) (w : World) (hr0 : Kd.C k24 w A0 l0.length l0) (hc0 : l0.length ≤ c0) (h : graftwoodref05_With.f k l0 a1_0 a1_1 = some r) :
    Calls Tryz.prog 39 #[.slice A0 l0.length c0, .agg #[.string a1_0, .string a1_1]] w fun e w' => ∃ v0_ : Value, e = .returned (v0_) ∧ Kd.R k24 24 w' w.heap.size (fun _ => True) v0_ r ∧ Below w.heap.size w w' := by
  have hu24 := Tryz.underlying24
  have HR0 := Aside0.mk hr0
  have HC0 := Aside0.mk hc0
  clear hr0 hc0
  have HB := Aside0.mk (Below.refl w.heap.size w)
  have H : (graftwoodref05_With.l0 k l0 ([] : List (S24)) 0 a1_0 a1_1) = some r := h
  clear h
  have H' := Aside0.mk H
  clear H
  go_enter Tryz.func39, Tryz.ntmps39
  go_wp2_with (first | ((with_reducible refine gate_dst (N := 3) rfl ?_); refine box_event ?hg (N := 3) ?hd (cs := #[.string a1_0, .string a1_1]) (t := 24) ?hr ?_; (case hd => rfl); (case hg => rfl); (case hr => first | (go_simp; done) | (go_simp; rfl)); intro gb252 hg w3 hbox hb; have n0_ := Aside0.mk (below_step (by repeat (first | (with_reducible first | exact HB.out | apply below_alloc | apply pw_below_drewN | apply below_drew1) | exact HB.out)) hb); have n1_ := Aside0.mk (hbox); have n2_ := Aside0.mk ((by rw [hg]; exact (below_size (by repeat (first | (with_reducible first | exact HB.out | apply below_alloc | apply pw_below_drewN | apply below_drew1) | exact HB.out))) : w.heap.size ≤ gb252)); have n3_ := Aside0.mk ((by rw [hg]; exact (below_size (by repeat (first | (with_reducible first | exact HB.out | apply below_alloc | apply pw_below_drewN | apply below_drew1) | exact HB.out))) : w.heap.size ≤ gb252)); clear HB; have HB := n0_; have BK252 := n1_; have GW252 := n2_; have GE252 := n3_; clear n0_ n1_ n2_ n3_; clear hb hbox hg))
  go_loopg [5, 6] k (fun kq v5 v6 w' => ∃ (x5_1 : List (S24)) (x6_1 : Int), v6 = .int .i64 x6_1 ∧ Aside0 (graftwoodref05_With.l0 kq l0 x5_1 x6_1 a1_0 a1_1 = some r) ∧ Aside0 (kq ≤ k) ∧ Aside0 (Kd.R k24 24 w' w.heap.size (fun k_ => k_ ≠ gb252) v5 x5_1) ∧ Aside0 (w'.heap[gb252]? = some (.cells #[.string a1_0, .string a1_1] 24 (0, 0))) ∧ Aside0 (Below w.heap.size w w'))
  case atStart => exact ⟨(([] : List (S24))), (0), (by first | rfl | (simp; done) | (simp [*]; done)), H', ⟨Nat.le_refl _⟩, ⟨by first | exact Kd.R_nil _ _ _ _ _ | exact Kd.N_nil _ _ _ _ _ | exact Kd.V_nil _ _ _ _ _ | exact Kd.Q_nil _ _ _ _ _ | exact Kd.S_nil _ _ _ _ _⟩, ⟨by (with_reducible repeat (first | refine blk_drewN ?_ _ | refine blk_drew ?_ | refine blk_alloc ?_ _)); exact BK252.out⟩, ⟨by repeat (first | (with_reducible first | exact HB.out | apply below_alloc | apply pw_below_drewN | apply below_drew1 | refine below_set ?_ GE252.out) | exact HB.out)⟩⟩
  case round =>
    clear H'
    try clear p2
    try clear c3
    obtain ⟨x5_1, x6_1, rfl, HA, HK1, HO_5, BK252, HB⟩ := hrel
    cases gk with
    | zero => exact absurd HA.out (by simp [graftwoodref05_With.l0])
    | succ k1 =>
      have H := HA.out
      clear HA
      simp only [graftwoodref05_With.l0] at H
      by_cases c4 : x6_1 < (l0.length : Int)
      · rw [if_pos c4] at H
        have c4b0 : decide (x6_1 < (l0.length : Int)) = true := decide_eq_true c4
        clear c4
        by_cases c5 : 0 ≤ x6_1
        · rw [if_pos c5] at H
          have c5b0 : decide (0 ≤ x6_1) = true := decide_eq_true c5
          clear c5
          replace H := Option.bind_eq_some_iff.mp H
          obtain ⟨t254, A60, H⟩ := H
          replace H : (if t254 = true then (if x5_1.length < 4398046511104 then (graftwoodref05_With.l0 k1 l0 (x5_1 ++ [(⟨(rd_T24 l0 x6_1).f0, (rd_T24 l0 x6_1).f1⟩ : S24)]) (wrap64 (x6_1 + 1)) a1_0 a1_1) else (none)) else (graftwoodref05_With.l0 k1 l0 x5_1 (wrap64 (x6_1 + 1)) a1_0 a1_1)) = some r := H
          have A6 := Aside0.mk A60
          clear A60
          by_cases c7 : t254 = true
          · subst c7
            have H1 : (if x5_1.length < 4398046511104 then (graftwoodref05_With.l0 k1 l0 (x5_1 ++ [(⟨(rd_T24 l0 x6_1).f0, (rd_T24 l0 x6_1).f1⟩ : S24)]) (wrap64 (x6_1 + 1)) a1_0 a1_1) else (none)) = some r := by rw [if_pos rfl] at H; exact H
            clear H
            have H := H1
            clear H1
            by_cases c8 : x5_1.length < 4398046511104
            · rw [if_pos c8] at H
              have LMc8 := Aside0.mk c8
              clear c8
              obtain ⟨y256, hy256⟩ : ∃ y_ : List (S24), y_ = (x5_1 ++ [(⟨(rd_T24 l0 x6_1).f0, (rd_T24 l0 x6_1).f1⟩ : S24)]) := ⟨_, rfl⟩
              replace H : (graftwoodref05_With.l0 k1 l0 y256 (wrap64 (x6_1 + 1)) a1_0 a1_1) = some r := by first | (rw [hy256]; with_reducible exact H) | (have H2_ := (Option.bind_some _ _).symm.trans H; rw [hy256]; with_reducible exact H2_) | (have H2_ := (Option.bind_some _ _).symm.trans H; with_reducible exact H2_) | with_reducible exact H | (rw [hy256]; exact H) | exact H
              have Ny256 := Aside0.mk hy256
              clear hy256
              have H' := Aside0.mk H
              clear H
              try go_wp2
              have n0_ := Aside0.mk (Kd.R_drew HO_5.out)
              have n1_ := Aside0.mk (blk_drew BK252.out)
              have n2_ := Aside0.mk (below_drew1 HB.out)
              clear HO_5 BK252 HB
              have HO_5 := n0_
              have BK252 := n1_
              have HB := n2_
              clear n0_ n1_ n2_
              have p253 : 0 ≤ (x6_1 : Int) := of_decide_eq_true (by first | (with_reducible assumption) | assumption)
              have q253 : x6_1 < (l0.length : Int) := of_decide_eq_true (by first | (with_reducible assumption) | assumption)
              obtain ⟨ad253, e253, hx253_0, hx253_1⟩ := at_T24 HR0.out x6_1 p253 q253
              have hw253_1 := hx253_1
              have hw253_0 := hx253_0
              cases e253
              replace hx253_0 := (HB.out.cell (World.block_lt_of_cell? w _ hx253_0)).trans hx253_0
              replace hx253_1 := (HB.out.cell (World.block_lt_of_cell? w _ hx253_1)).trans hx253_1
              replace p253 := eq_true p253
              replace q253 := eq_true q253
              refine start_ (n := 6) (S := fun w' => w'.cell? ⟨gb252, 0, none⟩ = some (.string a1_0) ∧ w'.cell? ⟨gb252, 1, none⟩ = some (.string a1_1) ∧ w'.cell? (ad253.add ((x6_1).toNat * 2)) = some (.string ((rd_T24 l0 x6_1).f0)) ∧ w'.cell? ⟨(ad253.add ((x6_1).toNat * 2)).block, (ad253.add ((x6_1).toNat * 2)).off + 1, none⟩ = some (.string ((rd_T24 l0 x6_1).f1))) (ds := []) #[false, false, false, false, false, false] (by kernel_rfl) rfl rfl ⟨(blk_cell BK252.out 0).trans rfl, (blk_cell BK252.out 1).trans rfl, ((HB.out.cell (World.block_lt_of_cell? w _ hw253_0)).trans hw253_0), ((HB.out.cell (World.block_lt_of_cell? w _ hw253_1)).trans hw253_1)⟩ (fun hHeld => ?_)
              generalize wr.drew = w9 at HO_5 BK252 HB hx253_0 hx253_1 hHeld ⊢
              refine pure_ (i := 0) (N := some 14) (v := ?_) (a' := ?_) #[true, false, false, false, false, false] rfl rfl (by kernel_rfl) (fun _ _ _ h => h) (Or.inl ⟨by rfl, ?_⟩) ?_ ?_
              rotate_left
              · intro w'
                go_simp
                with_reducible rfl
              rotate_left
              · simp only [Act.put, List.setIfInBounds_toArray, List.set_cons_zero, List.set_cons_succ, i64_w, i32_w]
                rfl
              refine pure_ (i := 1) (N := some 15) (v := ?_) (a' := ?_) #[true, true, false, false, false, false] rfl rfl (by kernel_rfl) (fun _ _ _ h => h) (Or.inl ⟨by rfl, ?_⟩) ?_ ?_
              rotate_left
              · intro w'
                go_simp
                with_reducible rfl
              rotate_left
              · simp only [Act.put, List.setIfInBounds_toArray, List.set_cons_zero, List.set_cons_succ, i64_w, i32_w]
                rfl
              refine pure_ (i := 2) (N := some 16) (v := ?_) (a' := ?_) #[true, true, true, false, false, false] rfl rfl (by kernel_rfl) (fun _ _ _ h => h) (Or.inl ⟨by rfl, ?_⟩) ?_ ?_
              rotate_left
              · intro w'
                go_simp
                with_reducible rfl
              rotate_left
              · simp only [Act.put, List.setIfInBounds_toArray, List.set_cons_zero, List.set_cons_succ, i64_w, i32_w]
                rfl
              refine take_ (i := 3) (N := some 17) (v := ?_) (a' := ?_) #[true, true, true, true, false, false] rfl rfl (by kernel_rfl) (fun _ _ _ h => h) (Or.inl ⟨by rfl, ?_⟩) hHeld ?_ ?_
              rotate_left
              · rintro w' ⟨s0, s1, s2, s3⟩
                go_simp
                with_reducible rfl
              rotate_left
              · simp only [Act.put, List.setIfInBounds_toArray, List.set_cons_zero, List.set_cons_succ, i64_w, i32_w]
                rfl
              refine take_ (i := 4) (N := some 18) (v := ?_) (a' := ?_) #[true, true, true, true, true, false] rfl rfl (by kernel_rfl) (fun _ _ _ h => h) (Or.inl ⟨by rfl, ?_⟩) hHeld ?_ ?_
              rotate_left
              · rintro w' ⟨s0, s1, s2, s3⟩
                go_simp
                with_reducible rfl
              rotate_left
              · simp only [Act.put, List.setIfInBounds_toArray, List.set_cons_zero, List.set_cons_succ, i64_w, i32_w]
                rfl
              refine one_ (i := 5) (N := some 19) #[true, true, true, true, true, true] rfl rfl (by kernel_rfl) (by decide) (fun K hK => ?_)
              refine goes_ Tryz.func32 (by kernel_rfl) rfl #[.agg #[.string ((rd_T24 l0 x6_1).f0), .string ((rd_T24 l0 x6_1).f1)], .agg #[.string a1_0, .string a1_1]] (by rfl) rfl rfl (by (try simp only [List.map_toArray, List.map_cons, List.map_nil]); first | done | rfl | (simp only [List.length_drop, List.length_take]; rfl)) ?_
              with_reducible refine (graftwoodref05_Less.calls k1 ((rd_T24 l0 x6_1).f0) ((rd_T24 l0 x6_1).f1) a1_0 a1_1 true _ A6.out).mono ?_
              rintro e w10 ⟨rfl, hb⟩
              refine ⟨_, rfl, ?_⟩
              have n0_ := Aside0.mk (Kd.R_below (by (with_reducible repeat (first | apply Kd.R_alloc | apply Kd.R_drewN | apply Kd.R_drew)); exact HO_5.out) hb)
              have n1_ := Aside0.mk (blk_below (g := gb252) (o := .cells #[.string a1_0, .string a1_1] 24 (0, 0)) (by (with_reducible repeat (first | refine blk_drewN ?_ _ | refine blk_drew ?_ | refine blk_alloc ?_ _)); exact BK252.out) hb)
              have n2_ := Aside0.mk (below_step (by repeat (first | (with_reducible first | exact HB.out | apply below_alloc | apply pw_below_drewN | apply below_drew1 | refine below_set ?_ GE252.out) | exact HB.out)) hb)
              clear HO_5 BK252 HB
              have HO_5 := n0_
              have BK252 := n1_
              have HB := n2_
              clear n0_ n1_ n2_
              (try clear hb)
              (try clear hb2)
              (try clear hk)
              (try clear hi)
              refine hK.out _ _ ⟨(blk_cell BK252.out 0).trans rfl, (blk_cell BK252.out 1).trans rfl, ((HB.out.cell (World.block_lt_of_cell? w _ hw253_0)).trans hw253_0), ((HB.out.cell (World.block_lt_of_cell? w _ hw253_1)).trans hw253_1)⟩ (fun hHeld => ?_)
              clear hK K
              refine nz_ 19 ?_
              refine done_ (by kernel_rfl) ?_
              have p255 : 0 ≤ (x6_1 : Int) := of_decide_eq_true (by first | (with_reducible assumption) | assumption)
              have q255 : x6_1 < (l0.length : Int) := of_decide_eq_true (by first | (with_reducible assumption) | assumption)
              obtain ⟨ad255, e255, hx255_0, hx255_1⟩ := at_T24 HR0.out x6_1 p255 q255
              obtain rfl : ad253 = ad255 := (by injection e255)
              replace hx255_0 := (HB.out.cell (World.block_lt_of_cell? w _ hx255_0)).trans hx255_0
              replace hx255_1 := (HB.out.cell (World.block_lt_of_cell? w _ hx255_1)).trans hx255_1
              replace p255 := eq_true p255
              replace q255 := eq_true q255
              try go_wp2_with (first | ((with_reducible refine gate_builtin (b := .append) (xs := #[.tmp 20, .tmp 25]) rfl ?_); at_builtin; refine Kd.R_append k24 (w0 := w) w.heap.size rfl (.tmp 20) (.tmp 25) 22 24 (.agg #[(.string ⟨#[]⟩), (.string ⟨#[]⟩)]) 32 rfl Tryz.underlying22 info24 rfl (by decide) (by omega) u5 x5_1 (⟨(rd_T24 l0 x6_1).f0, (rd_T24 l0 x6_1).f1⟩ : S24) [.string ((rd_T24 l0 x6_1).f0), .string ((rd_T24 l0 x6_1).f1)] (fun k_ => k_ ≠ gb252) (fun _ => False) rfl rfl ?aP (fun _ hk => hk.elim) ?aF ?aO ?aB ?aS ?aL ?_; (case aP => exact k24_mkM _ _ _ (⟨(rd_T24 l0 x6_1).f0, (rd_T24 l0 x6_1).f1⟩ : S24)); (case aB => exact (by repeat (first | (with_reducible first | exact HB.out | apply below_alloc | apply pw_below_drewN | apply below_drew1 | refine below_set ?_ GE252.out) | exact HB.out))); (case aF => exact (fun k_ hk => Kd.freshB (g := gb252) (o := .cells #[.string a1_0, .string a1_1] 24 (0, 0)) (by (with_reducible repeat (first | refine blk_drewN ?_ _ | refine blk_drew ?_ | refine blk_alloc ?_ _)); exact BK252.out) k_ hk)); (case aO => exact (by (with_reducible repeat (first | apply Kd.R_alloc | apply Kd.R_drewN | apply Kd.R_drew)); exact HO_5.out)); (case aS => exact (below_size (by repeat (first | (with_reducible first | exact HB.out | apply below_alloc | apply pw_below_drewN | apply below_drew1 | refine below_set ?_ GE252.out) | exact HB.out)))); (case aL => have := LMc8.out; omega); intro v257 w11 ho hb hg hat; rw [← Ny256.out] at ho; have n0_ := Aside0.mk (blk_grown (g := gb252) (o := .cells #[.string a1_0, .string a1_1] 24 (0, 0)) (by (with_reducible repeat (first | refine blk_drewN ?_ _ | refine blk_drew ?_ | refine blk_alloc ?_ _)); exact BK252.out) hg (Kd.R_away HO_5.out (fun _ hk => hk))); have n1_ := Aside0.mk (hb); have n2_ := Aside0.mk (ho); clear BK252; clear HB; clear HO_5; have BK252 := n0_; have HB := n1_; have HO258 := n2_; clear n0_ n1_ n2_; clear ho hb hg hat))
              go_roundg k1
              case measure => have := HK1.out; omega
              case rel => exact ⟨(y256), (wrap64 (x6_1 + 1)), (by first | rfl | (simp; done) | (simp [*]; done)), H', ⟨by have := HK1.out; omega⟩, ⟨by (with_reducible repeat (first | apply Kd.R_alloc | apply Kd.R_drewN | apply Kd.R_drew)); exact HO258.out⟩, ⟨by (with_reducible repeat (first | refine blk_drewN ?_ _ | refine blk_drew ?_ | refine blk_alloc ?_ _)); exact BK252.out⟩, ⟨by repeat (first | (with_reducible first | exact HB.out | apply below_alloc | apply pw_below_drewN | apply below_drew1 | refine below_set ?_ GE252.out) | exact HB.out)⟩⟩
            · rw [if_neg c8] at H
              exact absurd H (by simp)
          · replace c7 := Bool.eq_false_iff.mpr c7
            subst c7
            have H1 : (graftwoodref05_With.l0 k1 l0 x5_1 (wrap64 (x6_1 + 1)) a1_0 a1_1) = some r := by rw [if_neg (show ¬ (false = true) by decide)] at H; exact H
            clear H
            have H := H1
            clear H1
            have H' := Aside0.mk H
            clear H
            try go_wp2
            have n0_ := Aside0.mk (Kd.R_drew HO_5.out)
            have n1_ := Aside0.mk (blk_drew BK252.out)
            have n2_ := Aside0.mk (below_drew1 HB.out)
            clear HO_5 BK252 HB
            have HO_5 := n0_
            have BK252 := n1_
            have HB := n2_
            clear n0_ n1_ n2_
            have p253 : 0 ≤ (x6_1 : Int) := of_decide_eq_true (by first | (with_reducible assumption) | assumption)
            have q253 : x6_1 < (l0.length : Int) := of_decide_eq_true (by first | (with_reducible assumption) | assumption)
            obtain ⟨ad253, e253, hx253_0, hx253_1⟩ := at_T24 HR0.out x6_1 p253 q253
            have hw253_1 := hx253_1
            have hw253_0 := hx253_0
            cases e253
            replace hx253_0 := (HB.out.cell (World.block_lt_of_cell? w _ hx253_0)).trans hx253_0
            replace hx253_1 := (HB.out.cell (World.block_lt_of_cell? w _ hx253_1)).trans hx253_1
            replace p253 := eq_true p253
            replace q253 := eq_true q253
            refine start_ (n := 6) (S := fun w' => w'.cell? ⟨gb252, 0, none⟩ = some (.string a1_0) ∧ w'.cell? ⟨gb252, 1, none⟩ = some (.string a1_1) ∧ w'.cell? (ad253.add ((x6_1).toNat * 2)) = some (.string ((rd_T24 l0 x6_1).f0)) ∧ w'.cell? ⟨(ad253.add ((x6_1).toNat * 2)).block, (ad253.add ((x6_1).toNat * 2)).off + 1, none⟩ = some (.string ((rd_T24 l0 x6_1).f1))) (ds := []) #[false, false, false, false, false, false] (by kernel_rfl) rfl rfl ⟨(blk_cell BK252.out 0).trans rfl, (blk_cell BK252.out 1).trans rfl, ((HB.out.cell (World.block_lt_of_cell? w _ hw253_0)).trans hw253_0), ((HB.out.cell (World.block_lt_of_cell? w _ hw253_1)).trans hw253_1)⟩ (fun hHeld => ?_)
            generalize wr.drew = w12 at HO_5 BK252 HB hx253_0 hx253_1 hHeld ⊢
            refine pure_ (i := 0) (N := some 14) (v := ?_) (a' := ?_) #[true, false, false, false, false, false] rfl rfl (by kernel_rfl) (fun _ _ _ h => h) (Or.inl ⟨by rfl, ?_⟩) ?_ ?_
            rotate_left
            · intro w'
              go_simp
              with_reducible rfl
            rotate_left
            · simp only [Act.put, List.setIfInBounds_toArray, List.set_cons_zero, List.set_cons_succ, i64_w, i32_w]
              rfl
            refine pure_ (i := 1) (N := some 15) (v := ?_) (a' := ?_) #[true, true, false, false, false, false] rfl rfl (by kernel_rfl) (fun _ _ _ h => h) (Or.inl ⟨by rfl, ?_⟩) ?_ ?_
            rotate_left
            · intro w'
              go_simp
              with_reducible rfl
            rotate_left
            · simp only [Act.put, List.setIfInBounds_toArray, List.set_cons_zero, List.set_cons_succ, i64_w, i32_w]
              rfl
            refine pure_ (i := 2) (N := some 16) (v := ?_) (a' := ?_) #[true, true, true, false, false, false] rfl rfl (by kernel_rfl) (fun _ _ _ h => h) (Or.inl ⟨by rfl, ?_⟩) ?_ ?_
            rotate_left
            · intro w'
              go_simp
              with_reducible rfl
            rotate_left
            · simp only [Act.put, List.setIfInBounds_toArray, List.set_cons_zero, List.set_cons_succ, i64_w, i32_w]
              rfl
            refine take_ (i := 3) (N := some 17) (v := ?_) (a' := ?_) #[true, true, true, true, false, false] rfl rfl (by kernel_rfl) (fun _ _ _ h => h) (Or.inl ⟨by rfl, ?_⟩) hHeld ?_ ?_
            rotate_left
            · rintro w' ⟨s0, s1, s2, s3⟩
              go_simp
              with_reducible rfl
            rotate_left
            · simp only [Act.put, List.setIfInBounds_toArray, List.set_cons_zero, List.set_cons_succ, i64_w, i32_w]
              rfl
            refine take_ (i := 4) (N := some 18) (v := ?_) (a' := ?_) #[true, true, true, true, true, false] rfl rfl (by kernel_rfl) (fun _ _ _ h => h) (Or.inl ⟨by rfl, ?_⟩) hHeld ?_ ?_
            rotate_left
            · rintro w' ⟨s0, s1, s2, s3⟩
              go_simp
              with_reducible rfl
            rotate_left
            · simp only [Act.put, List.setIfInBounds_toArray, List.set_cons_zero, List.set_cons_succ, i64_w, i32_w]
              rfl
            refine one_ (i := 5) (N := some 19) #[true, true, true, true, true, true] rfl rfl (by kernel_rfl) (by decide) (fun K hK => ?_)
            refine goes_ Tryz.func32 (by kernel_rfl) rfl #[.agg #[.string ((rd_T24 l0 x6_1).f0), .string ((rd_T24 l0 x6_1).f1)], .agg #[.string a1_0, .string a1_1]] (by rfl) rfl rfl (by (try simp only [List.map_toArray, List.map_cons, List.map_nil]); first | done | rfl | (simp only [List.length_drop, List.length_take]; rfl)) ?_
            with_reducible refine (graftwoodref05_Less.calls k1 ((rd_T24 l0 x6_1).f0) ((rd_T24 l0 x6_1).f1) a1_0 a1_1 false _ A6.out).mono ?_
            rintro e w13 ⟨rfl, hb⟩
            refine ⟨_, rfl, ?_⟩
            have n0_ := Aside0.mk (Kd.R_below (by (with_reducible repeat (first | apply Kd.R_alloc | apply Kd.R_drewN | apply Kd.R_drew)); exact HO_5.out) hb)
            have n1_ := Aside0.mk (blk_below (g := gb252) (o := .cells #[.string a1_0, .string a1_1] 24 (0, 0)) (by (with_reducible repeat (first | refine blk_drewN ?_ _ | refine blk_drew ?_ | refine blk_alloc ?_ _)); exact BK252.out) hb)
            have n2_ := Aside0.mk (below_step (by repeat (first | (with_reducible first | exact HB.out | apply below_alloc | apply pw_below_drewN | apply below_drew1 | refine below_set ?_ GE252.out) | exact HB.out)) hb)
            clear HO_5 BK252 HB
            have HO_5 := n0_
            have BK252 := n1_
            have HB := n2_
            clear n0_ n1_ n2_
            (try clear hb)
            (try clear hb2)
            (try clear hk)
            (try clear hi)
            refine hK.out _ _ ⟨(blk_cell BK252.out 0).trans rfl, (blk_cell BK252.out 1).trans rfl, ((HB.out.cell (World.block_lt_of_cell? w _ hw253_0)).trans hw253_0), ((HB.out.cell (World.block_lt_of_cell? w _ hw253_1)).trans hw253_1)⟩ (fun hHeld => ?_)
            clear hK K
            refine nz_ 19 ?_
            refine done_ (by kernel_rfl) ?_
            try go_wp2
            go_roundg k1
            case measure => have := HK1.out; omega
            case rel => exact ⟨(x5_1), (wrap64 (x6_1 + 1)), (by first | rfl | (simp; done) | (simp [*]; done)), H', ⟨by have := HK1.out; omega⟩, ⟨by (with_reducible repeat (first | apply Kd.R_alloc | apply Kd.R_drewN | apply Kd.R_drew)); exact HO_5.out⟩, ⟨by (with_reducible repeat (first | refine blk_drewN ?_ _ | refine blk_drew ?_ | refine blk_alloc ?_ _)); exact BK252.out⟩, ⟨by repeat (first | (with_reducible first | exact HB.out | apply below_alloc | apply pw_below_drewN | apply below_drew1 | refine below_set ?_ GE252.out) | exact HB.out)⟩⟩
        · rw [if_neg c5] at H
          exact absurd H (by simp)
      · rw [if_neg c4] at H
        have c4b0 : decide (x6_1 < (l0.length : Int)) = false := decide_eq_false c4
        clear c4
        by_cases c14 : x5_1.length < 4398046511104
        · rw [if_pos c14] at H
          have LMc14 := Aside0.mk c14
          clear c14
          obtain ⟨y259, hy259⟩ : ∃ y_ : List (S24), y_ = (x5_1 ++ [(⟨a1_0, a1_1⟩ : S24)]) := ⟨_, rfl⟩
          replace H : (graftwoodref05_With.l1 k1 l0 y259 0 a1_0 a1_1) = some r := by first | (rw [hy259]; with_reducible exact H) | (have H2_ := (Option.bind_some _ _).symm.trans H; rw [hy259]; with_reducible exact H2_) | (have H2_ := (Option.bind_some _ _).symm.trans H; with_reducible exact H2_) | with_reducible exact H | (rw [hy259]; exact H) | exact H
          have Ny259 := Aside0.mk hy259
          clear hy259
          have H' := Aside0.mk H
          clear H
          have hcz15_0 : wr.cell? ⟨gb252, 0, none⟩ = some (.string a1_0) := (blk_cell BK252.out 0).trans rfl
          have hcz15_1 : wr.cell? ⟨gb252, 1, none⟩ = some (.string a1_1) := (blk_cell BK252.out 1).trans rfl
          have hfz15_0 := blk_frozen BK252.out 0
          have hfz15_1 := blk_frozen BK252.out 1
          go_wp2_with (first | ((with_reducible refine gate_builtin (b := .append) (xs := #[.tmp 27, .tmp 29]) rfl ?_); at_builtin; refine Kd.R_append k24 (w0 := w) w.heap.size rfl (.tmp 27) (.tmp 29) 22 24 (.agg #[(.string ⟨#[]⟩), (.string ⟨#[]⟩)]) 32 rfl Tryz.underlying22 info24 rfl (by decide) (by omega) u5 x5_1 (⟨a1_0, a1_1⟩ : S24) [.string a1_0, .string a1_1] (fun k_ => k_ ≠ gb252) (fun _ => False) rfl rfl ?aP (fun _ hk => hk.elim) ?aF ?aO ?aB ?aS ?aL ?_; (case aP => exact k24_mkM _ _ _ (⟨a1_0, a1_1⟩ : S24)); (case aB => exact (by repeat (first | (with_reducible first | exact HB.out | apply below_alloc | apply pw_below_drewN | apply below_drew1 | refine below_set ?_ GE252.out) | exact HB.out))); (case aF => exact (fun k_ hk => Kd.freshB (g := gb252) (o := .cells #[.string a1_0, .string a1_1] 24 (0, 0)) (by (with_reducible repeat (first | refine blk_drewN ?_ _ | refine blk_drew ?_ | refine blk_alloc ?_ _)); exact BK252.out) k_ hk)); (case aO => exact (by (with_reducible repeat (first | apply Kd.R_alloc | apply Kd.R_drewN | apply Kd.R_drew)); exact HO_5.out)); (case aS => exact (below_size (by repeat (first | (with_reducible first | exact HB.out | apply below_alloc | apply pw_below_drewN | apply below_drew1 | refine below_set ?_ GE252.out) | exact HB.out)))); (case aL => have := LMc14.out; omega); intro v260 w16 ho hb hg hat; rw [← Ny259.out] at ho; have n0_ := Aside0.mk (blk_grown (g := gb252) (o := .cells #[.string a1_0, .string a1_1] 24 (0, 0)) (by (with_reducible repeat (first | refine blk_drewN ?_ _ | refine blk_drew ?_ | refine blk_alloc ?_ _)); exact BK252.out) hg (Kd.R_away HO_5.out (fun _ hk => hk))); have n1_ := Aside0.mk (hb); have n2_ := Aside0.mk (ho); clear BK252; clear HB; clear HO_5; have BK252 := n0_; have HB := n1_; have HO261 := n2_; clear n0_ n1_ n2_; clear ho hb hg hat))
          go_loopg [5, 7] k1 (fun kq v5 v7 w' => ∃ (x5_2 : List (S24)) (x7_2 : Int), v7 = .int .i64 x7_2 ∧ Aside0 (graftwoodref05_With.l1 kq l0 x5_2 x7_2 a1_0 a1_1 = some r) ∧ Aside0 (kq ≤ k1) ∧ Aside0 (Kd.R k24 24 w' w.heap.size (fun k_ => k_ ≠ gb252) v5 x5_2) ∧ Aside0 (w'.heap[gb252]? = some (.cells #[.string a1_0, .string a1_1] 24 (0, 0))) ∧ Aside0 (Below w.heap.size w w'))
          case atStart => exact ⟨(y259), (0), (by first | rfl | (simp; done) | (simp [*]; done)), H', ⟨Nat.le_refl _⟩, ⟨by (with_reducible repeat (first | apply Kd.R_alloc | apply Kd.R_drewN | apply Kd.R_drew)); exact HO261.out⟩, ⟨by (with_reducible repeat (first | refine blk_drewN ?_ _ | refine blk_drew ?_ | refine blk_alloc ?_ _)); exact BK252.out⟩, ⟨by repeat (first | (with_reducible first | exact HB.out | apply below_alloc | apply pw_below_drewN | apply below_drew1 | refine below_set ?_ GE252.out) | exact HB.out)⟩⟩
          case round =>
            clear H'
            try clear c1
            try clear p2
            try clear q2
            try clear hx2
            try clear c3
            try clear c4
            try clear c4b0
            try clear c5
            try clear c5b0
            try clear p6
            try clear c7
            try clear c8
            try clear c14
            try clear hcz15_0
            try clear hcz15_1
            try clear hfz15_0
            try clear hfz15_1
            try clear hx253_0
            try clear hx253_1
            try clear hx255_0
            try clear hx255_1
            try clear p2
            try clear p253
            try clear p255
            try clear q253
            try clear q255
            obtain ⟨x5_2, x7_2, rfl, HA, HK2, HO_5, BK252, HB⟩ := hrel
            cases gk with
            | zero => exact absurd HA.out (by simp [graftwoodref05_With.l1])
            | succ k2 =>
              have H := HA.out
              clear HA
              simp only [graftwoodref05_With.l1] at H
              by_cases c17 : x7_2 < (l0.length : Int)
              · rw [if_pos c17] at H
                have c17b0 : decide (x7_2 < (l0.length : Int)) = true := decide_eq_true c17
                clear c17
                by_cases c18 : 0 ≤ x7_2
                · rw [if_pos c18] at H
                  have c18b0 : decide (0 ≤ x7_2) = true := decide_eq_true c18
                  clear c18
                  replace H := Option.bind_eq_some_iff.mp H
                  obtain ⟨t263, A190, H⟩ := H
                  replace H : (if t263 = true then (if x5_2.length < 4398046511104 then (graftwoodref05_With.l1 k2 l0 (x5_2 ++ [(⟨(rd_T24 l0 x7_2).f0, (rd_T24 l0 x7_2).f1⟩ : S24)]) (wrap64 (x7_2 + 1)) a1_0 a1_1) else (none)) else (graftwoodref05_With.l1 k2 l0 x5_2 (wrap64 (x7_2 + 1)) a1_0 a1_1)) = some r := H
                  have A19 := Aside0.mk A190
                  clear A190
                  by_cases c20 : t263 = true
                  · subst c20
                    have H1 : (if x5_2.length < 4398046511104 then (graftwoodref05_With.l1 k2 l0 (x5_2 ++ [(⟨(rd_T24 l0 x7_2).f0, (rd_T24 l0 x7_2).f1⟩ : S24)]) (wrap64 (x7_2 + 1)) a1_0 a1_1) else (none)) = some r := by rw [if_pos rfl] at H; exact H
                    clear H
                    have H := H1
                    clear H1
                    by_cases c21 : x5_2.length < 4398046511104
                    · rw [if_pos c21] at H
                      have LMc21 := Aside0.mk c21
                      clear c21
                      obtain ⟨y265, hy265⟩ : ∃ y_ : List (S24), y_ = (x5_2 ++ [(⟨(rd_T24 l0 x7_2).f0, (rd_T24 l0 x7_2).f1⟩ : S24)]) := ⟨_, rfl⟩
                      replace H : (graftwoodref05_With.l1 k2 l0 y265 (wrap64 (x7_2 + 1)) a1_0 a1_1) = some r := by first | (rw [hy265]; with_reducible exact H) | (have H2_ := (Option.bind_some _ _).symm.trans H; rw [hy265]; with_reducible exact H2_) | (have H2_ := (Option.bind_some _ _).symm.trans H; with_reducible exact H2_) | with_reducible exact H | (rw [hy265]; exact H) | exact H
                      have Ny265 := Aside0.mk hy265
                      clear hy265
                      have H' := Aside0.mk H
                      clear H
                      try go_wp2
                      have n0_ := Aside0.mk (Kd.R_drew HO_5.out)
                      have n1_ := Aside0.mk (blk_drew BK252.out)
                      have n2_ := Aside0.mk (below_drew1 HB.out)
                      clear HO_5 BK252 HB
                      have HO_5 := n0_
                      have BK252 := n1_
                      have HB := n2_
                      clear n0_ n1_ n2_
                      have p262 : 0 ≤ (x7_2 : Int) := of_decide_eq_true (by first | (with_reducible assumption) | assumption)
                      have q262 : x7_2 < (l0.length : Int) := of_decide_eq_true (by first | (with_reducible assumption) | assumption)
                      obtain ⟨ad262, e262, hx262_0, hx262_1⟩ := at_T24 HR0.out x7_2 p262 q262
                      have hw262_1 := hx262_1
                      have hw262_0 := hx262_0
                      cases e262
                      replace hx262_0 := (HB.out.cell (World.block_lt_of_cell? w _ hx262_0)).trans hx262_0
                      replace hx262_1 := (HB.out.cell (World.block_lt_of_cell? w _ hx262_1)).trans hx262_1
                      replace p262 := eq_true p262
                      replace q262 := eq_true q262
                      refine start_ (n := 6) (S := fun w' => w'.cell? ⟨gb252, 0, none⟩ = some (.string a1_0) ∧ w'.cell? ⟨gb252, 1, none⟩ = some (.string a1_1) ∧ w'.cell? (ad262.add ((x7_2).toNat * 2)) = some (.string ((rd_T24 l0 x7_2).f0)) ∧ w'.cell? ⟨(ad262.add ((x7_2).toNat * 2)).block, (ad262.add ((x7_2).toNat * 2)).off + 1, none⟩ = some (.string ((rd_T24 l0 x7_2).f1))) (ds := []) #[false, false, false, false, false, false] (by kernel_rfl) rfl rfl ⟨(blk_cell BK252.out 0).trans rfl, (blk_cell BK252.out 1).trans rfl, ((HB.out.cell (World.block_lt_of_cell? w _ hw262_0)).trans hw262_0), ((HB.out.cell (World.block_lt_of_cell? w _ hw262_1)).trans hw262_1)⟩ (fun hHeld => ?_)
                      generalize wr.drew = w22 at HO_5 BK252 HB hx262_0 hx262_1 hHeld ⊢
                      refine pure_ (i := 1) (N := some 38) (v := ?_) (a' := ?_) #[false, true, false, false, false, false] rfl rfl (by kernel_rfl) (fun _ _ _ h => h) (Or.inl ⟨by rfl, ?_⟩) ?_ ?_
                      rotate_left
                      · intro w'
                        go_simp
                        with_reducible rfl
                      rotate_left
                      · simp only [Act.put, List.setIfInBounds_toArray, List.set_cons_zero, List.set_cons_succ, i64_w, i32_w]
                        rfl
                      refine pure_ (i := 2) (N := some 39) (v := ?_) (a' := ?_) #[false, true, true, false, false, false] rfl rfl (by kernel_rfl) (fun _ _ _ h => h) (Or.inl ⟨by rfl, ?_⟩) ?_ ?_
                      rotate_left
                      · intro w'
                        go_simp
                        with_reducible rfl
                      rotate_left
                      · simp only [Act.put, List.setIfInBounds_toArray, List.set_cons_zero, List.set_cons_succ, i64_w, i32_w]
                        rfl
                      refine pure_ (i := 3) (N := some 40) (v := ?_) (a' := ?_) #[false, true, true, true, false, false] rfl rfl (by kernel_rfl) (fun _ _ _ h => h) (Or.inl ⟨by rfl, ?_⟩) ?_ ?_
                      rotate_left
                      · intro w'
                        go_simp
                        with_reducible rfl
                      rotate_left
                      · simp only [Act.put, List.setIfInBounds_toArray, List.set_cons_zero, List.set_cons_succ, i64_w, i32_w]
                        rfl
                      refine take_ (i := 0) (N := some 37) (v := ?_) (a' := ?_) #[true, true, true, true, false, false] rfl rfl (by kernel_rfl) (fun _ _ _ h => h) (Or.inl ⟨by rfl, ?_⟩) hHeld ?_ ?_
                      rotate_left
                      · rintro w' ⟨s0, s1, s2, s3⟩
                        go_simp
                        with_reducible rfl
                      rotate_left
                      · simp only [Act.put, List.setIfInBounds_toArray, List.set_cons_zero, List.set_cons_succ, i64_w, i32_w]
                        rfl
                      refine take_ (i := 4) (N := some 41) (v := ?_) (a' := ?_) #[true, true, true, true, true, false] rfl rfl (by kernel_rfl) (fun _ _ _ h => h) (Or.inl ⟨by rfl, ?_⟩) hHeld ?_ ?_
                      rotate_left
                      · rintro w' ⟨s0, s1, s2, s3⟩
                        go_simp
                        with_reducible rfl
                      rotate_left
                      · simp only [Act.put, List.setIfInBounds_toArray, List.set_cons_zero, List.set_cons_succ, i64_w, i32_w]
                        rfl
                      refine one_ (i := 5) (N := some 42) #[true, true, true, true, true, true] rfl rfl (by kernel_rfl) (by decide) (fun K hK => ?_)
                      refine goes_ Tryz.func32 (by kernel_rfl) rfl #[.agg #[.string a1_0, .string a1_1], .agg #[.string ((rd_T24 l0 x7_2).f0), .string ((rd_T24 l0 x7_2).f1)]] (by rfl) rfl rfl (by (try simp only [List.map_toArray, List.map_cons, List.map_nil]); first | done | rfl | (simp only [List.length_drop, List.length_take]; rfl)) ?_
                      with_reducible refine (graftwoodref05_Less.calls k2 a1_0 a1_1 ((rd_T24 l0 x7_2).f0) ((rd_T24 l0 x7_2).f1) true _ A19.out).mono ?_
                      rintro e w23 ⟨rfl, hb⟩
                      refine ⟨_, rfl, ?_⟩
                      have n0_ := Aside0.mk (Kd.R_below (by (with_reducible repeat (first | apply Kd.R_alloc | apply Kd.R_drewN | apply Kd.R_drew)); exact HO_5.out) hb)
                      have n1_ := Aside0.mk (blk_below (g := gb252) (o := .cells #[.string a1_0, .string a1_1] 24 (0, 0)) (by (with_reducible repeat (first | refine blk_drewN ?_ _ | refine blk_drew ?_ | refine blk_alloc ?_ _)); exact BK252.out) hb)
                      have n2_ := Aside0.mk (below_step (by repeat (first | (with_reducible first | exact HB.out | apply below_alloc | apply pw_below_drewN | apply below_drew1 | refine below_set ?_ GE252.out) | exact HB.out)) hb)
                      clear HO_5 BK252 HB
                      have HO_5 := n0_
                      have BK252 := n1_
                      have HB := n2_
                      clear n0_ n1_ n2_
                      (try clear hb)
                      (try clear hb2)
                      (try clear hk)
                      (try clear hi)
                      refine hK.out _ _ ⟨(blk_cell BK252.out 0).trans rfl, (blk_cell BK252.out 1).trans rfl, ((HB.out.cell (World.block_lt_of_cell? w _ hw262_0)).trans hw262_0), ((HB.out.cell (World.block_lt_of_cell? w _ hw262_1)).trans hw262_1)⟩ (fun hHeld => ?_)
                      clear hK K
                      refine nz_ 42 ?_
                      refine done_ (by kernel_rfl) ?_
                      have p264 : 0 ≤ (x7_2 : Int) := of_decide_eq_true (by first | (with_reducible assumption) | assumption)
                      have q264 : x7_2 < (l0.length : Int) := of_decide_eq_true (by first | (with_reducible assumption) | assumption)
                      obtain ⟨ad264, e264, hx264_0, hx264_1⟩ := at_T24 HR0.out x7_2 p264 q264
                      obtain rfl : ad262 = ad264 := (by injection e264)
                      replace hx264_0 := (HB.out.cell (World.block_lt_of_cell? w _ hx264_0)).trans hx264_0
                      replace hx264_1 := (HB.out.cell (World.block_lt_of_cell? w _ hx264_1)).trans hx264_1
                      replace p264 := eq_true p264
                      replace q264 := eq_true q264
                      try go_wp2_with (first | ((with_reducible refine gate_builtin (b := .append) (xs := #[.tmp 43, .tmp 48]) rfl ?_); at_builtin; refine Kd.R_append k24 (w0 := w) w.heap.size rfl (.tmp 43) (.tmp 48) 22 24 (.agg #[(.string ⟨#[]⟩), (.string ⟨#[]⟩)]) 32 rfl Tryz.underlying22 info24 rfl (by decide) (by omega) u5 x5_2 (⟨(rd_T24 l0 x7_2).f0, (rd_T24 l0 x7_2).f1⟩ : S24) [.string ((rd_T24 l0 x7_2).f0), .string ((rd_T24 l0 x7_2).f1)] (fun k_ => k_ ≠ gb252) (fun _ => False) rfl rfl ?aP (fun _ hk => hk.elim) ?aF ?aO ?aB ?aS ?aL ?_; (case aP => exact k24_mkM _ _ _ (⟨(rd_T24 l0 x7_2).f0, (rd_T24 l0 x7_2).f1⟩ : S24)); (case aB => exact (by repeat (first | (with_reducible first | exact HB.out | apply below_alloc | apply pw_below_drewN | apply below_drew1 | refine below_set ?_ GE252.out) | exact HB.out))); (case aF => exact (fun k_ hk => Kd.freshB (g := gb252) (o := .cells #[.string a1_0, .string a1_1] 24 (0, 0)) (by (with_reducible repeat (first | refine blk_drewN ?_ _ | refine blk_drew ?_ | refine blk_alloc ?_ _)); exact BK252.out) k_ hk)); (case aO => exact (by (with_reducible repeat (first | apply Kd.R_alloc | apply Kd.R_drewN | apply Kd.R_drew)); exact HO_5.out)); (case aS => exact (below_size (by repeat (first | (with_reducible first | exact HB.out | apply below_alloc | apply pw_below_drewN | apply below_drew1 | refine below_set ?_ GE252.out) | exact HB.out)))); (case aL => have := LMc21.out; omega); intro v266 w24 ho hb hg hat; rw [← Ny265.out] at ho; have n0_ := Aside0.mk (blk_grown (g := gb252) (o := .cells #[.string a1_0, .string a1_1] 24 (0, 0)) (by (with_reducible repeat (first | refine blk_drewN ?_ _ | refine blk_drew ?_ | refine blk_alloc ?_ _)); exact BK252.out) hg (Kd.R_away HO_5.out (fun _ hk => hk))); have n1_ := Aside0.mk (hb); have n2_ := Aside0.mk (ho); clear BK252; clear HB; clear HO_5; have BK252 := n0_; have HB := n1_; have HO267 := n2_; clear n0_ n1_ n2_; clear ho hb hg hat))
                      go_roundg k2
                      case measure => have := HK1.out; have := HK2.out; omega
                      case rel => exact ⟨(y265), (wrap64 (x7_2 + 1)), (by first | rfl | (simp; done) | (simp [*]; done)), H', ⟨by have := HK1.out; have := HK2.out; omega⟩, ⟨by (with_reducible repeat (first | apply Kd.R_alloc | apply Kd.R_drewN | apply Kd.R_drew)); exact HO267.out⟩, ⟨by (with_reducible repeat (first | refine blk_drewN ?_ _ | refine blk_drew ?_ | refine blk_alloc ?_ _)); exact BK252.out⟩, ⟨by repeat (first | (with_reducible first | exact HB.out | apply below_alloc | apply pw_below_drewN | apply below_drew1 | refine below_set ?_ GE252.out) | exact HB.out)⟩⟩
                    · rw [if_neg c21] at H
                      exact absurd H (by simp)
                  · replace c20 := Bool.eq_false_iff.mpr c20
                    subst c20
                    have H1 : (graftwoodref05_With.l1 k2 l0 x5_2 (wrap64 (x7_2 + 1)) a1_0 a1_1) = some r := by rw [if_neg (show ¬ (false = true) by decide)] at H; exact H
                    clear H
                    have H := H1
                    clear H1
                    have H' := Aside0.mk H
                    clear H
                    try go_wp2
                    have n0_ := Aside0.mk (Kd.R_drew HO_5.out)
                    have n1_ := Aside0.mk (blk_drew BK252.out)
                    have n2_ := Aside0.mk (below_drew1 HB.out)
                    clear HO_5 BK252 HB
                    have HO_5 := n0_
                    have BK252 := n1_
                    have HB := n2_
                    clear n0_ n1_ n2_
                    have p262 : 0 ≤ (x7_2 : Int) := of_decide_eq_true (by first | (with_reducible assumption) | assumption)
                    have q262 : x7_2 < (l0.length : Int) := of_decide_eq_true (by first | (with_reducible assumption) | assumption)
                    obtain ⟨ad262, e262, hx262_0, hx262_1⟩ := at_T24 HR0.out x7_2 p262 q262
                    have hw262_1 := hx262_1
                    have hw262_0 := hx262_0
                    cases e262
                    replace hx262_0 := (HB.out.cell (World.block_lt_of_cell? w _ hx262_0)).trans hx262_0
                    replace hx262_1 := (HB.out.cell (World.block_lt_of_cell? w _ hx262_1)).trans hx262_1
                    replace p262 := eq_true p262
                    replace q262 := eq_true q262
                    refine start_ (n := 6) (S := fun w' => w'.cell? ⟨gb252, 0, none⟩ = some (.string a1_0) ∧ w'.cell? ⟨gb252, 1, none⟩ = some (.string a1_1) ∧ w'.cell? (ad262.add ((x7_2).toNat * 2)) = some (.string ((rd_T24 l0 x7_2).f0)) ∧ w'.cell? ⟨(ad262.add ((x7_2).toNat * 2)).block, (ad262.add ((x7_2).toNat * 2)).off + 1, none⟩ = some (.string ((rd_T24 l0 x7_2).f1))) (ds := []) #[false, false, false, false, false, false] (by kernel_rfl) rfl rfl ⟨(blk_cell BK252.out 0).trans rfl, (blk_cell BK252.out 1).trans rfl, ((HB.out.cell (World.block_lt_of_cell? w _ hw262_0)).trans hw262_0), ((HB.out.cell (World.block_lt_of_cell? w _ hw262_1)).trans hw262_1)⟩ (fun hHeld => ?_)
                    generalize wr.drew = w25 at HO_5 BK252 HB hx262_0 hx262_1 hHeld ⊢
                    refine pure_ (i := 1) (N := some 38) (v := ?_) (a' := ?_) #[false, true, false, false, false, false] rfl rfl (by kernel_rfl) (fun _ _ _ h => h) (Or.inl ⟨by rfl, ?_⟩) ?_ ?_
                    rotate_left
                    · intro w'
                      go_simp
                      with_reducible rfl
                    rotate_left
                    · simp only [Act.put, List.setIfInBounds_toArray, List.set_cons_zero, List.set_cons_succ, i64_w, i32_w]
                      rfl
                    refine pure_ (i := 2) (N := some 39) (v := ?_) (a' := ?_) #[false, true, true, false, false, false] rfl rfl (by kernel_rfl) (fun _ _ _ h => h) (Or.inl ⟨by rfl, ?_⟩) ?_ ?_
                    rotate_left
                    · intro w'
                      go_simp
                      with_reducible rfl
                    rotate_left
                    · simp only [Act.put, List.setIfInBounds_toArray, List.set_cons_zero, List.set_cons_succ, i64_w, i32_w]
                      rfl
                    refine pure_ (i := 3) (N := some 40) (v := ?_) (a' := ?_) #[false, true, true, true, false, false] rfl rfl (by kernel_rfl) (fun _ _ _ h => h) (Or.inl ⟨by rfl, ?_⟩) ?_ ?_
                    rotate_left
                    · intro w'
                      go_simp
                      with_reducible rfl
                    rotate_left
                    · simp only [Act.put, List.setIfInBounds_toArray, List.set_cons_zero, List.set_cons_succ, i64_w, i32_w]
                      rfl
                    refine take_ (i := 0) (N := some 37) (v := ?_) (a' := ?_) #[true, true, true, true, false, false] rfl rfl (by kernel_rfl) (fun _ _ _ h => h) (Or.inl ⟨by rfl, ?_⟩) hHeld ?_ ?_
                    rotate_left
                    · rintro w' ⟨s0, s1, s2, s3⟩
                      go_simp
                      with_reducible rfl
                    rotate_left
                    · simp only [Act.put, List.setIfInBounds_toArray, List.set_cons_zero, List.set_cons_succ, i64_w, i32_w]
                      rfl
                    refine take_ (i := 4) (N := some 41) (v := ?_) (a' := ?_) #[true, true, true, true, true, false] rfl rfl (by kernel_rfl) (fun _ _ _ h => h) (Or.inl ⟨by rfl, ?_⟩) hHeld ?_ ?_
                    rotate_left
                    · rintro w' ⟨s0, s1, s2, s3⟩
                      go_simp
                      with_reducible rfl
                    rotate_left
                    · simp only [Act.put, List.setIfInBounds_toArray, List.set_cons_zero, List.set_cons_succ, i64_w, i32_w]
                      rfl
                    refine one_ (i := 5) (N := some 42) #[true, true, true, true, true, true] rfl rfl (by kernel_rfl) (by decide) (fun K hK => ?_)
                    refine goes_ Tryz.func32 (by kernel_rfl) rfl #[.agg #[.string a1_0, .string a1_1], .agg #[.string ((rd_T24 l0 x7_2).f0), .string ((rd_T24 l0 x7_2).f1)]] (by rfl) rfl rfl (by (try simp only [List.map_toArray, List.map_cons, List.map_nil]); first | done | rfl | (simp only [List.length_drop, List.length_take]; rfl)) ?_
                    with_reducible refine (graftwoodref05_Less.calls k2 a1_0 a1_1 ((rd_T24 l0 x7_2).f0) ((rd_T24 l0 x7_2).f1) false _ A19.out).mono ?_
                    rintro e w26 ⟨rfl, hb⟩
                    refine ⟨_, rfl, ?_⟩
                    have n0_ := Aside0.mk (Kd.R_below (by (with_reducible repeat (first | apply Kd.R_alloc | apply Kd.R_drewN | apply Kd.R_drew)); exact HO_5.out) hb)
                    have n1_ := Aside0.mk (blk_below (g := gb252) (o := .cells #[.string a1_0, .string a1_1] 24 (0, 0)) (by (with_reducible repeat (first | refine blk_drewN ?_ _ | refine blk_drew ?_ | refine blk_alloc ?_ _)); exact BK252.out) hb)
                    have n2_ := Aside0.mk (below_step (by repeat (first | (with_reducible first | exact HB.out | apply below_alloc | apply pw_below_drewN | apply below_drew1 | refine below_set ?_ GE252.out) | exact HB.out)) hb)
                    clear HO_5 BK252 HB
                    have HO_5 := n0_
                    have BK252 := n1_
                    have HB := n2_
                    clear n0_ n1_ n2_
                    (try clear hb)
                    (try clear hb2)
                    (try clear hk)
                    (try clear hi)
                    refine hK.out _ _ ⟨(blk_cell BK252.out 0).trans rfl, (blk_cell BK252.out 1).trans rfl, ((HB.out.cell (World.block_lt_of_cell? w _ hw262_0)).trans hw262_0), ((HB.out.cell (World.block_lt_of_cell? w _ hw262_1)).trans hw262_1)⟩ (fun hHeld => ?_)
                    clear hK K
                    refine nz_ 42 ?_
                    refine done_ (by kernel_rfl) ?_
                    try go_wp2
                    go_roundg k2
                    case measure => have := HK1.out; have := HK2.out; omega
                    case rel => exact ⟨(x5_2), (wrap64 (x7_2 + 1)), (by first | rfl | (simp; done) | (simp [*]; done)), H', ⟨by have := HK1.out; have := HK2.out; omega⟩, ⟨by (with_reducible repeat (first | apply Kd.R_alloc | apply Kd.R_drewN | apply Kd.R_drew)); exact HO_5.out⟩, ⟨by (with_reducible repeat (first | refine blk_drewN ?_ _ | refine blk_drew ?_ | refine blk_alloc ?_ _)); exact BK252.out⟩, ⟨by repeat (first | (with_reducible first | exact HB.out | apply below_alloc | apply pw_below_drewN | apply below_drew1 | refine below_set ?_ GE252.out) | exact HB.out)⟩⟩
                · rw [if_neg c18] at H
                  exact absurd H (by simp)
              · rw [if_neg c17] at H
                have c17b0 : decide (x7_2 < (l0.length : Int)) = false := decide_eq_false c17
                clear c17
                obtain rfl := Option.some.inj H
                go_wp2
                go_ret
                exact ⟨_, by first | rfl | (simp [errW_none, errW_some] <;> rfl) | (simp [*, errW_none, errW_some] <;> rfl), by (with_reducible repeat (first | apply Kd.R_alloc | apply Kd.R_drewN | apply Kd.R_drew)); exact Kd.R_mono HO_5.out (fun _ hk => trivial), by repeat (first | (with_reducible first | exact HB.out | apply below_alloc | apply pw_below_drewN | apply below_drew1 | refine below_set ?_ GE252.out) | exact HB.out)⟩
        · rw [if_neg c14] at H
          exact absurd H (by simp)
/-! ### graftwoodref05_Set: function 27 -/
def graftwoodref05_Set.l0 : Nat → List (S24) → List (S24) → Int → Option ((List (S24)))
  | 0, _, _, _ => none
  | k + 1, x0, x3, x4 => if x4 < (x0.length : Int) then (if 0 ≤ x4 then ((graftwoodref05_With.f k x3 ((rd_T24 x0 x4).f0) ((rd_T24 x0 x4).f1)).bind fun t269 => (graftwoodref05_Set.l0 k x0 t269 (wrap64 (x4 + 1)))) else (none)) else (some x3)
def graftwoodref05_Set.f (k : Nat) (l0 : List (S24)) : Option ((List (S24))) := graftwoodref05_Set.l0 k l0 ([] : List (S24)) 0
set_option maxHeartbeats 8000000 in
set_option maxRecDepth 100000 in
theorem graftwoodref05_Set.calls (k : Nat) (A0 : Option Addr) (c0 : Nat) (l0 : List (S24)) (r : List (S24)) (w : World) (hr0 : Kd.C k24 w A0 l0.length l0) (hc0 : l0.length ≤ c0) (h : graftwoodref05_Set.f k l0 = some r) :
    Calls Tryz.prog 27 #[.slice A0 l0.length c0] w fun e w' => ∃ v0_ : Value, e = .returned (v0_) ∧ Kd.R k24 24 w' w.heap.size (fun _ => True) v0_ r ∧ Below w.heap.size w w' := by
  have hu24 := Tryz.underlying24
  have HR0 := Aside0.mk hr0
  have HC0 := Aside0.mk hc0
  clear hr0 hc0
  have HB := Aside0.mk (Below.refl w.heap.size w)
  have H : (graftwoodref05_Set.l0 k l0 ([] : List (S24)) 0) = some r := h
  clear h
  have H' := Aside0.mk H
  clear H
  go_enter Tryz.func27, Tryz.ntmps27
  go_wp2
  go_loopg [3, 4] k (fun kq v3 v4 w' => ∃ (x3_1 : List (S24)) (x4_1 : Int), v4 = .int .i64 x4_1 ∧ Aside0 (graftwoodref05_Set.l0 kq l0 x3_1 x4_1 = some r) ∧ Aside0 (kq ≤ k) ∧ Aside0 (Kd.R k24 24 w' w.heap.size (fun _ => True) v3 x3_1) ∧ Aside0 (Below w.heap.size w w'))
  case atStart => exact ⟨(([] : List (S24))), (0), (by first | rfl | (simp; done) | (simp [*]; done)), H', ⟨Nat.le_refl _⟩, ⟨by first | exact Kd.R_nil _ _ _ _ _ | exact Kd.N_nil _ _ _ _ _ | exact Kd.V_nil _ _ _ _ _ | exact Kd.Q_nil _ _ _ _ _ | exact Kd.S_nil _ _ _ _ _⟩, ⟨by repeat (first | (with_reducible first | exact HB.out | apply below_alloc | apply pw_below_drewN | apply below_drew1) | exact HB.out)⟩⟩
  case round =>
    clear H'
    obtain ⟨x3_1, x4_1, rfl, HA, HK1, HO_3, HB⟩ := hrel
    cases gk with
    | zero => exact absurd HA.out (by simp [graftwoodref05_Set.l0])
    | succ k1 =>
      have H := HA.out
      clear HA
      simp only [graftwoodref05_Set.l0] at H
      by_cases c2 : x4_1 < (l0.length : Int)
      · rw [if_pos c2] at H
        have c2b0 : decide (x4_1 < (l0.length : Int)) = true := decide_eq_true c2
        clear c2
        by_cases c3 : 0 ≤ x4_1
        · rw [if_pos c3] at H
          have c3b0 : decide (0 ≤ x4_1) = true := decide_eq_true c3
          clear c3
          replace H := Option.bind_eq_some_iff.mp H
          obtain ⟨t269, A40, H⟩ := H
          replace H : (graftwoodref05_Set.l0 k1 l0 t269 (wrap64 (x4_1 + 1))) = some r := H
          have A4 := Aside0.mk A40
          clear A40
          have H' := Aside0.mk H
          clear H
          have p268 : 0 ≤ (x4_1 : Int) := of_decide_eq_true (by first | (with_reducible assumption) | assumption)
          have q268 : x4_1 < (l0.length : Int) := of_decide_eq_true (by first | (with_reducible assumption) | assumption)
          obtain ⟨ad268, e268, hx268_0, hx268_1⟩ := at_T24 HR0.out x4_1 p268 q268
          cases e268
          replace hx268_0 := (HB.out.cell (World.block_lt_of_cell? w _ hx268_0)).trans hx268_0
          replace hx268_1 := (HB.out.cell (World.block_lt_of_cell? w _ hx268_1)).trans hx268_1
          replace p268 := eq_true p268
          replace q268 := eq_true q268
          obtain ⟨Ao5, co5, eo5⟩ := Kd.R_slice HO_3.out
          subst eo5
          go_wp2_with (first | ((with_reducible refine gate_callee (f := 39) rfl ?_); refine goesL_ (some 16) rfl rfl Tryz.func39 (by kernel_rfl) rfl #[.slice Ao5 x3_1.length co5, .agg #[.string ((rd_T24 l0 x4_1).f0), .string ((rd_T24 l0 x4_1).f1)]] rfl (by (try simp only [List.map_toArray, List.map_cons, List.map_nil]); first | done | rfl | (simp only [List.length_drop, List.length_take]; rfl)) ?_; (with_reducible refine (graftwoodref05_With.calls k1 _ _ x3_1 ((rd_T24 l0 x4_1).f0) ((rd_T24 l0 x4_1).f1) t269 _ ?side1 ?side2 A4.out).mono ?_); (case side1 => repeat (first | exact (Kd.R_reads' HO_3.out).2.2 | (with_reducible refine Kd.C_alloc ?_ _) | (with_reducible refine Kd.C_drewN ?_ _) | (with_reducible refine Kd.C_drew ?_))); (case side2 => exact (Kd.R_reads' HO_3.out).2.1); rintro e w6 ⟨v270, rfl, ho0, hb⟩; refine ⟨_, rfl, ?_⟩; have n0_ := Aside0.mk (Kd.R_elder' (by (with_reducible repeat (first | apply Kd.R_alloc | apply Kd.R_drewN | apply Kd.R_drew)); exact HO_3.out) (Kd.R_base ho0) hb); have n1_ := Aside0.mk (Kd.R_lower (Kd.R_new' ho0 (Kd.R_lt (by (with_reducible repeat (first | apply Kd.R_alloc | apply Kd.R_drewN | apply Kd.R_drew)); exact HO_3.out))) (below_size (by repeat (first | (with_reducible first | exact HB.out | apply below_alloc | apply pw_below_drewN | apply below_drew1) | exact HB.out)))); have n2_ := Aside0.mk (below_step (by repeat (first | (with_reducible first | exact HB.out | apply below_alloc | apply pw_below_drewN | apply below_drew1) | exact HB.out)) hb); clear HO_3; clear HB; have HO_3 := n0_; have HO271 := n1_; have HB := n2_; clear n0_ n1_ n2_; (try clear hb); (try clear hb2); (try clear hk); (try clear hi); (try clear ho0)))
          go_roundg k1
          case measure => have := HK1.out; omega
          case rel => exact ⟨(t269), (wrap64 (x4_1 + 1)), (by first | rfl | (simp; done) | (simp [*]; done)), H', ⟨by have := HK1.out; omega⟩, ⟨by (with_reducible repeat (first | apply Kd.R_alloc | apply Kd.R_drewN | apply Kd.R_drew)); exact Kd.R_mono HO271.out (fun _ hk => trivial)⟩, ⟨by repeat (first | (with_reducible first | exact HB.out | apply below_alloc | apply pw_below_drewN | apply below_drew1) | exact HB.out)⟩⟩
        · rw [if_neg c3] at H
          exact absurd H (by simp)
      · rw [if_neg c2] at H
        have c2b0 : decide (x4_1 < (l0.length : Int)) = false := decide_eq_false c2
        clear c2
        obtain rfl := Option.some.inj H
        go_wp2
        go_ret
        exact ⟨_, by first | rfl | (simp [errW_none, errW_some] <;> rfl) | (simp [*, errW_none, errW_some] <;> rfl), by (with_reducible repeat (first | apply Kd.R_alloc | apply Kd.R_drewN | apply Kd.R_drew)); exact HO_3.out, by repeat (first | (with_reducible first | exact HB.out | apply below_alloc | apply pw_below_drewN | apply below_drew1) | exact HB.out)⟩
end Go.Proofs.YtcfphieogalnbaaGreatDoor.Q
end

section
namespace Go.Proofs.YtcfphieogalnbaaGreatDoor.Q
open Go.Proofs.YtcfphieogalnbaaGreatDoor.QB.D
open Go Go.RowKit Go.Lib Go.Proofs.YtcfphieogalnbaaGreatDoorW.PrintWords Go.Proofs.YtcfphieogalnbaaGreatDoorW.PrintLast Go.Proofs.YtcfphieogalnbaaGreatDoorW.PrintMore Gw
set_option linter.unusedVariables false
set_option linter.unusedSimpArgs false
theorem less_val (k : Nat) (x y : S24) (hx : Brief x) (hy : Brief y) (gx : GoodN x) (gy : GoodN y) (hk : 900 ≤ k) : graftwoodref05_Less.f k x.f0 x.f1 y.f0 y.f1 = some (decide (ordN x y < 0)) := by
  have h0 : Small x.f0 := by have := hx.1; unfold Small; omega
  have h1 : Small y.f0 := by have := hy.1; unfold Small; omega
  unfold graftwoodref05_Less.f
  rw [rcmp1_val _ _ h0 h1 k (by have := hx.1; omega)]
  have hc : graftwoodref03_Cmp.f x.f1 y.f1 = some (verC (vOf (bs x.f1)) (vOf (bs y.f1))) := by
    unfold graftwoodref03_Cmp.f
    rw [if_pos ⟨⟨gx.2.1, gy.2.1⟩, gx.2.2, gy.2.2⟩]
  rw [hc]
  simp only [Option.bind_some]
  have ho : ordN x y = orI (lexC (bs x.f0) (bs y.f0)) (verC (vOf (bs x.f1)) (vOf (bs y.f1))) := rfl
  rw [ho]
  unfold orI
  by_cases c1 : lexC (bs x.f0) (bs y.f0) < 0
  · rw [if_pos c1, if_neg (by omega), decide_eq_true c1]
  · rw [if_neg c1]
    by_cases c2 : lexC (bs x.f0) (bs y.f0) = 0
    · rw [if_pos c2, if_pos c2]
    · rw [if_neg c2, if_neg c2, decide_eq_false c1]
theorem ref5May_val (k : Nat) (x : S24) (hx : Brief x) (hk : 900 ≤ k) : graftwoodref05_May.f k x.f0 x.f1 = some (mayN x) := by
  have h0 : Small x.f0 := by have := hx.1; unfold Small; omega
  have h1 : Small x.f1 := by have := hx.2; unfold Small; omega
  unfold graftwoodref05_May.f
  rw [ref4May_tot _ h0 k (by have := hx.1; omega)]
  unfold graftwoodref03_May.f graftwoodref03_Split.f
  rw [if_pos h1]
  simp only [Option.bind_some]
  rw [splitV_ok]
  show _ = some (isPath (bs x.f0) && isVersion (bs x.f1))
  cases isPath (bs x.f0) <;> rfl
theorem all13_l0 (l : List S24) (hl : l.length ≤ 65536) (hb : ∀ x ∈ l, Brief x) : ∀ (r i k : Nat), i + r = l.length → r + 1000 ≤ k → graftwoodlaw13_all.l0 k l (i : Int) = some ((l.drop i).all mayN) := by
  intro r
  induction r with
  | zero =>
    intro i k hi hk
    obtain ⟨j, rfl⟩ : ∃ j, k = j + 1 := ⟨k - 1, by omega⟩
    simp only [graftwoodlaw13_all.l0]
    rw [if_neg (by omega), List.drop_eq_nil_of_le (by omega)]
    rfl
  | succ r ih =>
    intro i k hi hk
    obtain ⟨j, rfl⟩ : ∃ j, k = j + 1 := ⟨k - 1, by omega⟩
    have hil : i < l.length := by omega
    have hrd : rd_T24 l (i : Int) = l[i] := by simp [rd_T24, List.getD_eq_getElem?_getD, List.getElem?_eq_getElem hil]
    have hwr : wrap64 ((i : Int) + 1) = ((i + 1 : Nat) : Int) := by unfold wrap64; omega
    simp only [graftwoodlaw13_all.l0]
    rw [if_pos (by omega), if_pos (by omega), hrd, ref5May_val j l[i] (hb _ (List.getElem_mem hil)) (by omega), List.drop_eq_getElem_cons hil, List.all_cons]
    simp only [Option.bind_some]
    cases mayN l[i]
    · rfl
    · rw [if_pos rfl, hwr, ih (i + 1) j (by omega) (by omega), Bool.true_and]
theorem all13_val (l : List S24) (hl : l.length ≤ 65536) (hb : ∀ x ∈ l, Brief x) (k : Nat) (hk : l.length + 1000 ≤ k) : graftwoodlaw13_all.f k l = some (l.all mayN) := by
  have h := all13_l0 l hl hb l.length 0 k (by omega) (by omega)
  rwa [List.drop_zero] at h
theorem rwith_l1 (l : List S24) (t : S24) (hl : l.length ≤ 2147483648) (hb : ∀ x ∈ l, Brief x) (hg : ∀ x ∈ l, GoodN x) (bt : Brief t) (gt : GoodN t) : ∀ (n i k : Nat) (acc : List S24), l.length ≤ i + n → i ≤ l.length → n + 1000 ≤ k → acc.length ≤ 4294967296 + i →
    graftwoodref05_With.l1 k l acc (i : Int) t.f0 t.f1 = some (acc ++ (l.drop i).filter (fun x => decide (ordN t x < 0))) := by
  intro n
  induction n with
  | zero =>
    intro i k acc h1 h2 hk ha
    obtain ⟨j, rfl⟩ : ∃ j, k = j + 1 := ⟨k - 1, by omega⟩
    simp only [graftwoodref05_With.l1]
    rw [if_neg (by omega), List.drop_of_length_le (by omega)]
    simp
  | succ n ih =>
    intro i k acc h1 h2 hk ha
    obtain ⟨j, rfl⟩ : ∃ j, k = j + 1 := ⟨k - 1, by omega⟩
    by_cases hi : i < l.length
    · have hm := List.getElem_mem hi
      have hwr : wrap64 ((i : Int) + 1) = ((i + 1 : Nat) : Int) := by unfold wrap64; omega
      simp only [graftwoodref05_With.l1]
      rw [if_pos (by omega), if_pos (by omega), rd_nat hi, less_val j t l[i] bt (hb _ hm) gt (hg _ hm) (by omega), List.drop_eq_getElem_cons hi, hwr]
      simp only [Option.bind_some]
      by_cases ho : ordN t l[i] < 0
      · rw [decide_eq_true ho, if_pos rfl, if_pos (by omega), List.filter_cons_of_pos (by simp [ho]), ih (i + 1) j _ (by omega) (by omega) (by omega) (by simp; omega)]
        simp
      · rw [decide_eq_false ho, if_neg (by decide), List.filter_cons_of_neg (by simp [ho]), ih (i + 1) j _ (by omega) (by omega) (by omega) (by omega)]
    · exact ih i (j + 1) acc (by omega) h2 (by omega) ha
theorem rwith_l0 (l : List S24) (t : S24) (hl : l.length ≤ 2147483648) (hb : ∀ x ∈ l, Brief x) (hg : ∀ x ∈ l, GoodN x) (bt : Brief t) (gt : GoodN t) : ∀ (n i k : Nat) (acc : List S24), l.length ≤ i + n → i ≤ l.length → n + l.length + 1001 ≤ k → acc.length ≤ i →
    graftwoodref05_With.l0 k l acc (i : Int) t.f0 t.f1 = some (acc ++ (l.drop i).filter (fun x => decide (ordN x t < 0)) ++ [t] ++ l.filter (fun x => decide (ordN t x < 0))) := by
  intro n
  induction n with
  | zero =>
    intro i k acc h1 h2 hk ha
    obtain ⟨j, rfl⟩ : ∃ j, k = j + 1 := ⟨k - 1, by omega⟩
    have h9 := rwith_l1 l t hl hb hg bt gt l.length 0 j (acc ++ [t]) (by omega) (Nat.zero_le _) (by omega) (by simp; omega)
    simp only [graftwoodref05_With.l0]
    rw [if_neg (by omega), if_pos (by omega), List.drop_of_length_le (by omega)]
    refine h9.trans ?_
    simp
  | succ n ih =>
    intro i k acc h1 h2 hk ha
    obtain ⟨j, rfl⟩ : ∃ j, k = j + 1 := ⟨k - 1, by omega⟩
    by_cases hi : i < l.length
    · have hm := List.getElem_mem hi
      have hwr : wrap64 ((i : Int) + 1) = ((i + 1 : Nat) : Int) := by unfold wrap64; omega
      simp only [graftwoodref05_With.l0]
      rw [if_pos (by omega), if_pos (by omega), rd_nat hi, less_val j l[i] t (hb _ hm) bt (hg _ hm) gt (by omega), List.drop_eq_getElem_cons hi, hwr]
      simp only [Option.bind_some]
      by_cases ho : ordN l[i] t < 0
      · rw [decide_eq_true ho, if_pos rfl, if_pos (by omega), List.filter_cons_of_pos (by simp [ho]), ih (i + 1) j _ (by omega) (by omega) (by omega) (by simp; omega)]
        simp
      · rw [decide_eq_false ho, if_neg (by decide), List.filter_cons_of_neg (by simp [ho]), ih (i + 1) j _ (by omega) (by omega) (by omega) (by omega)]
    · exact ih i (j + 1) acc (by omega) h2 (by omega) ha
theorem rwith_val (l : List S24) (t : S24) (hl : l.length ≤ 2147483648) (hb : ∀ x ∈ l, Brief x) (hg : ∀ x ∈ l, GoodN x) (bt : Brief t) (gt : GoodN t) (k : Nat) (hk : 2 * l.length + 1001 ≤ k) :
    graftwoodref05_With.f k l t.f0 t.f1 = some (rwithN l t) := by
  have h := rwith_l0 l t hl hb hg bt gt l.length 0 k [] (by omega) (Nat.zero_le _) (by omega) (Nat.le_refl _)
  rw [List.drop_zero] at h
  exact h
theorem filter_two {α : Type} (p q : α → Bool) : ∀ (l : List α), (∀ x ∈ l, ¬ (p x = true ∧ q x = true)) → (l.filter p).length + (l.filter q).length ≤ l.length
  | [], _ => by simp
  | x :: r, h => by
    have ih := filter_two p q r (fun y hy => h y (List.mem_cons_of_mem _ hy))
    have hx := h x List.mem_cons_self
    simp only [List.filter_cons, List.length_cons]
    cases hp : p x <;> cases hq : q x <;> simp_all <;> omega
theorem rwithN_len {l : List S24} {t : S24} (hg : ∀ x ∈ l, GoodN x) (gt : GoodN t) : (rwithN l t).length ≤ l.length + 1 := by
  have h := filter_two (fun x => decide (ordN x t < 0)) (fun x => decide (ordN t x < 0)) l (fun x hx h => by
    have h1 : ordN x t < 0 := of_decide_eq_true h.1
    have h2 : ordN t x < 0 := of_decide_eq_true h.2
    have := ordN_to.sym x t (hg x hx) gt
    omega)
  unfold rwithN
  simp only [List.length_append, List.length_cons, List.length_nil]
  omega
theorem rset_l0 (l : List S24) (hl : l.length ≤ 2147483648) (hb : ∀ x ∈ l, Brief x) (hm : ∀ x ∈ l, mayN x = true) : ∀ (n i k : Nat) (acc : List S24), l.length ≤ i + n → i ≤ l.length → n + 2 * l.length + 1002 ≤ k → acc.length ≤ i → (∀ x ∈ acc, Brief x ∧ GoodN x) →
    graftwoodref05_Set.l0 k l acc (i : Int) = some ((l.drop i).foldl rwithN acc) := by
  intro n
  induction n with
  | zero =>
    intro i k acc h1 h2 hk ha hx
    obtain ⟨j, rfl⟩ : ∃ j, k = j + 1 := ⟨k - 1, by omega⟩
    simp only [graftwoodref05_Set.l0]
    rw [if_neg (by omega), List.drop_of_length_le (by omega)]
    rfl
  | succ n ih =>
    intro i k acc h1 h2 hk ha hx
    obtain ⟨j, rfl⟩ : ∃ j, k = j + 1 := ⟨k - 1, by omega⟩
    by_cases hi : i < l.length
    · have hmm := List.getElem_mem hi
      have bt := hb _ hmm
      have gt := mayN_good bt.tiny (hm _ hmm)
      have hwr : wrap64 ((i : Int) + 1) = ((i + 1 : Nat) : Int) := by unfold wrap64; omega
      have hlen := rwithN_len (fun x h => (hx x h).2) gt
      simp only [graftwoodref05_Set.l0]
      rw [if_pos (by omega), if_pos (by omega), rd_nat hi, rwith_val acc l[i] (by omega) (fun x h => (hx x h).1) (fun x h => (hx x h).2) bt gt j (by omega), List.drop_eq_getElem_cons hi, hwr]
      simp only [Option.bind_some]
      rw [ih (i + 1) j _ (by omega) (by omega) (by omega) (by omega) (fun x h => by
        rcases (mem_rwithN (fun x h => (hx x h).2) gt x).1 h with e | e
        · exact hx x e
        · subst e; exact ⟨bt, gt⟩)]
      rfl
    · exact ih i (j + 1) acc (by omega) h2 (by omega) ha hx
theorem rset_val (l : List S24) (hl : l.length ≤ 2147483648) (hb : ∀ x ∈ l, Brief x) (hm : ∀ x ∈ l, mayN x = true) (k : Nat) (hk : 3 * l.length + 1002 ≤ k) : graftwoodref05_Set.f k l = some (rsetN l) := by
  have h := rset_l0 l hl hb hm l.length 0 k [] (by omega) (Nat.zero_le _) (by omega) (Nat.le_refl _) (fun x h => by cases h)
  rw [List.drop_zero] at h
  exact h
end Go.Proofs.YtcfphieogalnbaaGreatDoor.Q
end
