/- Part 10 of this claim: several texts one behind the other: DVers, DVSplit, DFpathElements, DFpathMay, DFversionMay, DFnodeMay, DVVal, DVCmp. What each shows stands in its theorems; conditions: sizes of texts and lists, as the functions' definitions say. -/
import Derived.Test.YtodkjmbmlobihaaGreatDoorMWhyDepths6
import Derived.Test.YtodkjmbmlobihaaGreatDoorMWhyDepths9
import Derived.Test.YtodkjmbmlobihaaGreatDoorMWhyDepths8
import Derived.RegionTactic
import Derived.BigRegion
import Derived.ChangeAlike
import Derived.ChangeKeysEq
import Derived.Deep.QuietTactic
import Derived.BigQuiet
import Derived.Deep.RegionHeld3
section
namespace Go.Proofs.YtodkjmbmlobihaaGreatDoor.QB.D
open Go.Proofs.YtodkjmbmlobihaaGreatDoor.Q
open Go.RowKit Go.Lib Go.Proofs.YtodkjmbmlobihaaGreatDoorW.PrintWords Go.Proofs.YtodkjmbmlobihaaGreatDoorW.PrintLast Go.Proofs.YtodkjmbmlobihaaGreatDoorW.PrintMore Gw
set_option linter.unusedVariables false
set_option linter.unusedSimpArgs false
theorem in_dig : ∀ c < 256, decide ((cls c : Int) ∈ ([1] : List Int)) = dig c := by decide +kernel
theorem all_of {l : List Nat} (ho : ∀ c ∈ l, c < 256) {p q : Nat → Bool} (h : ∀ c < 256, p c = q c) : l.all p = l.all q := by
 rw [Bool.eq_iff_iff, List.all_eq_true, List.all_eq_true]
 exact ⟨fun g c hc => by rw [← h c (ho c hc)]; exact g c hc, fun g c hc => by rw [h c (ho c hc)]; exact g c hc⟩
theorem All_dig (s : ByteArray) (hs : Small s) : octet_All.f s [1] = some ((bs s).all dig) := by
 unfold octet_All.f
 rw [if_pos hs, all_of (bs_oct s) in_dig]
theorem All_elc (s : ByteArray) (hs : Small s) : octet_All.f s [1, 2, 3] = some ((bs s).all elc) := by
 unfold octet_All.f
 rw [if_pos hs, all_of (bs_oct s) in_elc]
theorem toList_nil (s : ByteArray) : (s.toList = ([] : List UInt8)) ↔ bs s = [] := by
 rw [ByteArray.toList_eq]
 simp [bs]
theorem number_May_tot (s : ByteArray) (hs : Small s) : number_May.f s = some (isNum (bs s)) := by
 unfold number_May.f
 by_cases he : bs s = []
 ·rw [if_pos ((toList_nil s).2 he), he]; rfl
 ·rw [if_neg (fun h => he ((toList_nil s).1 h)), All_dig s hs]
  simp only [Option.bind_some]
  obtain ⟨c, r, hb⟩ : ∃ c r, bs s = c :: r := by
   cases h : bs s with
   | nil => exact absurd h he
   | cons c r => exact ⟨c, r, rfl⟩
  have hsz : s.size = r.length + 1 := by rw [← bs_length, hb]; rfl
  have hd : (bs s).drop 0 = c :: r := by simpa using hb
  have hc := (bt_drop hd).2.1
  rw [show ((0 : Nat) : Int) = 0 from rfl] at hc
  by_cases ha : (bs s).all dig = true
  ·rw [if_pos ha, if_pos (by omega), hc]
   unfold isNum
   rw [ha, hb]
   by_cases h48 : c = 48
   ·rw [if_pos (by omega)]
    subst h48
    cases r with
    | nil => rw [hsz]; rfl
    | cons x r =>
     have : ((s.size : Int) == 1) = false := beq_eq_false_iff_ne.2 (by rw [hsz]; simp; omega)
     rw [this]; rfl
   ·rw [if_neg (by omega)]
    simp [h48]
  ·rw [if_neg ha]
   unfold isNum
   rw [Bool.eq_false_iff.2 ha]; rfl
theorem may_calls (s : ByteArray) (hs : Small s) (w : World) : Calls Tryz.prog 79 #[.string s] w fun e w' => e = .returned (.bool (isNum (bs s))) ∧ Below w.heap.size w w' := number_May.calls s _ w (number_May_tot s hs)
theorem wch_iff : ∀ c < 256, wch c = (elc c && !isDot c) := by decide +kernel
theorem wch_low : ∀ c < 256, 128 ≤ c → wch c = false := by decide +kernel
theorem word_no_dot {s : ByteArray} {b : Bool} (h : (∀ c ∈ bs s, c < 128) → b = (bs s).any isDot) (hb : b = true) : isWord (bs s) = false := by
 have hw : (bs s).all wch = false := by
  by_cases ha : ∀ c ∈ bs s, c < 128
  ·have := h ha
   rw [hb] at this
   obtain ⟨c, hc, hd⟩ := List.any_eq_true.1 this.symm
   rw [List.all_eq_false]
   exact ⟨c, hc, by rw [wch_iff c (bs_oct s c hc), hd]; simp⟩
  ·simp only [Classical.not_forall] at ha
   obtain ⟨c, hc, hd⟩ := ha
   rw [List.all_eq_false]
   exact ⟨c, hc, by rw [wch_low c (bs_oct s c hc) (by omega)]; simp⟩
 unfold isWord
 rw [hw]; simp
theorem word_no_elc {s : ByteArray} (h : (bs s).all elc = false) : isWord (bs s) = false := by
 have hw : (bs s).all wch = false := by
  obtain ⟨c, hc, hd⟩ := List.all_eq_false.1 h
  rw [List.all_eq_false]
  exact ⟨c, hc, by rw [wch_iff c (bs_oct s c hc), Bool.eq_false_iff.2 hd]; simp⟩
 unfold isWord
 rw [hw]; simp
theorem word_yes {s : ByteArray} {b : Bool} (h : (∀ c ∈ bs s, c < 128) → b = (bs s).any isDot) (hb : b = false) (he : (bs s).all elc = true) (hn : bs s ≠ []) : isWord (bs s) = (isNum (bs s) || !(bs s).all dig) := by
 have ha : ∀ c ∈ bs s, c < 128 := fun c hc => by
  have h1 := List.all_eq_true.1 he c hc
  rcases Nat.lt_or_ge c 128 with hl | hl
  ·exact hl
  ·rw [elc_low c (bs_oct s c hc) hl] at h1; cases h1
 have hd := h ha
 rw [hb] at hd
 have hw : (bs s).all wch = true := by
  rw [List.all_eq_true]
  intro c hc
  have h1 := List.any_eq_false.1 hd.symm c hc
  rw [wch_iff c (bs_oct s c hc), List.all_eq_true.1 he c hc, Bool.eq_false_iff.2 h1]; rfl
 unfold isWord
 rw [hw]
 have : (bs s).isEmpty = false := by cases hq : bs s with | nil => exact absurd hq hn | cons _ _ => rfl
 rw [this]
 cases isNum (bs s) <;> cases (bs s).all dig <;> rfl
set_option maxHeartbeats 4000000 in
set_option maxRecDepth 1000000 in
theorem vword_calls (s : ByteArray) (hs : Tiny s) (w : World) : Calls Tryz.prog 80 #[.string s] w fun e w' => e = .returned (.bool (isWord (bs s))) ∧ Below w.heap.size w w' := by
 have hsm := hs.small
 have hcd := contains_dots s hs
 have hal := fun w0 : World => octet_All.calls s (some ⟨w0.heap.size, 0, none⟩) 3 [1, 2, 3] _ (w0.alloc (.cells #[.int .i64 1, .int .i64 2, .int .i64 3] 3)) (row_ints w0 [1, 2, 3] 3 (by decide)) (by decide) (All_elc s hsm)
 have had := fun w0 : World => octet_All.calls s (some ⟨w0.heap.size, 0, none⟩) 1 [1] _ (w0.alloc (.cells #[.int .i64 1] 3)) (row_ints w0 [1] 3 (by decide)) (by decide) (All_dig s hsm)
 have hmy := may_calls s hsm
 by_cases he : bs s = []
 ·have hl : (s.toList == ([] : List UInt8)) = true := by rw [beq_iff_eq]; exact (toList_nil s).2 he
  have hw : isWord (bs s) = false := by rw [he]; rfl
  have Hw := Aside0.mk hw
  clear hw hal had hmy hcd hs hsm he
  go_enter Tryz.func80, Tryz.ntmps80
  go_wp2
  go_ret
  exact ⟨by rw [Hw.out]; rfl, Below.refl _ _⟩
 ·have hl : (s.toList == ([] : List UInt8)) = false := by rw [beq_eq_false_iff_ne]; exact fun h => he ((toList_nil s).1 h)
  go_enter Tryz.func80, Tryz.ntmps80
  go_wp2_with fail
  refine (hcd _).mono ?_
  rintro e w1 ⟨b, rfl, hb, hb1⟩
  cases b
  case true =>
   have hw := word_no_dot hb rfl
   have Hw := Aside0.mk hw
   clear hw hb hal had hmy hcd hs hsm he
   go_wp2
   go_ret
   exact ⟨by rw [Hw.out]; rfl, hb1⟩
  case false =>
   have HB1 := Aside0.mk hb1
   have Hb := Aside0.mk hb
   clear hb1 hb
   go_wp2_with fail
   refine (hal _).mono ?_
   rintro e w2 ⟨rfl, hb2⟩
   have hB2 : Below w.heap.size w w2 := (below_alloc' HB1.out _ HB1.out.size).trans (hb2.mono (by have := HB1.out.size; simp; omega))
   have HB2 := Aside0.mk hB2
   clear hb2 hB2
   cases hea : (bs s).all elc
   ·have hw := word_no_elc hea
    have Hw := Aside0.mk hw
    clear hw Hb hea hal had hmy hcd hs hsm he
    go_wp2
    go_ret
    exact ⟨by rw [Hw.out]; rfl, HB2.out⟩
   ·have hw := word_yes Hb.out rfl hea he
    generalize (bs s).all dig = d at hw had
    generalize isNum (bs s) = m at hw hmy
    have Hw := Aside0.mk hw
    clear hw Hb hea hcd hs hsm he
    go_wp2_with fail
    refine (hmy _).mono ?_
    rintro e w3 ⟨rfl, hb3⟩
    have hB3 : Below w.heap.size w w3 := HB2.out.trans (hb3.mono HB2.out.size)
    have HB3 := Aside0.mk hB3
    clear hb3 hB3
    cases m
    ·go_wp2_with fail
     refine (had _).mono ?_
     rintro e w4 ⟨rfl, hb4⟩
     have hB4 : Below w.heap.size w w4 := (below_alloc' HB3.out _ HB3.out.size).trans (hb4.mono (by have := HB3.out.size; simp; omega))
     have HB4 := Aside0.mk hB4
     clear hb4 hB4
     go_wp2
     go_ret
     exact ⟨by rw [Hw.out]; rfl, HB4.out⟩
    ·go_wp2
     go_ret
     exact ⟨by rw [Hw.out]; rfl, HB3.out⟩
abbrev V5 := ByteArray × ByteArray × ByteArray × List ByteArray × Int
def outE (o : Option VP) : V5 := match o with
 | some (a, b, c, l) => (ofB a, ofB b, ofB c, l.map ofB, 0)
 | none => (⟨#[]⟩, ⟨#[]⟩, ⟨#[]⟩, [], 1)
def VPost (v : V5) (w : World) (e : Ending) (w' : World) : Prop := ∃ u : Value, e = .returned (.tuple #[.agg #[.string v.1, .string v.2.1, .string v.2.2.1, u], .int .i64 v.2.2.2.2]) ∧ Kd.R Kd.string 9 w' w.heap.size (fun _ => True) u v.2.2.2.1 ∧ Below w.heap.size w w'
theorem prefix_v (s : ByteArray) : Lib.hasPrefix s.data.toList [118] = match bs s with | 118 :: _ => true | _ => false := by
 have h : bs s = s.data.toList.map UInt8.toNat := rfl
 rw [h]
 cases s.data.toList with
 | nil => rfl
 | cons c r =>
  rw [List.map_cons]
  by_cases hc : c = 118
  ·subst hc; simp [Lib.hasPrefix]
  ·have hn : c.toNat ≠ 118 := fun e => hc (UInt8.toNat_inj.1 e)
   have h1 : Lib.hasPrefix (c :: r) [118] = false := by
    simp [Lib.hasPrefix, List.isPrefixOf]
    exact fun e => hc e.symm
   rw [h1]
   split
   ·rename_i h2; injection h2 with h2 _; exact absurd h2 hn
   ·rfl
set_option maxHeartbeats 2000000 in
set_option maxRecDepth 100000 in
theorem vsplit_no (s : ByteArray) (hp : Lib.hasPrefix s.data.toList [118] = false) (w : World) : Calls Tryz.prog 62 #[.string s] w (VPost (outE none) w) := by
 have hu49 := Tryz.underlying75
 have hpp : ∀ w, Calls Tryz.prog 77 #[.string s, .string ⟨#[118]⟩] w fun e w' => e = .returned (.bool false) ∧ w' = w := fun w => by
  have h := Tryz.strings_HasPrefix s ⟨#[118]⟩ w
  rw [show (⟨#[118]⟩ : ByteArray).data.toList = [118] from rfl, hp] at h
  exact h
 go_enter Tryz.func62, Tryz.ntmps62
 go_wp2_with (go_at_call 77; refine (hpp _).mono ?_; rintro e w' ⟨rfl, rfl⟩)
 exact bodyPost_ret (v := .tuple #[.agg #[.string ⟨#[]⟩, .string ⟨#[]⟩, .string ⟨#[]⟩, .slice none 0 0], .int .i64 1]) (by simp [results, Tryz.results62, go_sem]) rfl ⟨_, rfl, Kd.R_nil _ _ _ _ _, below_alloc (Below.refl _ _) _⟩
theorem parts_calls (s : ByteArray) (hs : Tiny s) (w : World) : Calls Tryz.prog 75 #[.string s, .int .u8 46] w fun e w' => ∃ v, e = .returned v ∧ Kd.R Kd.string 9 w' w.heap.size (fun _ => True) v ((parts 46 (bs s)).map ofB) ∧ Below w.heap.size w w' :=
 octet_Parts.calls s 46 _ w (by unfold octet_Parts.f; rw [if_pos ⟨hs, by decide, by decide⟩]; rfl)
theorem ofB_oct {l : List Nat} (h : ∀ c ∈ l, c < 256) : (ofB l).size = l.length := by rw [← bs_length, bs_ofB h]
theorem cutDash_oct : ∀ {l : List Nat}, (∀ c ∈ l, c < 256) → (∀ c ∈ (cutDash l).1, c < 256) ∧ (cutDash l).1.length ≤ l.length ∧ ∀ p, (cutDash l).2 = some p → (∀ c ∈ p, c < 256) ∧ p.length ≤ l.length
 | [], _ => by simp [cutDash]
 | x :: r, h => by
  have ih := cutDash_oct (l := r) (fun c hc => h c (List.mem_cons_of_mem _ hc))
  unfold cutDash
  split
  ·refine ⟨fun c hc => (List.not_mem_nil hc).elim, Nat.zero_le _, fun p hp => ?_⟩
   injection hp with hp
   subst hp
   exact ⟨fun c hc => h c (List.mem_cons_of_mem _ hc), by simp⟩
  ·refine ⟨fun c hc => ?_, by simp; exact ih.2.1, fun p hp => ?_⟩
   ·rcases List.mem_cons.1 hc with rfl | hc
    ·exact h _ List.mem_cons_self
    ·exact ih.1 c hc
   ·have := ih.2.2 p hp
    exact ⟨this.1, by simp; omega⟩
theorem vR_cells {w : World} {base : Nat} {ok : Nat → Prop} {v : Value} {xs : List ByteArray} (h : Kd.R Kd.string 9 w base ok v xs) (hp : 0 < xs.length) : ∃ g c, v = .slice (some ⟨g, 0, none⟩) xs.length c ∧ base ≤ g ∧ g < w.heap.size ∧ ∀ i (hi : i < xs.length), w.cell? ⟨g, i, none⟩ = some (.string (xs[i])) := by
 obtain ⟨g, cap, rfl, h1, h2, _⟩ := Kd.R_form h hp
 refine ⟨g, cap, rfl, h1, h2, fun i hi => ?_⟩
 obtain ⟨ad, he, hc⟩ := Kd.at_string (Kd.R_reads' h).2.2 (i : Int) (by omega) (by omega)
 injection he with he
 subst he
 rw [add_plain, Int.toNat_natCast] at hc
 rw [hc]
 simp [rdOf, List.getD_eq_getElem?_getD, List.getElem?_eq_getElem hi]
set_option maxHeartbeats 4000000 in
set_option maxRecDepth 100000 in
theorem vsplit_yes (s : ByteArray) (hs : Tiny s) (h1 : 1 ≤ s.size) (hp : Lib.hasPrefix s.data.toList [118] = true) (core : List Nat) (pre : Option (List Nat)) (hcut : cutAt 45 ((bs s).drop 1) = (core, pre)) (ho : ∀ c ∈ core, c < 256) (hl : core.length ≤ s.size) (ho2 : ∀ p, pre = some p → (∀ c ∈ p, c < 256) ∧ p.length ≤ s.size)
 (v : V5) (hv : outE (vcore core pre) = v) (w : World) : Calls Tryz.prog 62 #[.string s] w (VPost v w) := by
 have hu49 := Tryz.underlying75
 have hpp : ∀ w, Calls Tryz.prog 77 #[.string s, .string ⟨#[118]⟩] w fun e w' => e = .returned (.bool true) ∧ w' = w := fun w => by
  have h := Tryz.strings_HasPrefix s ⟨#[118]⟩ w
  rw [show (⟨#[118]⟩ : ByteArray).data.toList = [118] from rfl, hp] at h
  exact h
 have hts : Tiny (s.extract 1 s.size) := by unfold Tiny at *; simp only [ByteArray.size_extract]; omega
 have hct : ∀ w, Calls Tryz.prog 78 #[.string (s.extract 1 s.size), .string ⟨#[45]⟩] w fun e w' => e = .returned (.tuple #[.string (cutOut (core, pre)).1, .string (cutOut (core, pre)).2.1, .bool (cutOut (core, pre)).2.2]) ∧ Drawn0 w w' := fun w => by
  have h := Cut_one 45 (s.extract 1 s.size) hts w
  have e : bs (s.extract 1 s.size) = (bs s).drop 1 := by rw [bs_extract, List.take_of_length_le (by rw [bs_length]; exact Nat.le_refl _)]
  rw [e, show (45 : UInt8).toNat = 45 from rfl, hcut] at h
  exact h
 have hoc : (cutOut (core, pre)).1 = ofB core := by cases pre <;> rfl
 have hpt := parts_calls (ofB core) (by unfold Tiny at *; rw [ofB_oct ho]; omega)
 rw [bs_ofB ho] at hpt
 rw [hoc] at hct
 generalize hxs : (parts 46 core).map ofB = xs at hpt
 have H1 : (1 : Int) ≤ (s.size : Int) := by omega
 have Hcut := Aside0.mk hcut
 have Hs := Aside0.mk hs
 have Hv := Aside0.mk hv
 have Hxs := Aside0.mk hxs
 have Ho2 := Aside0.mk ho2
 have Ho := Aside0.mk ho
 have Hl := Aside0.mk hl
 obtain ⟨has, hhas⟩ : ∃ b, b = (cutOut (core, pre)).2.2 := ⟨_, rfl⟩
 obtain ⟨pb, hpb⟩ : ∃ b, b = (cutOut (core, pre)).2.1 := ⟨_, rfl⟩
 rw [← hhas, ← hpb] at hct
 generalize ofB core = cb at hct hpt
 have Hhas := Aside0.mk hhas
 have Hpb := Aside0.mk hpb
 clear hcut hs hv hxs ho2 ho hl hts hp hoc hhas hpb
 go_enter Tryz.func62, Tryz.ntmps62
 go_wp2_with (go_at_call 77; refine (hpp _).mono ?_; rintro e w' ⟨rfl, hw⟩; rw [hw])
 go_wp2_with (go_at_call 78; refine (hct _).mono ?_; rintro e w1 ⟨rfl, ⟨n1, rfl⟩⟩)
 refine (hpt _).mono ?_
 rintro e w1 ⟨u, rfl, hR, hb⟩
 have hsz1 : w.heap.size < w1.heap.size := by have := hb.size; simp at this; omega
 have k2 : ∀ W, Below w1.heap.size w1 W → ∀ i, W.cell? ⟨w.heap.size, i, none⟩ = (#[.string ⟨#[]⟩, .string ⟨#[]⟩, .string ⟨#[]⟩, .slice none 0 0] : Array Value)[i]? := fun W hW i => by
  have h1 := (hb.block w.heap.size (by simp)).trans (show _ = some (Obj.cells #[.string ⟨#[]⟩, .string ⟨#[]⟩, .string ⟨#[]⟩, .slice none 0 0] 75 (0, 0)) from heap_alloc_last w _)
  exact blk_cell ((hW.block _ hsz1).trans h1) i
 have kf : ∀ W, Below w1.heap.size w1 W → ∀ i, W.frozen? ⟨w.heap.size, i, none⟩ = false := fun W hW i => by
  have h1 := (hb.block w.heap.size (by simp)).trans (show _ = some (Obj.cells #[.string ⟨#[]⟩, .string ⟨#[]⟩, .string ⟨#[]⟩, .slice none 0 0] 75 (0, 0)) from heap_alloc_last w _)
  exact blk_frozen ((hW.block _ hsz1).trans h1) i
 have hB : Below w.heap.size w w1 := (pw_below_drewN (below_alloc (Below.refl _ _) _) _).trans (hb.mono (by simp))
 have HB := Aside0.mk hB
 have K2 := Aside0.mk k2
 have KF := Aside0.mk kf
 clear hB hb k2 kf
 have Bw1 : Below w1.heap.size w1 w1 := Below.refl _ _
 by_cases h3 : xs.length = 3
 ·obtain ⟨x0, x1, x2, rfl⟩ : ∃ a b c, xs = [a, b, c] := by
   match xs, h3 with
   | [a, b, c], _ => exact ⟨a, b, c, rfl⟩
  obtain ⟨g, cap, rfl, hg1, hg2, hcs⟩ := vR_cells hR (by simp)
  have kx0 : ∀ W, Below w1.heap.size w1 W → W.cell? ⟨g, 0, none⟩ = some (.string x0) := fun W hW => (hW.cell (p := ⟨g, 0, none⟩) hg2).trans (hcs 0 (by simp))
  have kx1 : ∀ W, Below w1.heap.size w1 W → W.cell? ⟨g, 1, none⟩ = some (.string x1) := fun W hW => (hW.cell (p := ⟨g, 1, none⟩) hg2).trans (hcs 1 (by simp))
  have kx2 : ∀ W, Below w1.heap.size w1 W → W.cell? ⟨g, 2, none⟩ = some (.string x2) := fun W hW => (hW.cell (p := ⟨g, 2, none⟩) hg2).trans (hcs 2 (by simp))
  have KX0 := Aside0.mk kx0
  have KX1 := Aside0.mk kx1
  have KX2 := Aside0.mk kx2
  obtain ⟨a, b, c, hp3, e0, e1, e2⟩ : ∃ a b c, parts 46 core = [a, b, c] ∧ ofB a = x0 ∧ ofB b = x1 ∧ ofB c = x2 := by
   have h := Hxs.out
   rcases hp : parts 46 core with _ | ⟨a, _ | ⟨b, _ | ⟨c, _ | ⟨d, l⟩⟩⟩⟩ <;> rw [hp] at h <;> simp at h
   exact ⟨a, b, c, rfl, h.1, h.2.1, h.2.2⟩
  have hpo : ∀ p ∈ parts 46 core, (∀ c ∈ p, c < 256) ∧ p.length ≤ core.length := fun p hp => ⟨parts_oct Ho.out p hp, (parts_le core).1 p hp⟩
  have ha := hpo a (by rw [hp3]; simp)
  have hb := hpo b (by rw [hp3]; simp)
  have hc := hpo c (by rw [hp3]; simp)
  have hs0 : Small x0 := by rw [← e0]; unfold Small; rw [ofB_oct ha.1]; have := Hl.out; have := Hs.out; unfold Tiny at this; omega
  have hs1 : Small x1 := by rw [← e1]; unfold Small; rw [ofB_oct hb.1]; have := Hl.out; have := Hs.out; unfold Tiny at this; omega
  have hs2 : Small x2 := by rw [← e2]; unfold Small; rw [ofB_oct hc.1]; have := Hl.out; have := Hs.out; unfold Tiny at this; omega
  have hsp : v = outE (if isNum (bs x0) && isNum (bs x1) && isNum (bs x2) then vpre a b c pre else none) := by
   rw [← Hv.out, ← e0, ← e1, ← e2, bs_ofB ha.1, bs_ofB hb.1, bs_ofB hc.1]
   unfold vcore
   rw [hp3]
  generalize hb0 : isNum (bs x0) = b0 at hsp
  generalize hb1 : isNum (bs x1) = b1 at hsp
  generalize hb2 : isNum (bs x2) = b2 at hsp
  have E0 := Aside0.mk hb0
  have E1 := Aside0.mk hb1
  have E2 := Aside0.mk hb2
  have Hsp := Aside0.mk hsp
  have X0 := Aside0.mk e0
  have X1 := Aside0.mk e1
  have X2 := Aside0.mk e2
  have d0w1 := KX0.out w1 Bw1
  clear hsp h3 hb0 hb1 hb2 e0 e1 e2 ha hb hc hpo hp3 hcs kx0 kx1 kx2 hR
  go_wp2_with fail
  refine (may_calls x0 hs0 _).mono ?_
  rintro e w2 ⟨rfl, hbw2⟩
  have Bw2 : Below w1.heap.size w1 w2 := Bw1.trans (hbw2.mono Bw1.size)
  clear hbw2
  rw [E0.out]
  cases b0
  ·have hvz : v = outE none := Hsp.out
   subst hvz
   have HBc : Below w.heap.size w w2 := HB.out.trans (Bw2.mono HB.out.size)
   have q0w2 : w2.cell? ⟨w.heap.size, 0, none⟩ = some (.string ⟨#[]⟩) := K2.out w2 Bw2 0
   have q1w2 : w2.cell? ⟨w.heap.size, 1, none⟩ = some (.string ⟨#[]⟩) := K2.out w2 Bw2 1
   have q2w2 : w2.cell? ⟨w.heap.size, 2, none⟩ = some (.string ⟨#[]⟩) := K2.out w2 Bw2 2
   have q3w2 : w2.cell? ⟨w.heap.size, 3, none⟩ = some (.slice none 0 0) := K2.out w2 Bw2 3
   have f0w2 : w2.frozen? ⟨w.heap.size, 0, none⟩ = false := KF.out w2 Bw2 0
   have f1w2 : w2.frozen? ⟨w.heap.size, 1, none⟩ = false := KF.out w2 Bw2 1
   have f2w2 : w2.frozen? ⟨w.heap.size, 2, none⟩ = false := KF.out w2 Bw2 2
   have f3w2 : w2.frozen? ⟨w.heap.size, 3, none⟩ = false := KF.out w2 Bw2 3
   clear Bw2
   go_wp2
   exact bodyPost_ret (v := .tuple #[.agg #[.string ⟨#[]⟩, .string ⟨#[]⟩, .string ⟨#[]⟩, .slice none 0 0], .int .i64 1]) (by simp [results, Tryz.results62, go_sem, q0w2, q1w2, q2w2, q3w2]) rfl ⟨_, rfl, Kd.R_nil _ _ _ _ _, by repeat (with_reducible first | exact HBc | refine below_set ?_ (by omega) | refine pw_below_drewN ?_ _ | refine below_drew ?_)⟩
  have d1w2 := KX1.out w2 Bw2
  go_wp2_with fail
  refine (may_calls x1 hs1 _).mono ?_
  rintro e w3 ⟨rfl, hbw3⟩
  have Bw3 : Below w1.heap.size w1 w3 := Bw2.trans (hbw3.mono Bw2.size)
  clear hbw3
  rw [E1.out]
  cases b1
  ·have hvz : v = outE none := Hsp.out
   subst hvz
   have HBc : Below w.heap.size w w3 := HB.out.trans (Bw3.mono HB.out.size)
   have q0w3 : w3.cell? ⟨w.heap.size, 0, none⟩ = some (.string ⟨#[]⟩) := K2.out w3 Bw3 0
   have q1w3 : w3.cell? ⟨w.heap.size, 1, none⟩ = some (.string ⟨#[]⟩) := K2.out w3 Bw3 1
   have q2w3 : w3.cell? ⟨w.heap.size, 2, none⟩ = some (.string ⟨#[]⟩) := K2.out w3 Bw3 2
   have q3w3 : w3.cell? ⟨w.heap.size, 3, none⟩ = some (.slice none 0 0) := K2.out w3 Bw3 3
   have f0w3 : w3.frozen? ⟨w.heap.size, 0, none⟩ = false := KF.out w3 Bw3 0
   have f1w3 : w3.frozen? ⟨w.heap.size, 1, none⟩ = false := KF.out w3 Bw3 1
   have f2w3 : w3.frozen? ⟨w.heap.size, 2, none⟩ = false := KF.out w3 Bw3 2
   have f3w3 : w3.frozen? ⟨w.heap.size, 3, none⟩ = false := KF.out w3 Bw3 3
   clear Bw3
   go_wp2
   exact bodyPost_ret (v := .tuple #[.agg #[.string ⟨#[]⟩, .string ⟨#[]⟩, .string ⟨#[]⟩, .slice none 0 0], .int .i64 1]) (by simp [results, Tryz.results62, go_sem, q0w3, q1w3, q2w3, q3w3]) rfl ⟨_, rfl, Kd.R_nil _ _ _ _ _, by repeat (with_reducible first | exact HBc | refine below_set ?_ (by omega) | refine pw_below_drewN ?_ _ | refine below_drew ?_)⟩
  have d2w3 := KX2.out w3 Bw3
  go_wp2_with fail
  refine (may_calls x2 hs2 _).mono ?_
  rintro e w4 ⟨rfl, hbw4⟩
  have Bw4 : Below w1.heap.size w1 w4 := Bw3.trans (hbw4.mono Bw3.size)
  clear hbw4
  rw [E2.out]
  cases b2
  ·have hvz : v = outE none := Hsp.out
   subst hvz
   have HBc : Below w.heap.size w w4 := HB.out.trans (Bw4.mono HB.out.size)
   have q0w4 : w4.cell? ⟨w.heap.size, 0, none⟩ = some (.string ⟨#[]⟩) := K2.out w4 Bw4 0
   have q1w4 : w4.cell? ⟨w.heap.size, 1, none⟩ = some (.string ⟨#[]⟩) := K2.out w4 Bw4 1
   have q2w4 : w4.cell? ⟨w.heap.size, 2, none⟩ = some (.string ⟨#[]⟩) := K2.out w4 Bw4 2
   have q3w4 : w4.cell? ⟨w.heap.size, 3, none⟩ = some (.slice none 0 0) := K2.out w4 Bw4 3
   have f0w4 : w4.frozen? ⟨w.heap.size, 0, none⟩ = false := KF.out w4 Bw4 0
   have f1w4 : w4.frozen? ⟨w.heap.size, 1, none⟩ = false := KF.out w4 Bw4 1
   have f2w4 : w4.frozen? ⟨w.heap.size, 2, none⟩ = false := KF.out w4 Bw4 2
   have f3w4 : w4.frozen? ⟨w.heap.size, 3, none⟩ = false := KF.out w4 Bw4 3
   clear Bw4
   go_wp2
   exact bodyPost_ret (v := .tuple #[.agg #[.string ⟨#[]⟩, .string ⟨#[]⟩, .string ⟨#[]⟩, .slice none 0 0], .int .i64 1]) (by simp [results, Tryz.results62, go_sem, q0w4, q1w4, q2w4, q3w4]) rfl ⟨_, rfl, Kd.R_nil _ _ _ _ _, by repeat (with_reducible first | exact HBc | refine below_set ?_ (by omega) | refine pw_below_drewN ?_ _ | refine below_drew ?_)⟩
  have q0w4 : w4.cell? ⟨w.heap.size, 0, none⟩ = some (.string ⟨#[]⟩) := K2.out w4 Bw4 0
  have q1w4 : w4.cell? ⟨w.heap.size, 1, none⟩ = some (.string ⟨#[]⟩) := K2.out w4 Bw4 1
  have q2w4 : w4.cell? ⟨w.heap.size, 2, none⟩ = some (.string ⟨#[]⟩) := K2.out w4 Bw4 2
  have q3w4 : w4.cell? ⟨w.heap.size, 3, none⟩ = some (.slice none 0 0) := K2.out w4 Bw4 3
  have f0w4 : w4.frozen? ⟨w.heap.size, 0, none⟩ = false := KF.out w4 Bw4 0
  have f1w4 : w4.frozen? ⟨w.heap.size, 1, none⟩ = false := KF.out w4 Bw4 1
  have f2w4 : w4.frozen? ⟨w.heap.size, 2, none⟩ = false := KF.out w4 Bw4 2
  have f3w4 : w4.frozen? ⟨w.heap.size, 3, none⟩ = false := KF.out w4 Bw4 3
  have y0 := KX0.out w4 Bw4
  have y1 := KX1.out w4 Bw4
  have y2 := KX2.out w4 Bw4
  have HB4 : Aside0 (Below w.heap.size w w4) := ⟨HB.out.trans (Bw4.mono HB.out.size)⟩
  have hz4 : w.heap.size < w4.heap.size := Nat.lt_of_lt_of_le hsz1 Bw4.size
  have z0 : ∀ o, (w4.alloc o).cell? ⟨g, 0, none⟩ = some (.string x0) := fun o => Lib.cell?_alloc_some _ y0
  have z1 : ∀ o, (w4.alloc o).cell? ⟨g, 1, none⟩ = some (.string x1) := fun o => Lib.cell?_alloc_some _ y1
  have z2 : ∀ o, (w4.alloc o).cell? ⟨g, 2, none⟩ = some (.string x2) := fun o => Lib.cell?_alloc_some _ y2
  have p0 : ∀ o, (w4.alloc o).cell? ⟨w.heap.size, 0, none⟩ = some (.string ⟨#[]⟩) := fun o => Lib.cell?_alloc_some _ q0w4
  have p1 : ∀ o, (w4.alloc o).cell? ⟨w.heap.size, 1, none⟩ = some (.string ⟨#[]⟩) := fun o => Lib.cell?_alloc_some _ q1w4
  have p2 : ∀ o, (w4.alloc o).cell? ⟨w.heap.size, 2, none⟩ = some (.string ⟨#[]⟩) := fun o => Lib.cell?_alloc_some _ q2w4
  have p3 : ∀ o, (w4.alloc o).cell? ⟨w.heap.size, 3, none⟩ = some (.slice none 0 0) := fun o => Lib.cell?_alloc_some _ q3w4
  have r0 : ∀ o, (w4.alloc o).frozen? ⟨w.heap.size, 0, none⟩ = false := fun o => KF.out _ (below_alloc' Bw4 o Bw4.size) 0
  have r1 : ∀ o, (w4.alloc o).frozen? ⟨w.heap.size, 1, none⟩ = false := fun o => KF.out _ (below_alloc' Bw4 o Bw4.size) 1
  have r2 : ∀ o, (w4.alloc o).frozen? ⟨w.heap.size, 2, none⟩ = false := fun o => KF.out _ (below_alloc' Bw4 o Bw4.size) 2
  have r3 : ∀ o, (w4.alloc o).frozen? ⟨w.heap.size, 3, none⟩ = false := fun o => KF.out _ (below_alloc' Bw4 o Bw4.size) 3
  have KB4 : Aside0 (∀ i, w4.cell? ⟨w.heap.size, i, none⟩ = (#[.string ⟨#[]⟩, .string ⟨#[]⟩, .string ⟨#[]⟩, .slice none 0 0] : Array Value)[i]?) := ⟨K2.out w4 Bw4⟩
  have KF4 : Aside0 (∀ i, w4.frozen? ⟨w.heap.size, i, none⟩ = false) := ⟨KF.out w4 Bw4⟩
  clear Bw1 Bw2 Bw3 Bw4 d0w1 d1w2 d2w3
  cases pre with
  | none =>
   have hh : has = false := Hhas.out
   subst hh
   have hvz : v = (x0, x1, x2, [], 0) := by
    rw [Hsp.out]
    show outE (some (a, b, c, [])) = _
    simp only [outE, X0.out, X1.out, X2.out]; rfl
   subst hvz
   go_wp2_with fail
   go_region
   go_wp2_with fail
   generalize hW : (((w4.setCell ⟨w.heap.size, 0, none⟩ (.string x0)).setCell ⟨w.heap.size, 1, none⟩ (.string x1)).setCell ⟨w.heap.size, 2, none⟩ (.string x2)).setCell ⟨w.heap.size, 3, none⟩ (.slice none 0 0) = W6
   have e0 : ∀ o, (W6.alloc o).cell? ⟨w.heap.size, 0, none⟩ = some (.string x0) := fun o => Lib.cell?_alloc_some _ (by rw [← hW]; simp [go_sem, q0w4])
   have e1 : ∀ o, (W6.alloc o).cell? ⟨w.heap.size, 1, none⟩ = some (.string x1) := fun o => Lib.cell?_alloc_some _ (by rw [← hW]; simp [go_sem, q1w4])
   have e2 : ∀ o, (W6.alloc o).cell? ⟨w.heap.size, 2, none⟩ = some (.string x2) := fun o => Lib.cell?_alloc_some _ (by rw [← hW]; simp [go_sem, q2w4])
   have e3 : ∀ o, (W6.alloc o).cell? ⟨w.heap.size, 3, none⟩ = some (.slice none 0 0) := fun o => Lib.cell?_alloc_some _ (by rw [← hW]; simp [go_sem, q3w4])
   have BW6 : Below w.heap.size w W6 := by rw [← hW]; repeat (with_reducible first | exact HB4.out | refine below_set ?_ (by omega) | refine pw_below_drewN ?_ _ | refine below_drew ?_)
   exact bodyPost_ret (v := .tuple #[.agg #[.string x0, .string x1, .string x2, .slice none 0 0], .int .i64 0]) (by simp [results, Tryz.results62, go_sem, e0, e1, e2, e3]) rfl ⟨_, rfl, Kd.R_nil _ _ _ _ _, by repeat (with_reducible first | exact below_alloc' BW6 _ BW6.size | refine pw_below_drewN ?_ _ | refine below_drew ?_)⟩
  | some p =>
   have hh : has = true := Hhas.out
   subst hh
   obtain ⟨hpo2, hpl⟩ := Ho2.out p rfl
   have hpbp : pb = ofB p := Hpb.out
   have hbp : bs pb = p := by rw [hpbp, bs_ofB hpo2]
   have htp : Tiny pb := by have := Hs.out; unfold Tiny at *; rw [hpbp, ofB_oct hpo2]; omega
   have hpt2 := parts_calls pb htp
   rw [hbp] at hpt2
   have hv2 : v = if (parts 46 p).all isWord then (x0, x1, x2, (parts 46 p).map ofB, 0) else outE none := by
    rw [Hsp.out]
    show outE (if (parts 46 p).all isWord then some (a, b, c, parts 46 p) else none) = _
    cases (parts 46 p).all isWord
    ·rfl
    ·simp only [if_true, outE, X0.out, X1.out, X2.out]
   have HV2 := Aside0.mk hv2
   clear hv2 hpbp
   go_wp2_with fail
   go_region
   go_wp2_with fail
   refine (hpt2 _).mono ?_
   rintro e w5 ⟨u5, rfl, hR5, hb5⟩
   have hss : ∀ x ∈ (parts 46 p).map ofB, Tiny x := fun x hx => by
    obtain ⟨q, hq, rfl⟩ := List.mem_map.1 hx
    unfold Tiny at *
    rw [ofB_oct (parts_oct hpo2 q hq)]
    have h1 := (parts_le (sep := 46) p).1 q hq
    have h2 := Hs.out
    unfold Tiny at h2
    omega
   have hall : ((parts 46 p).map ofB).all (fun x => isWord (bs x)) = (parts 46 p).all isWord := by rw [← hbp]; exact parts_all pb 46 isWord
   obtain ⟨q0, qs, hq2⟩ := parts_cons 46 p
   have hne : 0 < ((parts 46 p).map ofB).length := by rw [hq2]; simp
   have hyl : ((parts 46 p).map ofB).length ≤ 4294967290 := by
    have h1 := (parts_le (sep := 46) p).2
    have h2 := Hs.out
    unfold Tiny at h2
    rw [List.length_map]; omega
   generalize (parts 46 p).map ofB = ys at hR5 hss hall HV2 hne hyl
   clear hq2 hpt2 hbp htp hpo2 hpl
   obtain ⟨g5, cap5, rfl, hg51, hg52, hc5⟩ := vR_cells hR5 hne
   have hz5 : w4.heap.size < w5.heap.size := by have := hb5.size; simp at this; omega
   have hg5 : w4.heap.size < g5 := by simp at hg51; omega
   have a0 : ∀ i, w5.cell? ⟨w4.heap.size, i, none⟩ = (#[.string x0, .string x1, .string x2, .slice none 0 0] : Array Value)[i]? := fun i => blk_cell ((hb5.block w4.heap.size (by simp)).trans (heap_alloc_last w4 _)) i
   have af : ∀ i, w5.frozen? ⟨w4.heap.size, i, none⟩ = false := fun i => blk_frozen ((hb5.block w4.heap.size (by simp)).trans (heap_alloc_last w4 _)) i
   have a3 : w5.cell? ⟨w4.heap.size, 3, none⟩ = some (.slice none 0 0) := a0 3
   have af3 : w5.frozen? ⟨w4.heap.size, 3, none⟩ = false := af 3
   have hB45 : Below w4.heap.size w4 w5 := (below_drew (below_alloc (Below.refl _ _) _)).trans (hb5.mono (by simp))
   have HR5 := Aside0.mk hR5
   have HB5 : Aside0 (Below w.heap.size w w5) := ⟨HB4.out.trans (hB45.mono (by omega))⟩
   have hyl2 : (ys.length : Int) ≤ 4294967290 := by omega
   have b0 : ∀ i, w5.cell? ⟨w.heap.size, i, none⟩ = (#[.string ⟨#[]⟩, .string ⟨#[]⟩, .string ⟨#[]⟩, .slice none 0 0] : Array Value)[i]? := fun i => (hB45.cell (p := ⟨w.heap.size, i, none⟩) hz4).trans (KB4.out i)
   have bf : ∀ i, w5.frozen? ⟨w.heap.size, i, none⟩ = false := fun i => (hB45.frozen (p := ⟨w.heap.size, i, none⟩) hz4).trans (KF4.out i)
   obtain ⟨w6, hw6⟩ : ∃ w6, w6 = w5.setCell ⟨w4.heap.size, 3, none⟩ (.slice (some ⟨g5, 0, none⟩) ys.length cap5) := ⟨_, rfl⟩
   have sA : ∀ i, i < 4 → w6.cell? ⟨w4.heap.size, i, none⟩ = (#[.string x0, .string x1, .string x2, .slice (some ⟨g5, 0, none⟩) ys.length cap5] : Array Value)[i]? := fun i hi => by
    rw [hw6]
    match i, hi with
    | 0, _ => rw [World.cell?_setCell_other _ _ _ _ (by simp)]; exact a0 0
    | 1, _ => rw [World.cell?_setCell_other _ _ _ _ (by simp)]; exact a0 1
    | 2, _ => rw [World.cell?_setCell_other _ _ _ _ (by simp)]; exact a0 2
    | 3, _ => simp [go_sem, a3]
   have sB : ∀ i, w6.cell? ⟨w.heap.size, i, none⟩ = (#[.string ⟨#[]⟩, .string ⟨#[]⟩, .string ⟨#[]⟩, .slice none 0 0] : Array Value)[i]? := fun i => by
    rw [hw6, World.cell?_setCell_other _ _ _ _ (by first | (simp; done) | (simp; omega))]; exact b0 i
   have sC : ∀ i (hi : i < ys.length), w6.cell? ⟨g5, i, none⟩ = some (.string (ys[i])) := fun i hi => by
    rw [hw6, World.cell?_setCell_other _ _ _ _ (by first | (simp; done) | (simp; omega))]; exact hc5 i hi
   have sF : ∀ i, w6.frozen? ⟨w.heap.size, i, none⟩ = false := fun i => by rw [hw6]; simp [go_sem, bf]
   have hB6 : Below w.heap.size w w6 := by rw [hw6]; exact below_set HB5.out (by omega)
   have hR6 : Kd.R Kd.string 9 w6 w.heap.size (fun k => some k = (Value.slice (some ⟨g5, 0, none⟩) ys.length cap5).ownBlock) (.slice (some ⟨g5, 0, none⟩) ys.length cap5) ys := by
    rw [hw6]
    exact Kd.R_far (p := ⟨w4.heap.size, 3, none⟩) (Kd.R_tight rfl (Kd.R_lower HR5.out (by simp; omega))) (fun k hk => by simp [Value.ownBlock] at hk; simp; omega) _
   have hz6 : w5.heap.size = w6.heap.size := by rw [hw6]; simp
   have SA := Aside0.mk sA
   have SB := Aside0.mk sB
   have SC := Aside0.mk sC
   have SF := Aside0.mk sF
   have HB6 := Aside0.mk hB6
   have HR6 := Aside0.mk hR6
   have Hw6 := Aside0.mk hw6
   have Hss := Aside0.mk hss
   clear sA sB sC sF hB6 hR6 hw6 hss hc5 a0 af b0 bf HR5 HB5 hB45 hb5 hR5 hpt hct hpp q0w4 q1w4 q2w4 q3w4 f0w4 f1w4 f2w4 f3w4 y0 y1 y2 z0 z1 z2 p0 p1 p2 p3 r0 r1 r2 r3
   go_wp2_with fail
   rw [← Hw6.out]
   go_loopw [68] (fun v68 wr => ∃ i : Nat, i ≤ ys.length ∧ v68 = .int .i64 (i : Int) ∧ Aside0 (Below w6.heap.size w6 wr) ∧ Aside0 ((ys.take i).all (fun x => isWord (bs x)) = true)) (fun v68 _ => ys.length - (RowKit.intOf v68).toNat)
   case atStart => exact ⟨0, Nat.zero_le _, rfl, ⟨Below.refl _ _⟩, ⟨rfl⟩⟩
   case round =>
    obtain ⟨i, hi, rfl, HW, hA⟩ := hrel
    have hlt6 : w.heap.size < w6.heap.size := by omega
    have hg6 : g5 < w6.heap.size := by omega
    have h46 : w4.heap.size < w6.heap.size := by omega
    by_cases hil : i < ys.length
    ·have hce : wr.cell? ⟨g5, i, none⟩ = some (.string (ys[i])) := (HW.out.cell (p := ⟨g5, i, none⟩) hg6).trans (SC.out i hil)
     have hsx := Hss.out _ (List.getElem_mem hil)
     have hi0 : (i : Int) < (ys.length : Int) := by omega
     have hi1 : decide ((i : Int) < (ys.length : Int)) = true := decide_eq_true hi0
     have htk : ys.take (i + 1) = ys.take i ++ [ys[i]] := List.take_succ_eq_append_getElem hil
     have hmem : ys[i] ∈ ys := List.getElem_mem hil
     have Hmem := Aside0.mk hmem
     have Htk := Aside0.mk htk
     obtain ⟨y, hy⟩ : ∃ y, y = ys[i] := ⟨_, rfl⟩
     rw [← hy] at hce hsx Htk Hmem
     clear hmem htk hy
     go_wp2_with fail
     refine (vword_calls y hsx _).mono ?_
     rintro e w7 ⟨rfl, hb7⟩
     have hB67 : Below w6.heap.size w6 w7 := HW.out.trans (hb7.mono HW.out.size)
     have HB7 : Aside0 (Below w.heap.size w w7) := ⟨HB6.out.trans (hB67.mono (by omega))⟩
     have H67 := Aside0.mk hB67
     generalize hwy : isWord (bs y) = b7
     have Hwy := Aside0.mk hwy
     clear hwy hb7
     cases b7
     ·have hvz : v = outE none := by
       have hno : ys.all (fun x => isWord (bs x)) = false := by
        rw [List.all_eq_false]
        exact ⟨y, Hmem.out, by rw [Hwy.out]; decide⟩
       have := HV2.out
       rw [← hall, hno] at this
       exact this
      subst hvz
      have m0 : w7.cell? ⟨w.heap.size, 0, none⟩ = some (.string ⟨#[]⟩) := (hB67.cell (p := ⟨w.heap.size, 0, none⟩) hlt6).trans (SB.out 0)
      have m1 : w7.cell? ⟨w.heap.size, 1, none⟩ = some (.string ⟨#[]⟩) := (hB67.cell (p := ⟨w.heap.size, 1, none⟩) hlt6).trans (SB.out 1)
      have m2 : w7.cell? ⟨w.heap.size, 2, none⟩ = some (.string ⟨#[]⟩) := (hB67.cell (p := ⟨w.heap.size, 2, none⟩) hlt6).trans (SB.out 2)
      have m3 : w7.cell? ⟨w.heap.size, 3, none⟩ = some (.slice none 0 0) := (hB67.cell (p := ⟨w.heap.size, 3, none⟩) hlt6).trans (SB.out 3)
      have n0 : w7.frozen? ⟨w.heap.size, 0, none⟩ = false := (hB67.frozen (p := ⟨w.heap.size, 0, none⟩) hlt6).trans (SF.out 0)
      have n1 : w7.frozen? ⟨w.heap.size, 1, none⟩ = false := (hB67.frozen (p := ⟨w.heap.size, 1, none⟩) hlt6).trans (SF.out 1)
      have n2 : w7.frozen? ⟨w.heap.size, 2, none⟩ = false := (hB67.frozen (p := ⟨w.heap.size, 2, none⟩) hlt6).trans (SF.out 2)
      have n3 : w7.frozen? ⟨w.heap.size, 3, none⟩ = false := (hB67.frozen (p := ⟨w.heap.size, 3, none⟩) hlt6).trans (SF.out 3)
      clear hB67
      go_wp2
      exact bodyPost_ret (v := .tuple #[.agg #[.string ⟨#[]⟩, .string ⟨#[]⟩, .string ⟨#[]⟩, .slice none 0 0], .int .i64 1]) (by simp [results, Tryz.results62, go_sem, m0, m1, m2, m3]) rfl ⟨_, rfl, Kd.R_nil _ _ _ _ _, by repeat (with_reducible first | exact HB7.out | refine below_set ?_ (by omega) | refine pw_below_drewN ?_ _ | refine below_drew ?_)⟩
     ·clear hB67
      go_wp2
      go_roundw
      case rel => exact ⟨i + 1, by omega, by go_num, H67, ⟨by rw [Htk.out, List.all_append, hA.out]; simp [Hwy.out]⟩⟩
      case measure => simp [RowKit.intOf]; omega
    ·obtain rfl : i = ys.length := by omega
     have hi1 : decide ((ys.length : Int) < (ys.length : Int)) = false := decide_eq_false (by omega)
     have hvz : v = (x0, x1, x2, ys, 0) := by
      have h2 := hA.out
      rw [List.take_length] at h2
      have := HV2.out
      rw [← hall, h2] at this
      exact this
     subst hvz
     have BWr := HW.out
     have m0 : wr.cell? ⟨w.heap.size, 0, none⟩ = some (.string ⟨#[]⟩) := (BWr.cell (p := ⟨w.heap.size, 0, none⟩) hlt6).trans (SB.out 0)
     have m1 : wr.cell? ⟨w.heap.size, 1, none⟩ = some (.string ⟨#[]⟩) := (BWr.cell (p := ⟨w.heap.size, 1, none⟩) hlt6).trans (SB.out 1)
     have m2 : wr.cell? ⟨w.heap.size, 2, none⟩ = some (.string ⟨#[]⟩) := (BWr.cell (p := ⟨w.heap.size, 2, none⟩) hlt6).trans (SB.out 2)
     have m3 : wr.cell? ⟨w.heap.size, 3, none⟩ = some (.slice none 0 0) := (BWr.cell (p := ⟨w.heap.size, 3, none⟩) hlt6).trans (SB.out 3)
     have n0 : wr.frozen? ⟨w.heap.size, 0, none⟩ = false := (BWr.frozen (p := ⟨w.heap.size, 0, none⟩) hlt6).trans (SF.out 0)
     have n1 : wr.frozen? ⟨w.heap.size, 1, none⟩ = false := (BWr.frozen (p := ⟨w.heap.size, 1, none⟩) hlt6).trans (SF.out 1)
     have n2 : wr.frozen? ⟨w.heap.size, 2, none⟩ = false := (BWr.frozen (p := ⟨w.heap.size, 2, none⟩) hlt6).trans (SF.out 2)
     have n3 : wr.frozen? ⟨w.heap.size, 3, none⟩ = false := (BWr.frozen (p := ⟨w.heap.size, 3, none⟩) hlt6).trans (SF.out 3)
     have o0 : wr.cell? ⟨w4.heap.size, 0, none⟩ = some (.string x0) := (BWr.cell (p := ⟨w4.heap.size, 0, none⟩) h46).trans (SA.out 0 (by decide))
     have o1 : wr.cell? ⟨w4.heap.size, 1, none⟩ = some (.string x1) := (BWr.cell (p := ⟨w4.heap.size, 1, none⟩) h46).trans (SA.out 1 (by decide))
     have o2 : wr.cell? ⟨w4.heap.size, 2, none⟩ = some (.string x2) := (BWr.cell (p := ⟨w4.heap.size, 2, none⟩) h46).trans (SA.out 2 (by decide))
     have o3 : wr.cell? ⟨w4.heap.size, 3, none⟩ = some (.slice (some ⟨g5, 0, none⟩) ys.length cap5) := (BWr.cell (p := ⟨w4.heap.size, 3, none⟩) h46).trans (SA.out 3 (by decide))
     have HRr := Aside0.mk (Kd.R_below HR6.out BWr)
     have HBr : Aside0 (Below w.heap.size w wr) := ⟨HB6.out.trans (BWr.mono (by omega))⟩
     have hk : ∀ k, some k = (Value.slice (some ⟨g5, 0, none⟩) ys.length cap5).ownBlock → k ≠ w.heap.size := fun k hk => by simp [Value.ownBlock] at hk; omega
     have Hk := Aside0.mk hk
     clear hk BWr
     go_wp2
     exact bodyPost_ret (v := .tuple #[.agg #[.string x0, .string x1, .string x2, .slice (some ⟨g5, 0, none⟩) ys.length cap5], .int .i64 0]) (by simp [results, Tryz.results62, go_sem, m0, m1, m2, m3]) rfl ⟨_, rfl, Kd.R_mono (Kd.R_far (p := ⟨w.heap.size, 3, none⟩) (Kd.R_far (p := ⟨w.heap.size, 2, none⟩) (Kd.R_far (p := ⟨w.heap.size, 1, none⟩) (Kd.R_far (p := ⟨w.heap.size, 0, none⟩) HRr.out Hk.out _) Hk.out _) Hk.out _) Hk.out _) (fun _ _ => trivial), by repeat (with_reducible first | exact HBr.out | refine below_set ?_ (by omega) | refine pw_below_drewN ?_ _ | refine below_drew ?_)⟩
 ·have l3 : ((xs.length : Int) != 3) = true := bne_iff_ne.2 (by omega)
  have hvz : v = outE none := by
   rw [← Hv.out]
   congr 1
   unfold vcore
   have h := congrArg List.length Hxs.out
   rw [List.length_map] at h
   split
   ·rename_i hq
    rw [hq] at h
    exact absurd h.symm h3
   ·rfl
  subst hvz
  obtain ⟨A, c, rfl⟩ := Kd.R_slice hR
  have q0 : w1.cell? ⟨w.heap.size, 0, none⟩ = some (.string ⟨#[]⟩) := K2.out w1 Bw1 0
  have q1 : w1.cell? ⟨w.heap.size, 1, none⟩ = some (.string ⟨#[]⟩) := K2.out w1 Bw1 1
  have q2 : w1.cell? ⟨w.heap.size, 2, none⟩ = some (.string ⟨#[]⟩) := K2.out w1 Bw1 2
  have q3 : w1.cell? ⟨w.heap.size, 3, none⟩ = some (.slice none 0 0) := K2.out w1 Bw1 3
  have f0 := KF.out w1 Bw1 0
  have f1 := KF.out w1 Bw1 1
  have f2 := KF.out w1 Bw1 2
  have f3 := KF.out w1 Bw1 3
  clear h3 hR Bw1
  go_wp2
  exact bodyPost_ret (v := .tuple #[.agg #[.string ⟨#[]⟩, .string ⟨#[]⟩, .string ⟨#[]⟩, .slice none 0 0], .int .i64 1]) (by simp [results, Tryz.results62, go_sem, q0, q1, q2, q3]) rfl ⟨_, rfl, Kd.R_nil _ _ _ _ _, by repeat (with_reducible first | exact HB.out | refine below_set ?_ (by omega) | refine pw_below_drewN ?_ _ | refine below_drew ?_)⟩
theorem VSplit_any (s : ByteArray) (hs : Tiny s) (w : World) : Calls Tryz.prog 62 #[.string s] w (VPost (outE (vparts (bs s))) w) := by
 have hp := prefix_v s
 cases hb : bs s with
 | nil =>
  rw [hb] at hp
  exact vsplit_no s hp w
 | cons c r =>
  rw [hb] at hp
  by_cases hc : c = 118
  ·subst hc
   have hr : (bs s).drop 1 = r := by rw [hb]; rfl
   have hro : ∀ x ∈ r, x < 256 := fun x hx => bs_oct s x (by rw [hb]; exact List.mem_cons_of_mem _ hx)
   have hrl : s.size = r.length + 1 := by rw [← bs_length, hb]; rfl
   have ho := cutDash_oct hro
   refine vsplit_yes s hs (by omega) hp (cutDash r).1 (cutDash r).2 (by rw [hr, cutAt_dash]) ho.1 (by have := ho.2.1; omega) (fun p hp => ⟨(ho.2.2 p hp).1, by have := (ho.2.2 p hp).2; omega⟩) _ ?_ w
   rfl
  ·have h2 : Lib.hasPrefix s.data.toList [118] = false := by
    rw [hp]
    split
    ·rename_i h; injection h with h _; exact absurd h hc
    ·rfl
   have h3 : vparts (c :: r) = none := by
    unfold vparts
    split
    ·rename_i h; injection h with h _; exact absurd h hc
    ·rfl
   rw [h3]
   exact vsplit_no s h2 w
def version_Split.f (a0 : ByteArray) : Option V5 := if Tiny a0 then some (outE (vparts (bs a0))) else none
theorem version_Split.calls (a0 : ByteArray) (r1 : ByteArray) (r2 : ByteArray) (r3 : ByteArray) (r4 : List ByteArray) (r5 : Int) (w : World) (h : version_Split.f a0 = some (r1, r2, r3, r4, r5)) :
 Calls Tryz.prog 62 #[.string a0] w fun e w' => ∃ v3_ : Value, e = .returned (.tuple #[.agg #[.string r1, .string r2, .string r3, v3_], .int .i64 r5]) ∧ Kd.R Kd.string 9 w' w.heap.size (fun _ => True) v3_ r4 ∧ Below w.heap.size w w' := by
 unfold version_Split.f at h
 by_cases hs : Tiny a0
 ·rw [if_pos hs] at h
  have := VSplit_any a0 hs w
  rw [Option.some.inj h] at this
  exact this
 ·rw [if_neg hs] at h
  cases h
end Go.Proofs.YtodkjmbmlobihaaGreatDoor.QB.D
end
section
namespace Go.Proofs.YtodkjmbmlobihaaGreatDoor.QB.D
open Go.Proofs.YtodkjmbmlobihaaGreatDoor.Q
open Go.RowKit Go.Proofs.YtodkjmbmlobihaaGreatDoorW.PrintWords Go.Proofs.YtodkjmbmlobihaaGreatDoorW.PrintLast Go.Proofs.YtodkjmbmlobihaaGreatDoorW.PrintMore
attribute [local go_sem] max2_int min2_int max_two min_two max_three min_three max_four min_four   -- for this text's walks alone
set_option linter.unusedVariables false
set_option linter.unusedSimpArgs false
def path_Elements.l0 : Nat → List ByteArray → List ByteArray → Int → Int → Option (List ByteArray × Int)
 | 0, _, _, _, _ => none
 | k + 1, x4, x9, x10, x11 => if x11 < x10 then (if 0 ≤ x11 then (if x11 < (x9.length : Int) then ((path_element.f (rdOf ByteArray.empty x9 x11)).bind fun t118 => (if t118 = true then (path_Elements.l0 k x4 x9 x10 (wrap64 (x11 + 1))) else (some (([] : List ByteArray), 1)))) else (none)) else (none)) else (some (x4, 0))
def path_Elements.f (k : Nat) (a0 : ByteArray) : Option (List ByteArray × Int) := (octet_Parts.f a0 47).bind fun t114 => (path_Elements.l0 k t114 t114 (t114.length : Int) 0)
set_option maxHeartbeats 8000000 in
set_option maxRecDepth 100000 in
theorem path_Elements.calls (k : Nat) (a0 : ByteArray) (r1 : List ByteArray) (r2 : Int) (w : World) (h : path_Elements.f k a0 = some (r1, r2)) :
 Calls Tryz.prog 61 #[.string a0] w fun e w' => ∃ v0_ : Value, e = .returned (.tuple #[v0_, .int .i64 r2]) ∧ Kd.R Kd.string 9 w' w.heap.size (fun _ => True) v0_ r1 ∧ Below w.heap.size w w' := by
 have HB := Aside0.mk (Below.refl w.heap.size w)
 have H : ((octet_Parts.f a0 47).bind fun t114 => (path_Elements.l0 k t114 t114 (t114.length : Int) 0)) = some (r1, r2) := h
 clear h
 replace H := Option.bind_eq_some_iff.mp H
 obtain ⟨t114, A20, H⟩ := H
 replace H : (path_Elements.l0 k t114 t114 (t114.length : Int) 0) = some (r1, r2) := H
 have A2 := Aside0.mk A20
 clear A20
 have H' := Aside0.mk H
 clear H
 go_enter Tryz.func61, Tryz.ntmps61
 go_wp2_with (first | ((with_reducible refine gate_callee (f := 75) rfl ?_); refine goesL_ (some 8) rfl rfl Tryz.func75 (by kernel_rfl) rfl #[.string a0, .int .u8 47] rfl (by (try simp only [List.map_toArray, List.map_cons, List.map_nil]); first | done | rfl | (simp only [List.length_drop, List.length_take]; rfl)) ?_; (with_reducible refine (octet_Parts.calls a0 47 t114 _ A2.out).mono ?_); rintro e w3 ⟨v115, rfl, ho0, hb⟩; refine ⟨_, rfl, ?_⟩; have n0_ := Aside0.mk (Kd.R_lower ho0 (below_size (by repeat (first | (with_reducible first | exact HB.out | apply below_alloc | apply pw_below_drewN | apply below_drew1) | exact HB.out)))); have n1_ := Aside0.mk (below_step (by repeat (first | (with_reducible first | exact HB.out | apply below_alloc | apply pw_below_drewN | apply below_drew1) | exact HB.out)) hb); clear HB; have HO116 := n0_; have HB := n1_; clear n0_ n1_; (try clear hb); (try clear hb2); (try clear hk); (try clear hi); (try clear ho0); obtain ⟨Ao4, co4, eo4⟩ := Kd.R_slice HO116.out; subst eo4))
 go_loopg [11] k (fun kq v11 w' => ∃ (x11_1 : Int), v11 = .int .i64 x11_1 ∧ Aside0 (path_Elements.l0 kq t114 t114 (t114.length : Int) x11_1 = some (r1, r2)) ∧ Aside0 (kq ≤ k) ∧ Aside0 (Kd.R Kd.string 9 w' w.heap.size (fun _ => True) (.slice Ao4 t114.length co4) t114) ∧ Aside0 (Kd.R Kd.string 9 w' w.heap.size (fun _ => True) (.slice Ao4 t114.length co4) t114) ∧ Aside0 (Below w.heap.size w w'))
 case atStart => exact ⟨(0), (by first | rfl | (simp; done) | (simp [*]; done)), H', ⟨Nat.le_refl _⟩, ⟨by (with_reducible repeat (first | apply Kd.R_alloc | apply Kd.R_drewN | apply Kd.R_drew)); exact HO116.out⟩, ⟨by (with_reducible repeat (first | apply Kd.R_alloc | apply Kd.R_drewN | apply Kd.R_drew)); exact HO116.out⟩, ⟨by repeat (first | (with_reducible first | exact HB.out | apply below_alloc | apply pw_below_drewN | apply below_drew1) | exact HB.out)⟩⟩
 case round =>
  clear H'
  try clear p2
  obtain ⟨x11_1, rfl, HA, HK1, HO_4, HO_9, HB⟩ := hrel
  cases gk with
  | zero => exact absurd HA.out (by simp [path_Elements.l0])
  | succ k1 =>
   have H := HA.out
   clear HA
   simp only [path_Elements.l0] at H
   by_cases c5 : x11_1 < (t114.length : Int)
   ·rw [if_pos c5] at H
    have c5b0 : decide (x11_1 < (t114.length : Int)) = true := decide_eq_true c5
    clear c5
    by_cases c6 : 0 ≤ x11_1
    ·rw [if_pos c6] at H
     have c6b0 : decide (0 ≤ x11_1) = true := decide_eq_true c6
     clear c6
     by_cases c7 : x11_1 < (t114.length : Int)
     ·rw [if_pos c7] at H
      have c7b0 : decide (x11_1 < (t114.length : Int)) = true := decide_eq_true c7
      clear c7
      replace H := Option.bind_eq_some_iff.mp H
      obtain ⟨t118, A80, H⟩ := H
      replace H : (if t118 = true then (path_Elements.l0 k1 t114 t114 (t114.length : Int) (wrap64 (x11_1 + 1))) else (some (([] : List ByteArray), 1))) = some (r1, r2) := H
      have A8 := Aside0.mk A80
      clear A80
      by_cases c9 : t118 = true
      ·subst c9
       have H1 : (path_Elements.l0 k1 t114 t114 (t114.length : Int) (wrap64 (x11_1 + 1))) = some (r1, r2) := by rw [if_pos rfl] at H; exact H
       clear H
       have H := H1
       clear H1
       have H' := Aside0.mk H
       clear H
       have p117 : 0 ≤ (x11_1 : Int) := of_decide_eq_true (by first | (with_reducible assumption) | assumption)
       have q117 : x11_1 < (t114.length : Int) := of_decide_eq_true (by first | (with_reducible assumption) | assumption)
       obtain ⟨ad117, e117, hx117_0⟩ := Kd.at_string (Kd.R_reads' HO_9.out).2.2 x11_1 p117 q117
       cases e117
       replace p117 := eq_true p117
       replace q117 := eq_true q117
       go_wp2_with (first | ((with_reducible refine gate_callee (f := 76) rfl ?_); refine goesL_ (some 16) rfl rfl Tryz.func76 (by kernel_rfl) rfl #[.string (rdOf ByteArray.empty t114 x11_1)] rfl (by (try simp only [List.map_toArray, List.map_cons, List.map_nil]); first | done | rfl | (simp only [List.length_drop, List.length_take]; rfl)) ?_; (with_reducible refine (path_element.calls (rdOf ByteArray.empty t114 x11_1) true _ A8.out).mono ?_); rintro e w10 ⟨rfl, hb⟩; refine ⟨_, rfl, ?_⟩; have n0_ := Aside0.mk (Kd.R_below (by (with_reducible repeat (first | apply Kd.R_alloc | apply Kd.R_drewN | apply Kd.R_drew)); exact HO_4.out) hb); have n1_ := Aside0.mk (Kd.R_below (by (with_reducible repeat (first | apply Kd.R_alloc | apply Kd.R_drewN | apply Kd.R_drew)); exact HO_9.out) hb); have n2_ := Aside0.mk (below_step (by repeat (first | (with_reducible first | exact HB.out | apply below_alloc | apply pw_below_drewN | apply below_drew1) | exact HB.out)) hb); clear HO_4; clear HO_9; clear HB; have HO_4 := n0_; have HO_9 := n1_; have HB := n2_; clear n0_ n1_ n2_; (try clear hb); (try clear hb2); (try clear hk); (try clear hi)))
       go_roundg k1
       case measure => have := HK1.out; omega
       case rel => exact ⟨(wrap64 (x11_1 + 1)), (by first | rfl | (simp; done) | (simp [*]; done)), H', ⟨by have := HK1.out; omega⟩, ⟨by (with_reducible repeat (first | apply Kd.R_alloc | apply Kd.R_drewN | apply Kd.R_drew)); exact HO_4.out⟩, ⟨by (with_reducible repeat (first | apply Kd.R_alloc | apply Kd.R_drewN | apply Kd.R_drew)); exact HO_9.out⟩, ⟨by repeat (first | (with_reducible first | exact HB.out | apply below_alloc | apply pw_below_drewN | apply below_drew1) | exact HB.out)⟩⟩
      ·replace c9 := Bool.eq_false_iff.mpr c9
       subst c9
       have H1 : (some (([] : List ByteArray), 1)) = some (r1, r2) := by rw [if_neg (show ¬ (false = true) by decide)] at H; exact H
       clear H
       have H := H1
       clear H1
       simp only [Option.some.injEq, Prod.mk.injEq] at H
       obtain ⟨rfl, rfl⟩ := H
       have p117 : 0 ≤ (x11_1 : Int) := of_decide_eq_true (by first | (with_reducible assumption) | assumption)
       have q117 : x11_1 < (t114.length : Int) := of_decide_eq_true (by first | (with_reducible assumption) | assumption)
       obtain ⟨ad117, e117, hx117_0⟩ := Kd.at_string (Kd.R_reads' HO_9.out).2.2 x11_1 p117 q117
       cases e117
       replace p117 := eq_true p117
       replace q117 := eq_true q117
       go_wp2_with (first | ((with_reducible refine gate_callee (f := 76) rfl ?_); refine goesL_ (some 16) rfl rfl Tryz.func76 (by kernel_rfl) rfl #[.string (rdOf ByteArray.empty t114 x11_1)] rfl (by (try simp only [List.map_toArray, List.map_cons, List.map_nil]); first | done | rfl | (simp only [List.length_drop, List.length_take]; rfl)) ?_; (with_reducible refine (path_element.calls (rdOf ByteArray.empty t114 x11_1) false _ A8.out).mono ?_); rintro e w11 ⟨rfl, hb⟩; refine ⟨_, rfl, ?_⟩; have n0_ := Aside0.mk (Kd.R_below (by (with_reducible repeat (first | apply Kd.R_alloc | apply Kd.R_drewN | apply Kd.R_drew)); exact HO_4.out) hb); have n1_ := Aside0.mk (Kd.R_below (by (with_reducible repeat (first | apply Kd.R_alloc | apply Kd.R_drewN | apply Kd.R_drew)); exact HO_9.out) hb); have n2_ := Aside0.mk (below_step (by repeat (first | (with_reducible first | exact HB.out | apply below_alloc | apply pw_below_drewN | apply below_drew1) | exact HB.out)) hb); clear HO_4; clear HO_9; clear HB; have HO_4 := n0_; have HO_9 := n1_; have HB := n2_; clear n0_ n1_ n2_; (try clear hb); (try clear hb2); (try clear hk); (try clear hi)))
       go_ret2
       exact ⟨_, by first | rfl | (simp [errW_none, errW_some] <;> rfl) | (simp [*, errW_none, errW_some] <;> rfl), by first | exact Kd.R_nil _ _ _ _ _ | exact Kd.N_nil _ _ _ _ _ | exact Kd.V_nil _ _ _ _ _ | exact Kd.Q_nil _ _ _ _ _ | exact Kd.S_nil _ _ _ _ _, by repeat (first | (with_reducible first | exact HB.out | apply below_alloc | apply pw_below_drewN | apply below_drew1) | exact HB.out)⟩
     ·rw [if_neg c7] at H
      exact absurd H (by simp)
    ·rw [if_neg c6] at H
     exact absurd H (by simp)
   ·rw [if_neg c5] at H
    have c5b0 : decide (x11_1 < (t114.length : Int)) = false := decide_eq_false c5
    clear c5
    simp only [Option.some.injEq, Prod.mk.injEq] at H
    obtain ⟨rfl, rfl⟩ := H
    go_wp2
    go_ret2
    exact ⟨_, by first | rfl | (simp [errW_none, errW_some] <;> rfl) | (simp [*, errW_none, errW_some] <;> rfl), by (with_reducible repeat (first | apply Kd.R_alloc | apply Kd.R_drewN | apply Kd.R_drew)); exact HO_4.out, by repeat (first | (with_reducible first | exact HB.out | apply below_alloc | apply pw_below_drewN | apply below_drew1) | exact HB.out)⟩
def path_May.f (k : Nat) (a0 : ByteArray) : Option (Bool) := (path_Elements.f k a0).bind fun bt119 => (some (bt119.2 == 0))
set_option maxHeartbeats 8000000 in
set_option maxRecDepth 100000 in
theorem path_May.calls (k : Nat) (a0 : ByteArray) (r : Bool) (w : World) (h : path_May.f k a0 = some r) :
 Calls Tryz.prog 41 #[.string a0] w fun e w' => e = .returned (.bool r) ∧ Below w.heap.size w w' := by
 have HB := Aside0.mk (Below.refl w.heap.size w)
 have H : ((path_Elements.f k a0).bind fun bt119 => (some (bt119.2 == 0))) = some r := h
 clear h
 replace H := Option.bind_eq_some_iff.mp H
 obtain ⟨⟨t119, t120⟩, A20, H⟩ := H
 replace H : (some (t120 == 0)) = some r := H
 have A2 := Aside0.mk A20
 clear A20
 obtain rfl := Option.some.inj H
 go_enter Tryz.func41, Tryz.ntmps41
 go_wp2_with (first | ((with_reducible refine gate_callee (f := 61) rfl ?_); refine goesL_ (some 7) rfl rfl Tryz.func61 (by kernel_rfl) rfl #[.string a0] rfl (by (try simp only [List.map_toArray, List.map_cons, List.map_nil]); first | done | rfl | (simp only [List.length_drop, List.length_take]; rfl)) ?_; (with_reducible refine (path_Elements.calls k a0 t119 t120 _ A2.out).mono ?_); rintro e w3 ⟨v121, rfl, ho0, hb⟩; refine ⟨_, rfl, ?_⟩; have n0_ := Aside0.mk (Kd.R_lower ho0 (below_size (by repeat (first | (with_reducible first | exact HB.out | apply below_alloc | apply pw_below_drewN | apply below_drew1) | exact HB.out)))); have n1_ := Aside0.mk (below_step (by repeat (first | (with_reducible first | exact HB.out | apply below_alloc | apply pw_below_drewN | apply below_drew1) | exact HB.out)) hb); clear HB; have HO122 := n0_; have HB := n1_; clear n0_ n1_; (try clear hb); (try clear hb2); (try clear hk); (try clear hi); (try clear ho0)))
 go_ret
 exact ⟨by first | rfl | (simp [errW_none, errW_some] <;> rfl) | (simp [*, errW_none, errW_some] <;> rfl), by repeat (first | (with_reducible first | exact HB.out | apply below_alloc | apply pw_below_drewN | apply below_drew1) | exact HB.out)⟩
def version_May.f (a0 : ByteArray) : Option (Bool) := (version_Split.f a0).bind fun bt127 => (some (bt127.2.2.2.2 == 0))
set_option maxHeartbeats 8000000 in
set_option maxRecDepth 100000 in
theorem version_May.calls (a0 : ByteArray) (r : Bool) (w : World) (h : version_May.f a0 = some r) :
 Calls Tryz.prog 42 #[.string a0] w fun e w' => e = .returned (.bool r) ∧ Below w.heap.size w w' := by
 have hu75 := Tryz.underlying75
 have HB := Aside0.mk (Below.refl w.heap.size w)
 have H : ((version_Split.f a0).bind fun bt127 => (some (bt127.2.2.2.2 == 0))) = some r := h
 clear h
 replace H := Option.bind_eq_some_iff.mp H
 obtain ⟨⟨t127, t128, t129, t130, t133⟩, A20, H⟩ := H
 replace H : (some (t133 == 0)) = some r := H
 have A2 := Aside0.mk A20
 clear A20
 obtain rfl := Option.some.inj H
 go_enter Tryz.func42, Tryz.ntmps42
 go_wp2_with (first | ((with_reducible refine gate_callee (f := 62) rfl ?_); refine goesL_ (some 7) rfl rfl Tryz.func62 (by kernel_rfl) rfl #[.string a0] rfl (by (try simp only [List.map_toArray, List.map_cons, List.map_nil]); first | done | rfl | (simp only [List.length_drop, List.length_take]; rfl)) ?_; (with_reducible refine (version_Split.calls a0 t127 t128 t129 t130 t133 _ A2.out).mono ?_); rintro e w3 ⟨v131, rfl, ho0, hb⟩; refine ⟨_, rfl, ?_⟩; have n0_ := Aside0.mk (Kd.R_lower ho0 (below_size (by repeat (first | (with_reducible first | exact HB.out | apply below_alloc | apply pw_below_drewN | apply below_drew1) | exact HB.out)))); have n1_ := Aside0.mk (below_step (by repeat (first | (with_reducible first | exact HB.out | apply below_alloc | apply pw_below_drewN | apply below_drew1) | exact HB.out)) hb); clear HB; have HO132 := n0_; have HB := n1_; clear n0_ n1_; (try clear hb); (try clear hb2); (try clear hk); (try clear hi); (try clear ho0)) | ((with_reducible refine gate_dst (N := 3) rfl ?_); refine box_event ?hg (N := 3) ?hd (cs := #[.string (⟨#[]⟩ : ByteArray), .string (⟨#[]⟩ : ByteArray), .string (⟨#[]⟩ : ByteArray), .slice none 0 0]) (t := 75) ?hr ?_; (case hd => rfl); (case hg => rfl); (case hr => first | (go_simp; done) | (go_simp; rfl)); intro gb134 hg w4 hbox hb; have n0_ := Aside0.mk (Kd.R_below (by (with_reducible repeat (first | apply Kd.R_alloc | apply Kd.R_drewN | apply Kd.R_drew)); exact HO132.out) hb); have n1_ := Aside0.mk (below_step (by repeat (first | (with_reducible first | exact HB.out | apply below_alloc | apply pw_below_drewN | apply below_drew1) | exact HB.out)) hb); have n2_ := Aside0.mk (hbox); have n3_ := Aside0.mk ((by rw [hg]; exact (below_size (by repeat (first | (with_reducible first | exact HB.out | apply below_alloc | apply pw_below_drewN | apply below_drew1) | exact HB.out))) : w.heap.size ≤ gb134)); have n4_ := Aside0.mk ((by rw [hg]; exact (below_size (by repeat (first | (with_reducible first | exact HB.out | apply below_alloc | apply pw_below_drewN | apply below_drew1) | exact HB.out))) : w.heap.size ≤ gb134)); clear HO132; clear HB; have HO132 := n0_; have HB := n1_; have BK134 := n2_; have GW134 := n3_; have GE134 := n4_; clear n0_ n1_ n2_ n3_ n4_; clear hb hbox hg; have hcz5_0 : w4.cell? ⟨gb134, 0, none⟩ = some (.string (⟨#[]⟩ : ByteArray)) := (blk_cell BK134.out 0).trans rfl; have hcz5_1 : w4.cell? ⟨gb134, 1, none⟩ = some (.string (⟨#[]⟩ : ByteArray)) := (blk_cell BK134.out 1).trans rfl; have hcz5_2 : w4.cell? ⟨gb134, 2, none⟩ = some (.string (⟨#[]⟩ : ByteArray)) := (blk_cell BK134.out 2).trans rfl; have hcz5_3 : w4.cell? ⟨gb134, 3, none⟩ = some (.slice none 0 0) := (blk_cell BK134.out 3).trans rfl; have hfz5_0 := blk_frozen BK134.out 0; have hfz5_1 := blk_frozen BK134.out 1; have hfz5_2 := blk_frozen BK134.out 2; have hfz5_3 := blk_frozen BK134.out 3; obtain ⟨Ao6, co6, eo6⟩ := Kd.R_slice HO132.out; subst eo6))
 go_ret
 exact ⟨by first | rfl | (simp [errW_none, errW_some] <;> rfl) | (simp [*, errW_none, errW_some] <;> rfl), by repeat (first | (with_reducible first | exact HB.out | apply below_alloc | apply pw_below_drewN | apply below_drew1 | refine below_set ?_ GE134.out) | exact HB.out)⟩
def node_May.f (k : Nat) (a0_0 : ByteArray) (a0_1 : ByteArray) : Option (Bool) := (path_May.f k a0_0).bind fun t136 => (if t136 = true then ((version_May.f a0_1).bind fun t137 => (some t137)) else (some false))
set_option maxHeartbeats 8000000 in
set_option maxRecDepth 100000 in
theorem node_May.calls (k : Nat) (a0_0 : ByteArray) (a0_1 : ByteArray) (r : Bool) (w : World) (h : node_May.f k a0_0 a0_1 = some r) :
 Calls Tryz.prog 25 #[.agg #[.string a0_0, .string a0_1]] w fun e w' => e = .returned (.bool r) ∧ Below w.heap.size w w' := by
 have hu24 := Tryz.underlying24
 have HB := Aside0.mk (Below.refl w.heap.size w)
 have H : ((path_May.f k a0_0).bind fun t136 => (if t136 = true then ((version_May.f a0_1).bind fun t137 => (some t137)) else (some false))) = some r := h
 clear h
 replace H := Option.bind_eq_some_iff.mp H
 obtain ⟨t136, A20, H⟩ := H
 replace H : (if t136 = true then ((version_May.f a0_1).bind fun t137 => (some t137)) else (some false)) = some r := H
 have A2 := Aside0.mk A20
 clear A20
 by_cases c3 : t136 = true
 ·subst c3
  have H1 : ((version_May.f a0_1).bind fun t137 => (some t137)) = some r := by rw [if_pos rfl] at H; exact H
  clear H
  have H := H1
  clear H1
  replace H := Option.bind_eq_some_iff.mp H
  obtain ⟨t137, A40, H⟩ := H
  replace H : (some t137) = some r := H
  have A4 := Aside0.mk A40
  clear A40
  obtain rfl := Option.some.inj H
  go_enter Tryz.func25, Tryz.ntmps25
  go_wp2_with (first | ((with_reducible refine gate_dst (N := 1) rfl ?_); refine box_event ?hg (N := 1) ?hd (cs := #[.string a0_0, .string a0_1]) (t := 24) ?hr ?_; (case hd => rfl); (case hg => rfl); (case hr => first | (go_simp; done) | (go_simp; rfl)); intro gb135 hg w5 hbox hb; have n0_ := Aside0.mk (below_step (by repeat (first | (with_reducible first | exact HB.out | apply below_alloc | apply pw_below_drewN | apply below_drew1) | exact HB.out)) hb); have n1_ := Aside0.mk (hbox); have n2_ := Aside0.mk ((by rw [hg]; exact (below_size (by repeat (first | (with_reducible first | exact HB.out | apply below_alloc | apply pw_below_drewN | apply below_drew1) | exact HB.out))) : w.heap.size ≤ gb135)); have n3_ := Aside0.mk ((by rw [hg]; exact (below_size (by repeat (first | (with_reducible first | exact HB.out | apply below_alloc | apply pw_below_drewN | apply below_drew1) | exact HB.out))) : w.heap.size ≤ gb135)); clear HB; have HB := n0_; have BK135 := n1_; have GW135 := n2_; have GE135 := n3_; clear n0_ n1_ n2_ n3_; clear hb hbox hg; have hcz6_0 : w5.cell? ⟨gb135, 0, none⟩ = some (.string a0_0) := (blk_cell BK135.out 0).trans rfl; have hcz6_1 : w5.cell? ⟨gb135, 1, none⟩ = some (.string a0_1) := (blk_cell BK135.out 1).trans rfl; have hfz6_0 := blk_frozen BK135.out 0; have hfz6_1 := blk_frozen BK135.out 1) | ((with_reducible refine gate_callee (f := 41) rfl ?_); refine goesL_ (some 5) rfl rfl Tryz.func41 (by kernel_rfl) rfl #[.string a0_0] rfl (by (try simp only [List.map_toArray, List.map_cons, List.map_nil]); first | done | rfl | (simp only [List.length_drop, List.length_take]; rfl)) ?_; (with_reducible refine (path_May.calls k a0_0 true _ A2.out).mono ?_); rintro e w7 ⟨rfl, hb⟩; refine ⟨_, rfl, ?_⟩; have n0_ := Aside0.mk (blk_below (g := gb135) (o := .cells #[.string a0_0, .string a0_1] 24 (0, 0)) (by (with_reducible repeat (first | refine blk_drewN ?_ _ | refine blk_drew ?_ | refine blk_alloc ?_ _)); exact BK135.out) hb); have n1_ := Aside0.mk (below_step (by repeat (first | (with_reducible first | exact HB.out | apply below_alloc | apply pw_below_drewN | apply below_drew1 | refine below_set ?_ GE135.out) | exact HB.out)) hb); clear BK135; clear HB; have BK135 := n0_; have HB := n1_; clear n0_ n1_; (try clear hb); (try clear hb2); (try clear hk); (try clear hi); have hcz8_0 : w7.cell? ⟨gb135, 0, none⟩ = some (.string a0_0) := (blk_cell BK135.out 0).trans rfl; have hcz8_1 : w7.cell? ⟨gb135, 1, none⟩ = some (.string a0_1) := (blk_cell BK135.out 1).trans rfl; have hfz8_0 := blk_frozen BK135.out 0; have hfz8_1 := blk_frozen BK135.out 1) | (go_at_call 42; (with_reducible refine (version_May.calls a0_1 t137 _ A4.out).mono ?_); rintro e w9 ⟨rfl, hb⟩; have n0_ := Aside0.mk (blk_below (g := gb135) (o := .cells #[.string a0_0, .string a0_1] 24 (0, 0)) (by (with_reducible repeat (first | refine blk_drewN ?_ _ | refine blk_drew ?_ | refine blk_alloc ?_ _)); exact BK135.out) hb); have n1_ := Aside0.mk (below_step (by repeat (first | (with_reducible first | exact HB.out | apply below_alloc | apply pw_below_drewN | apply below_drew1 | refine below_set ?_ GE135.out) | exact HB.out)) hb); clear BK135; clear HB; have BK135 := n0_; have HB := n1_; clear n0_ n1_; (try clear hb); (try clear hb2); (try clear hk); (try clear hi)))
  go_ret
  exact ⟨by first | rfl | (simp [errW_none, errW_some] <;> rfl) | (simp [*, errW_none, errW_some] <;> rfl), by repeat (first | (with_reducible first | exact HB.out | apply below_alloc | apply pw_below_drewN | apply below_drew1 | refine below_set ?_ GE135.out) | exact HB.out)⟩
 ·replace c3 := Bool.eq_false_iff.mpr c3
  subst c3
  have H1 : (some false) = some r := by rw [if_neg (show ¬ (false = true) by decide)] at H; exact H
  clear H
  have H := H1
  clear H1
  obtain rfl := Option.some.inj H
  go_enter Tryz.func25, Tryz.ntmps25
  go_wp2_with (first | ((with_reducible refine gate_dst (N := 1) rfl ?_); refine box_event ?hg (N := 1) ?hd (cs := #[.string a0_0, .string a0_1]) (t := 24) ?hr ?_; (case hd => rfl); (case hg => rfl); (case hr => first | (go_simp; done) | (go_simp; rfl)); intro gb135 hg w10 hbox hb; have n0_ := Aside0.mk (below_step (by repeat (first | (with_reducible first | exact HB.out | apply below_alloc | apply pw_below_drewN | apply below_drew1) | exact HB.out)) hb); have n1_ := Aside0.mk (hbox); have n2_ := Aside0.mk ((by rw [hg]; exact (below_size (by repeat (first | (with_reducible first | exact HB.out | apply below_alloc | apply pw_below_drewN | apply below_drew1) | exact HB.out))) : w.heap.size ≤ gb135)); have n3_ := Aside0.mk ((by rw [hg]; exact (below_size (by repeat (first | (with_reducible first | exact HB.out | apply below_alloc | apply pw_below_drewN | apply below_drew1) | exact HB.out))) : w.heap.size ≤ gb135)); clear HB; have HB := n0_; have BK135 := n1_; have GW135 := n2_; have GE135 := n3_; clear n0_ n1_ n2_ n3_; clear hb hbox hg; have hcz11_0 : w10.cell? ⟨gb135, 0, none⟩ = some (.string a0_0) := (blk_cell BK135.out 0).trans rfl; have hcz11_1 : w10.cell? ⟨gb135, 1, none⟩ = some (.string a0_1) := (blk_cell BK135.out 1).trans rfl; have hfz11_0 := blk_frozen BK135.out 0; have hfz11_1 := blk_frozen BK135.out 1) | ((with_reducible refine gate_callee (f := 41) rfl ?_); refine goesL_ (some 5) rfl rfl Tryz.func41 (by kernel_rfl) rfl #[.string a0_0] rfl (by (try simp only [List.map_toArray, List.map_cons, List.map_nil]); first | done | rfl | (simp only [List.length_drop, List.length_take]; rfl)) ?_; (with_reducible refine (path_May.calls k a0_0 false _ A2.out).mono ?_); rintro e w12 ⟨rfl, hb⟩; refine ⟨_, rfl, ?_⟩; have n0_ := Aside0.mk (blk_below (g := gb135) (o := .cells #[.string a0_0, .string a0_1] 24 (0, 0)) (by (with_reducible repeat (first | refine blk_drewN ?_ _ | refine blk_drew ?_ | refine blk_alloc ?_ _)); exact BK135.out) hb); have n1_ := Aside0.mk (below_step (by repeat (first | (with_reducible first | exact HB.out | apply below_alloc | apply pw_below_drewN | apply below_drew1 | refine below_set ?_ GE135.out) | exact HB.out)) hb); clear BK135; clear HB; have BK135 := n0_; have HB := n1_; clear n0_ n1_; (try clear hb); (try clear hb2); (try clear hk); (try clear hi)))
  go_ret
  exact ⟨by first | rfl | (simp [errW_none, errW_some] <;> rfl) | (simp [*, errW_none, errW_some] <;> rfl), by repeat (first | (with_reducible first | exact HB.out | apply below_alloc | apply pw_below_drewN | apply below_drew1 | refine below_set ?_ GE135.out) | exact HB.out)⟩
end Go.Proofs.YtodkjmbmlobihaaGreatDoor.QB.D
end
section
namespace Go.Proofs.YtodkjmbmlobihaaGreatDoor.QB.D
open Go.Proofs.YtodkjmbmlobihaaGreatDoor.Q
open Go Go.RowKit Go.Lib Go.Proofs.YtodkjmbmlobihaaGreatDoorW.PrintWords Go.Proofs.YtodkjmbmlobihaaGreatDoorW.PrintLast Go.Proofs.YtodkjmbmlobihaaGreatDoorW.PrintMore Gw
set_option linter.unusedVariables false
set_option linter.unusedSimpArgs false
theorem or2_val (k : Nat) (x y : Int) : cmp_Or_int.f (k + 3) [x, y] = some (orI x y) := by
 by_cases hx : x = 0 <;> by_cases hy : y = 0 <;> simp [cmp_Or_int.f, cmp_Or_int.l0, orI, rd, wrap64, hx, hy]
theorem or3_val (k : Nat) (x y z : Int) : cmp_Or_int.f (k + 4) [x, y, z] = some (orI x (orI y z)) := by
 by_cases hx : x = 0 <;> by_cases hy : y = 0 <;> by_cases hz : z = 0 <;> simp [cmp_Or_int.f, cmp_Or_int.l0, orI, rd, wrap64, hx, hy, hz]
theorem cmpi_val (a b : Nat) : cmp_Compare_int.f (a : Int) (b : Int) = some (cmpN a b) := by
 simp only [cmp_Compare_int.f, cmp_isNaN_int.f, cmpN, Option.bind_some]
 by_cases h1 : a < b <;> by_cases h2 : b < a <;> simp [h1, h2]
theorem octcmp_val (a b : ByteArray) : octet_Cmp.f a b = some (lexC (bs a) (bs b)) := by
 have h1 := str_less a b
 have h2 := str_less b a
 have h3 := lexC_sym (bs a) (bs b)
 have h4 := lexC_tri (bs a) (bs b)
 simp only [octet_Cmp.f, cmp_Compare_string.f, cmp_isNaN_string.f, Option.bind_some, bne_self_eq_false, Bool.false_eq_true, if_false, h1, h2, decide_eq_true_eq]
 rcases h4 with h | h | h <;> rw [h] at h3 ⊢ <;> simp [h3]
theorem number_Cmp_val (k : Nat) (a b : ByteArray) (ha : Small a) (hb : Small b) (na : isNum (bs a) = true) (nb : isNum (bs b) = true) : number_Cmp.f (k + 4) a b = some (numC (bs a) (bs b), 0) := by
 simp only [number_Cmp.f, number_May_tot a ha, number_May_tot b hb, na, nb, Option.bind_some, if_true, number_Cmp.j0, Bool.not_true, Bool.false_eq_true, if_false, cmpi_val, octcmp_val, or2_val, numC, bs_length]
theorem numbers_val (k : Nat) (a b : ByteArray) (ha : Small a) (hb : Small b) (na : isNum (bs a) = true) (nb : isNum (bs b) = true) : version_numbers.f (k + 4) a b = some (numC (bs a) (bs b)) := by
 simp only [version_numbers.f, number_Cmp_val k a b ha hb na nb, Option.bind_some]
theorem words_val (k : Nat) (a b : ByteArray) (ha : Small a) (hb : Small b) : version_words.f (k + 5) a b = some (wordC (bs a) (bs b)) := by
 unfold version_words.f
 rw [number_May_tot a ha, number_May_tot b hb]
 cases na : isNum (bs a) <;> cases nb : isNum (bs b)
 ·simp [version_words.j0, wordC, na, nb, octcmp_val]
 ·simp [version_words.j0, wordC, na, nb]
 ·simp [version_words.j0, wordC, na, nb]
 ·simp [version_words.j0, wordC, na, nb, numbers_val k a b ha hb na nb]
end Go.Proofs.YtodkjmbmlobihaaGreatDoor.QB.D
end
section
namespace Go.Proofs.YtodkjmbmlobihaaGreatDoor.QB.D
open Go.Proofs.YtodkjmbmlobihaaGreatDoor.Q
open Go.RowKit Go.Lib Go.Proofs.YtodkjmbmlobihaaGreatDoorW.PrintWords Go.Proofs.YtodkjmbmlobihaaGreatDoorW.PrintLast Go.Proofs.YtodkjmbmlobihaaGreatDoorW.PrintMore Gw
set_option linter.unusedVariables false
set_option linter.unusedSimpArgs false
def FS (A : Option Addr) (xs : List ByteArray) (w : World) : Prop := ∀ i (hi : i < xs.length), ∃ g, A = some ⟨g, 0, none⟩ ∧ g < w.heap.size ∧ w.cell? ⟨g, i, none⟩ = some (.string (xs[i]))
theorem FS.below {A : Option Addr} {xs : List ByteArray} {w w' : World} {b : Nat} (h : FS A xs w) (hb : Below b w w') (hw : w.heap.size ≤ b) : FS A xs w' := fun i hi => by
 obtain ⟨g, rfl, h1, h2⟩ := h i hi
 exact ⟨g, rfl, Nat.lt_of_lt_of_le h1 hb.size, (hb.cell (p := ⟨g, i, none⟩) (by simp; omega)).trans h2⟩
theorem FS_of_R {w : World} {base : Nat} {u : Value} {xs : List ByteArray} (h : Kd.R Kd.string 9 w base (fun _ => True) u xs) : ∃ A c, u = .slice A xs.length c ∧ FS A xs w := by
 obtain ⟨A, c, rfl⟩ := Kd.R_slice h
 refine ⟨A, c, rfl, fun i hi => ?_⟩
 obtain ⟨g, c', e, h1, h2, h3⟩ := vR_cells h (by omega)
 injection e with e
 exact ⟨g, e, h2, h3 i hi⟩
theorem eqArr3 (d : Nat) (w : World) (x0 y0 x1 y1 x2 y2 : ByteArray) :
 (Op.equalIn (d + 2) 111 (.agg #[.string x0, .string x1, .string x2]) (.agg #[.string y0, .string y1, .string y2])).run Tryz.prog w = .ok (x0.toList == y0.toList && (x1.toList == y1.toList && x2.toList == y2.toList)) w := by
 obtain ⟨i, hi⟩ := Option.isSome_iff_exists.1 (show (Tryz.prog.info? 9).isSome = true by kernel_rfl)
 rw [run_equalIn_array w (d + 1) _ _ Tryz.underlying111 hi]
 rw [show List.range 3 = [0, 1, 2] from rfl, show Tryz.prog.cellsOf 9 = 1 by kernel_rfl]
 simp only [Op.eqItems]
 go_simp
 by_cases h0 : x0.toList = y0.toList <;> by_cases h1 : x1.toList = y1.toList <;> by_cases h2 : x2.toList = y2.toList <;> simp [h0, h1, h2]
set_option maxHeartbeats 4000000 in
set_option maxRecDepth 100000 in
theorem vcmp_go (a b : ByteArray) (x0 x1 x2 : ByteArray) (xp : List ByteArray) (y0 y1 y2 : ByteArray) (yp : List ByteArray)
 (hx : version_Split.f a = some (x0, x1, x2, xp, 0)) (hy : version_Split.f b = some (y0, y1, y2, yp, 0))
 (n0 n1 n2 : Int) (h0 : version_numbers.f 9 x0 y0 = some n0) (h1 : version_numbers.f 9 x1 y1 = some n1) (h2 : version_numbers.f 9 x2 y2 = some n2)
 (sx : ∀ s ∈ xp, Small s) (sy : ∀ s ∈ yp, Small s) (hlx : (xp.length : Int) ≤ 4294967290) (hly : (yp.length : Int) ≤ 4294967290)
 (r : Int) (hd : (x0.toList == y0.toList && (x1.toList == y1.toList && x2.toList == y2.toList)) = false → r = orI n0 (orI n1 n2))
 (hs : (x0.toList == y0.toList && (x1.toList == y1.toList && x2.toList == y2.toList)) = true → r = preC (xp.map bs) (yp.map bs))
 (w : World) : Calls Tryz.prog 72 #[.string a, .string b] w fun e w' => e = .returned (.tuple #[.int .i64 r, .int .i64 0]) ∧ Below w.heap.size w w' := by
 have SX := Aside0.mk sx
 have SY := Aside0.mk sy
 have HD := Aside0.mk hd
 have HS := Aside0.mk hs
 have H0 := Aside0.mk h0
 have H1 := Aside0.mk h1
 have H2 := Aside0.mk h2
 clear sx sy hd hs h0 h1 h2
 have hu49 := Tryz.underlying75
 go_enter Tryz.func72, Tryz.ntmps72
 go_wp2_with fail
 refine (version_Split.calls _ _ _ _ _ _ _ hx).mono ?_
 rintro e w1 ⟨u, rfl, hR, hb⟩
 obtain ⟨A, c, rfl, hF⟩ := FS_of_R hR
 have HB := Aside0.mk hb
 have HF := Aside0.mk hF
 clear hb hF hR hx
 go_wp2_with fail
 refine (version_Split.calls _ _ _ _ _ _ _ hy).mono ?_
 rintro e w2 ⟨u, rfl, hR, hb⟩
 obtain ⟨A2, c2, rfl, hF⟩ := FS_of_R hR
 have b12 : Below w1.heap.size w1 w2 := (by repeat (with_reducible first | exact Below.refl _ _ | refine below_set ?_ (by simp) | refine below_alloc ?_ _) : Below w1.heap.size w1 _).trans (hb.mono (by simp))
 have hz : w1.heap.size < w2.heap.size := by have := hb.size; simp at this; omega
 have q0 : w2.cell? ⟨w1.heap.size, 0, none⟩ = some (.string x0) := (hb.cell (p := ⟨w1.heap.size, 0, none⟩) (by simp)).trans (by simp [go_sem])
 have q1 : w2.cell? ⟨w1.heap.size, 1, none⟩ = some (.string x1) := (hb.cell (p := ⟨w1.heap.size, 1, none⟩) (by simp)).trans (by simp [go_sem])
 have q2 : w2.cell? ⟨w1.heap.size, 2, none⟩ = some (.string x2) := (hb.cell (p := ⟨w1.heap.size, 2, none⟩) (by simp)).trans (by simp [go_sem])
 have q3 : w2.cell? ⟨w1.heap.size, 3, none⟩ = some (.slice A xp.length c) := (hb.cell (p := ⟨w1.heap.size, 3, none⟩) (by simp)).trans (by simp [go_sem])
 clear hR hb
 have HF2 := Aside0.mk hF
 clear hF
 go_wp2_with fail
 generalize hW : w2.alloc (.cells #[.string y0, .string y1, .string y2, .slice A2 yp.length c2] 75 (0, 0)) = w3
 have g0 : w3.cell? ⟨w1.heap.size, 0, none⟩ = some (.string x0) := by rw [← hW]; exact Lib.cell?_alloc_some _ q0
 have g1 : w3.cell? ⟨w1.heap.size, 1, none⟩ = some (.string x1) := by rw [← hW]; exact Lib.cell?_alloc_some _ q1
 have g2 : w3.cell? ⟨w1.heap.size, 2, none⟩ = some (.string x2) := by rw [← hW]; exact Lib.cell?_alloc_some _ q2
 have g3 : w3.cell? ⟨w1.heap.size, 3, none⟩ = some (.slice A xp.length c) := by rw [← hW]; exact Lib.cell?_alloc_some _ q3
 have k0 : w3.cell? ⟨w2.heap.size, 0, none⟩ = some (.string y0) := by rw [← hW]; simp [go_sem]
 have k1 : w3.cell? ⟨w2.heap.size, 1, none⟩ = some (.string y1) := by rw [← hW]; simp [go_sem]
 have k2 : w3.cell? ⟨w2.heap.size, 2, none⟩ = some (.string y2) := by rw [← hW]; simp [go_sem]
 have k3 : w3.cell? ⟨w2.heap.size, 3, none⟩ = some (.slice A2 yp.length c2) := by rw [← hW]; simp [go_sem]
 have hz3 : w3.heap.size = w2.heap.size + 1 := by rw [← hW]; simp
 have hB3 : Below w1.heap.size w1 w3 := by rw [← hW]; exact below_alloc' b12 _ (by omega)
 have HF3 : Aside0 (FS A xp w3) := ⟨HF.out.below hB3 (Nat.le_refl _)⟩
 have HF4 : Aside0 (FS A2 yp w3) := ⟨HF2.out.below (b := w2.heap.size) (by rw [← hW]; exact below_alloc' (Below.refl _ _) _ (by omega)) (Nat.le_refl _)⟩
 have HB3 : Aside0 (Below w.heap.size w w3) := ⟨HB.out.trans (hB3.mono HB.out.size)⟩
 clear HF HF2 HB hB3 b12 q0 q1 q2 q3 hW
 have mixed : Tryz.prog.follows Departure.mixedOrders = true := by kernel_rfl
 go_region_held3 (fun w' => w'.cell? ⟨w1.heap.size, 0, none⟩ = some (.string x0) ∧ w'.cell? ⟨w1.heap.size, 1, none⟩ = some (.string x1) ∧ w'.cell? ⟨w1.heap.size, 2, none⟩ = some (.string x2) ∧ w'.cell? ⟨w2.heap.size, 0, none⟩ = some (.string y0) ∧ w'.cell? ⟨w2.heap.size, 1, none⟩ = some (.string y1) ∧ w'.cell? ⟨w2.heap.size, 2, none⟩ = some (.string y2)) (go_keep) (fail)
 have hW : ∃ W, W = ((w3.alloc (.cells #[.string x0, .string x1, .string x2] 111 (0, 0))).alloc (.cells #[.string y0, .string y1, .string y2] 111 (0, 0))).drew := ⟨_, rfl⟩
 obtain ⟨w4, hW⟩ := hW
 rw [← hW]
 have a0 : w4.cell? ⟨w2.heap.size + 1, 0, none⟩ = some (.string x0) := by rw [hW]; simp [go_sem, hz3]
 have a1 : w4.cell? ⟨w2.heap.size + 1, 1, none⟩ = some (.string x1) := by rw [hW]; simp [go_sem, hz3]
 have a2 : w4.cell? ⟨w2.heap.size + 1, 2, none⟩ = some (.string x2) := by rw [hW]; simp [go_sem, hz3]
 have b0 : w4.cell? ⟨w2.heap.size + 1 + 1, 0, none⟩ = some (.string y0) := by rw [hW]; simp [go_sem, hz3]
 have b1 : w4.cell? ⟨w2.heap.size + 1 + 1, 1, none⟩ = some (.string y1) := by rw [hW]; simp [go_sem, hz3]
 have b2 : w4.cell? ⟨w2.heap.size + 1 + 1, 2, none⟩ = some (.string y2) := by rw [hW]; simp [go_sem, hz3]
 have B4 : Below w3.heap.size w3 w4 := by rw [hW]; exact below_drew (below_alloc' (below_alloc' (Below.refl _ _) _) _ (by simp))
 have ha4 : w2.heap.size + 1 < w4.heap.size := by rw [hW]; simp; omega
 have hb4 : w2.heap.size + 1 + 1 < w4.heap.size := by rw [hW]; simp; omega
 clear hW
 generalize w2.heap.size + 1 + 1 = pb at b0 b1 b2 hb4 ⊢
 generalize w2.heap.size + 1 = pa at a0 a1 a2 ha4 ⊢
 rotate_left
 have hW : ∃ W, W = ((w3.alloc (.cells #[.string y0, .string y1, .string y2] 111 (0, 0))).alloc (.cells #[.string x0, .string x1, .string x2] 111 (0, 0))).drew := ⟨_, rfl⟩
 obtain ⟨w4, hW⟩ := hW
 rw [← hW]
 have a0 : w4.cell? ⟨w2.heap.size + 1 + 1, 0, none⟩ = some (.string x0) := by rw [hW]; simp [go_sem, hz3]
 have a1 : w4.cell? ⟨w2.heap.size + 1 + 1, 1, none⟩ = some (.string x1) := by rw [hW]; simp [go_sem, hz3]
 have a2 : w4.cell? ⟨w2.heap.size + 1 + 1, 2, none⟩ = some (.string x2) := by rw [hW]; simp [go_sem, hz3]
 have b0 : w4.cell? ⟨w2.heap.size + 1, 0, none⟩ = some (.string y0) := by rw [hW]; simp [go_sem, hz3]
 have b1 : w4.cell? ⟨w2.heap.size + 1, 1, none⟩ = some (.string y1) := by rw [hW]; simp [go_sem, hz3]
 have b2 : w4.cell? ⟨w2.heap.size + 1, 2, none⟩ = some (.string y2) := by rw [hW]; simp [go_sem, hz3]
 have B4 : Below w3.heap.size w3 w4 := by rw [hW]; exact below_drew (below_alloc' (below_alloc' (Below.refl _ _) _) _ (by simp))
 have ha4 : w2.heap.size + 1 + 1 < w4.heap.size := by rw [hW]; simp; omega
 have hb4 : w2.heap.size + 1 < w4.heap.size := by rw [hW]; simp; omega
 clear hW
 generalize w2.heap.size + 1 + 1 = pa at a0 a1 a2 ha4 ⊢
 generalize w2.heap.size + 1 = pb at b0 b1 b2 hb4 ⊢
 rotate_left
 all_goals
  rename_i hHeld9
  clear hHeld9
  cases hE : (x0.toList == y0.toList && (x1.toList == y1.toList && x2.toList == y2.toList))
  ·have heq : ∀ w, (Op.equalIn 10000 111 (.agg #[.string x0, .string x1, .string x2]) (.agg #[.string y0, .string y1, .string y2])).run Tryz.prog w = .ok false w := fun w => by rw [eqArr3, hE]
   have hr := HD.out hE
   subst hr
   have hor := or3_val 5 n0 n1 n2
   have HOR := Aside0.mk hor
   have C0 := fun w => version_numbers.calls 9 x0 y0 n0 w H0.out
   have C1 := fun w => version_numbers.calls 9 x1 y1 n1 w H1.out
   have C2 := fun w => version_numbers.calls 9 x2 y2 n2 w H2.out
   have KS : ∀ w', Below w4.heap.size w4 w' → Below w4.heap.size w4 w' ∧ w'.cell? ⟨pa, 0, none⟩ = some (.string x0) ∧ w'.cell? ⟨pa, 1, none⟩ = some (.string x1) ∧ w'.cell? ⟨pa, 2, none⟩ = some (.string x2) ∧ w'.cell? ⟨pb, 0, none⟩ = some (.string y0) ∧ w'.cell? ⟨pb, 1, none⟩ = some (.string y1) ∧ w'.cell? ⟨pb, 2, none⟩ = some (.string y2) := fun w' h =>
    ⟨h, (h.cell (p := ⟨pa, 0, none⟩) ha4).trans a0, (h.cell (p := ⟨pa, 1, none⟩) ha4).trans a1, (h.cell (p := ⟨pa, 2, none⟩) ha4).trans a2, (h.cell (p := ⟨pb, 0, none⟩) hb4).trans b0, (h.cell (p := ⟨pb, 1, none⟩) hb4).trans b1, (h.cell (p := ⟨pb, 2, none⟩) hb4).trans b2⟩
   have HB4 : Aside0 (Below w.heap.size w w4) := ⟨HB3.out.trans (B4.mono HB3.out.size)⟩
   clear hE HD HS hor B4 HB3 HF3 HF4 g0 g1 g2 g3 k0 k1 k2 k3 hz3 hz
   go_wp2_with fail
   go_region_held3 (fun w' => Below w4.heap.size w4 w' ∧ w'.cell? ⟨pa, 0, none⟩ = some (.string x0) ∧ w'.cell? ⟨pa, 1, none⟩ = some (.string x1) ∧ w'.cell? ⟨pa, 2, none⟩ = some (.string x2) ∧ w'.cell? ⟨pb, 0, none⟩ = some (.string y0) ∧ w'.cell? ⟨pb, 1, none⟩ = some (.string y1) ∧ w'.cell? ⟨pb, 2, none⟩ = some (.string y2))
    (first
     | exact KS _ (below_drew (Below.refl _ _))
     | exact KS _ ((And.left ‹Below w4.heap.size w4 _ ∧ _›).trans (hb9.mono (And.left ‹Below w4.heap.size w4 _ ∧ _›).size))
     | exact KS _ (below_alloc' (And.left ‹Below w4.heap.size w4 _ ∧ _›) _ (And.left ‹Below w4.heap.size w4 _ ∧ _›).size)
     | exact KS _ (And.left ‹Below w4.heap.size w4 _ ∧ _›))
    (first
     | (go_at_call 83; (first | (with_reducible refine (C0 _).mono ?_) | (with_reducible refine (C1 _).mono ?_) | (with_reducible refine (C2 _).mono ?_)); rintro e w'' ⟨rfl, hb9⟩)
     | (go_at_call 73; refine (cmp_Or_int.calls 9 _ _ [n0, n1, n2] _ _ (row_ints _ [n0, n1, n2] _ (by simp)) (by simp) HOR.out).mono ?_; rintro e w'' ⟨rfl, hd9⟩; have hb9 := (drawn_below hd9)))
   have hB9 := And.left ‹Below w4.heap.size w4 _ ∧ _›
   rename_i hHeldZ
   clear hHeldZ
   go_wp2
   go_ret2
   exact ⟨rfl, HB4.out.trans (hB9.mono HB4.out.size)⟩
  ·have heq : ∀ w, (Op.equalIn 10000 111 (.agg #[.string x0, .string x1, .string x2]) (.agg #[.string y0, .string y1, .string y2])).run Tryz.prog w = .ok true w := fun w => by rw [eqArr3, hE]
   have hr := HS.out hE
   subst hr
   have FX := Aside0.mk (HF3.out.below B4 (Nat.le_refl _))
   have FY := Aside0.mk (HF4.out.below B4 (Nat.le_refl _))
   have m3 : w4.cell? ⟨w1.heap.size, 3, none⟩ = some (.slice A xp.length c) := (B4.cell (p := ⟨w1.heap.size, 3, none⟩) (by simp; omega)).trans g3
   have m4 : w4.cell? ⟨w2.heap.size, 3, none⟩ = some (.slice A2 yp.length c2) := (B4.cell (p := ⟨w2.heap.size, 3, none⟩) (by simp; omega)).trans k3
   have HB4 : Aside0 (Below w.heap.size w w4) := ⟨HB3.out.trans (B4.mono HB3.out.size)⟩
   have hz14 : w1.heap.size < w4.heap.size := by have := B4.size; omega
   have hz24 : w2.heap.size < w4.heap.size := by have := B4.size; omega
   clear hE HD HS B4 HB3 HF3 HF4 g0 g1 g2 g3 k0 k1 k2 k3 hz3 hz H0 H1 H2 ha4 hb4
   cases lx : ((xp.length : Int) == 0)
   ·have nx : xp.length ≠ 0 := fun h => by rw [h] at lx; exact absurd lx (by decide)
    cases ly : ((yp.length : Int) == 0)
    ·have ny : yp.length ≠ 0 := fun h => by rw [h] at ly; exact absurd ly (by decide)
     have hpc : preC (xp.map bs) (yp.map bs) = wordsC (xp.map bs) (yp.map bs) := by
      unfold preC
      rw [if_neg]
      rintro (h | h)
      ·rw [List.map_eq_nil_iff] at h
       subst h
       exact nx rfl
      ·rw [List.map_eq_nil_iff] at h
       subst h
       exact ny rfl
     have HPC := Aside0.mk hpc
     clear hpc
     go_wp2_with fail
     go_loopw [88] (fun v88 wr => ∃ i : Nat, i ≤ xp.length ∧ i ≤ yp.length ∧ v88 = .int .i64 (i : Int) ∧ Aside0 (Below w4.heap.size w4 wr) ∧ Aside0 (wordsC (xp.map bs) (yp.map bs) = wordsC ((xp.drop i).map bs) ((yp.drop i).map bs))) (fun v88 _ => xp.length - (RowKit.intOf v88).toNat)
     case atStart => exact ⟨0, Nat.zero_le _, Nat.zero_le _, rfl, ⟨Below.refl _ _⟩, ⟨rfl⟩⟩
     case round =>
      obtain ⟨i, hi, hi2, rfl, HW, HA⟩ := hrel
      have r3 : wr.cell? ⟨w1.heap.size, 3, none⟩ = some (.slice A xp.length c) := (HW.out.cell (p := ⟨w1.heap.size, 3, none⟩) hz14).trans m3
      have r4 : wr.cell? ⟨w2.heap.size, 3, none⟩ = some (.slice A2 yp.length c2) := (HW.out.cell (p := ⟨w2.heap.size, 3, none⟩) hz24).trans m4
      by_cases hl : i < xp.length ∧ i < yp.length
      ·obtain ⟨hl1, hl2⟩ := hl
       have FXr := FX.out.below HW.out (Nat.le_refl _)
       have FYr := FY.out.below HW.out (Nat.le_refl _)
       obtain ⟨g, rfl, hg1, hg2⟩ := FXr i hl1
       obtain ⟨g', rfl, hg3, hg4⟩ := FYr i hl2
       have hs1 := SX.out _ (List.getElem_mem hl1)
       have hs2 := SY.out _ (List.getElem_mem hl2)
       have hd1 : xp.drop i = xp[i] :: xp.drop (i + 1) := List.drop_eq_getElem_cons hl1
       have hd2 : yp.drop i = yp[i] :: yp.drop (i + 1) := List.drop_eq_getElem_cons hl2
       have hA2 := HA.out
       rw [hd1, hd2, List.map_cons, List.map_cons] at hA2
       have hwv := words_val 4 xp[i] yp[i] hs1 hs2
       have CW := fun w => version_words.calls 9 xp[i] yp[i] _ w hwv
       obtain ⟨cv, hcv⟩ : ∃ cv, cv = wordC (bs xp[i]) (bs yp[i]) := ⟨_, rfl⟩
       have hA3 : wordsC (xp.map bs) (yp.map bs) = orI cv (wordsC ((xp.drop (i + 1)).map bs) ((yp.drop (i + 1)).map bs)) := by rw [hA2, hcv]; rfl
       have HA3 := Aside0.mk hA3
       rw [← hcv] at CW
       generalize xp[i] = px at CW hg2
       generalize yp[i] = py at CW hg4
       have hm : min (xp.length : Int) (yp.length : Int) > (i : Int) := by omega
       have hmd : decide ((i : Int) < min (xp.length : Int) (yp.length : Int)) = true := decide_eq_true hm
       have j1 : (i : Int) < (xp.length : Int) := by omega
       have j2 : (i : Int) < (yp.length : Int) := by omega
       clear hA2 hA3 hcv hwv hs1 hs2 hd1 hd2 FXr FYr
       have KS : ∀ w', Below wr.heap.size wr w' → Below wr.heap.size wr w' ∧ w'.cell? ⟨w1.heap.size, 3, none⟩ = some (.slice (some ⟨g, 0, none⟩) xp.length c) ∧ w'.cell? ⟨w2.heap.size, 3, none⟩ = some (.slice (some ⟨g', 0, none⟩) yp.length c2) ∧ w'.cell? ⟨g, i, none⟩ = some (.string px) ∧ w'.cell? ⟨g', i, none⟩ = some (.string py) := fun w' h =>
        ⟨h, (h.cell (p := ⟨w1.heap.size, 3, none⟩) (Nat.lt_of_lt_of_le hz14 HW.out.size)).trans r3, (h.cell (p := ⟨w2.heap.size, 3, none⟩) (Nat.lt_of_lt_of_le hz24 HW.out.size)).trans r4, (h.cell (p := ⟨g, i, none⟩) hg1).trans hg2, (h.cell (p := ⟨g', i, none⟩) hg3).trans hg4⟩
       go_wp2_with fail
       go_region_held3 (fun w' => Below wr.heap.size wr w' ∧ w'.cell? ⟨w1.heap.size, 3, none⟩ = some (.slice (some ⟨g, 0, none⟩) xp.length c) ∧ w'.cell? ⟨w2.heap.size, 3, none⟩ = some (.slice (some ⟨g', 0, none⟩) yp.length c2) ∧ w'.cell? ⟨g, i, none⟩ = some (.string px) ∧ w'.cell? ⟨g', i, none⟩ = some (.string py))
        (first
         | exact KS _ (below_drew (Below.refl _ _))
         | exact KS _ ((And.left ‹Below wr.heap.size wr _ ∧ _›).trans (hb9.mono (And.left ‹Below wr.heap.size wr _ ∧ _›).size))
         | exact KS _ (And.left ‹Below wr.heap.size wr _ ∧ _›))
        (first
         | (go_at_call 85; with_reducible refine (CW _).mono ?_; rintro e w'' ⟨rfl, hb9⟩))
       have hB9 := And.left ‹Below wr.heap.size wr _ ∧ _›
       have HB9 : Aside0 (Below w4.heap.size w4 w'') := ⟨HW.out.trans (hB9.mono HW.out.size)⟩
       have HB8 : Aside0 (Below w.heap.size w w'') := ⟨HB4.out.trans (HB9.out.mono HB4.out.size)⟩
       clear hB9 hb9 KS r3 r4 hg2 hg4
       rename_i hHeldZ
       clear hHeldZ
       cases hc0 : (cv != 0)
       ·have hz : cv = 0 := by simpa using hc0
        go_wp2
        go_roundw
        case rel => exact ⟨i + 1, by omega, by omega, by go_num, HB9, ⟨by rw [HA3.out, hz]; rfl⟩⟩
        case measure => simp [RowKit.intOf]; omega
       ·have hz : cv ≠ 0 := by simpa using hc0
        go_wp2
        go_ret2
        exact ⟨by rw [HPC.out, HA3.out, orI, if_neg hz]; rfl, HB8.out⟩
      ·have hm : ¬ ((i : Int) < min (xp.length : Int) (yp.length : Int)) := by omega
       have hmd : decide ((i : Int) < min (xp.length : Int) (yp.length : Int)) = false := decide_eq_false hm
       have hval : wordsC (xp.map bs) (yp.map bs) = cmpN xp.length yp.length := by
        rw [HA.out]
        by_cases e1 : i = xp.length
        ·rw [List.drop_of_length_le (by omega)]
         by_cases e2 : i = yp.length
         ·rw [List.drop_of_length_le (by omega), ← e1, ← e2]; simp [wordsC, cmpN]
         ·rw [List.drop_eq_getElem_cons (show i < yp.length by omega)]
          simp only [List.map_nil, List.map_cons, wordsC, cmpN]
          rw [if_pos (by omega)]
        ·have e2 : i = yp.length := by omega
         rw [List.drop_eq_getElem_cons (show i < xp.length by omega), List.drop_of_length_le (show yp.length ≤ i by omega)]
         simp only [List.map_nil, List.map_cons, wordsC, cmpN]
         rw [if_neg (by omega), if_pos (by omega)]
       have HV := Aside0.mk hval
       have CC := fun w => cmp_Compare_int.calls xp.length yp.length _ w (cmpi_val xp.length yp.length)
       clear hval
       go_wp2_with fail
       with_reducible refine (CC _).mono ?_
       rintro e w5 ⟨rfl, hd5⟩
       have HB8 : Aside0 (Below w.heap.size w w5) := ⟨HB4.out.trans ((HW.out.trans ((drawn_below hd5).mono HW.out.size)).mono HB4.out.size)⟩
       clear hd5
       go_wp2
       go_ret2
       exact ⟨by rw [HPC.out, HV.out]; rfl, HB8.out⟩
    ·have ny : yp = [] := List.length_eq_zero_iff.1 (by simpa using ly)
     have HPC : Aside0 (preC (xp.map bs) (yp.map bs) = cmpN yp.length xp.length) := ⟨by unfold preC; rw [if_pos (Or.inr (by rw [ny]; rfl)), List.length_map, List.length_map]⟩
     clear ny
     have CC := fun w => cmp_Compare_int.calls yp.length xp.length _ w (cmpi_val yp.length xp.length)
     go_wp2_with fail
     with_reducible refine (CC _).mono ?_
     rintro e w5 ⟨rfl, hd5⟩
     have HB8 : Aside0 (Below w.heap.size w w5) := ⟨HB4.out.trans ((drawn_below hd5).mono HB4.out.size)⟩
     clear hd5
     go_wp2
     go_ret2
     exact ⟨by rw [HPC.out]; rfl, HB8.out⟩
   ·have nx : xp = [] := List.length_eq_zero_iff.1 (by simpa using lx)
    have HPC : Aside0 (preC (xp.map bs) (yp.map bs) = cmpN yp.length xp.length) := ⟨by unfold preC; rw [if_pos (Or.inl (by rw [nx]; rfl)), List.length_map, List.length_map]⟩
    clear nx
    have CC := fun w => cmp_Compare_int.calls yp.length xp.length _ w (cmpi_val yp.length xp.length)
    go_wp2_with fail
    with_reducible refine (CC _).mono ?_
    rintro e w5 ⟨rfl, hd5⟩
    have HB8 : Aside0 (Below w.heap.size w w5) := ⟨HB4.out.trans ((drawn_below hd5).mono HB4.out.size)⟩
    clear hd5
    go_wp2
    go_ret2
    exact ⟨by rw [HPC.out]; rfl, HB8.out⟩
set_option maxHeartbeats 4000000 in
set_option maxRecDepth 100000 in
theorem vcmp_err (a b : ByteArray) (x0 x1 x2 : ByteArray) (xp : List ByteArray) (e : Int) (y0 y1 y2 : ByteArray) (yp : List ByteArray) (f : Int)
 (hx : version_Split.f a = some (x0, x1, x2, xp, e)) (hy : version_Split.f b = some (y0, y1, y2, yp, f)) (he : (e != 0) = true ∨ (e != 0) = false ∧ (f != 0) = true)
 (w : World) : Calls Tryz.prog 72 #[.string a, .string b] w fun e w' => e = .returned (.tuple #[.int .i64 0, .int .i64 1]) ∧ Below w.heap.size w w' := by
 have hu49 := Tryz.underlying75
 have HE := Aside0.mk he
 clear he
 go_enter Tryz.func72, Tryz.ntmps72
 go_wp2_with fail
 refine (version_Split.calls _ _ _ _ _ _ _ hx).mono ?_
 rintro e9 w1 ⟨u, rfl, hR, hb⟩
 obtain ⟨A, c, rfl, hF⟩ := FS_of_R hR
 have HB := Aside0.mk hb
 clear hb hF hR hx
 go_wp2_with fail
 refine (version_Split.calls _ _ _ _ _ _ _ hy).mono ?_
 rintro e9 w2 ⟨u, rfl, hR, hb⟩
 obtain ⟨A2, c2, rfl, hF⟩ := FS_of_R hR
 have b12 : Below w1.heap.size w1 w2 := (by repeat (with_reducible first | exact Below.refl _ _ | refine below_set ?_ (by simp) | refine below_alloc ?_ _) : Below w1.heap.size w1 _).trans (hb.mono (by simp))
 have HB2 : Aside0 (Below w.heap.size w w2) := ⟨HB.out.trans (b12.mono HB.out.size)⟩
 clear hR hb hF b12 hy HB
 rcases HE.out with h1 | ⟨h1, h2⟩
 all_goals
  clear HE
  go_wp2
  go_ret2
  exact ⟨rfl, by repeat (with_reducible first | exact HB2.out | refine below_set ?_ (by have := HB2.out.size; simp; omega) | refine below_alloc ?_ _)⟩
theorem vparts_facts {s : B} (ho : ∀ c ∈ s, c < 256) {p q r : B} {l : List B} (h : vparts s = some (p, q, r, l)) : (isNum p = true ∧ isNum q = true ∧ isNum r = true) ∧ (∀ t ∈ p :: q :: r :: l, (∀ c ∈ t, c < 256) ∧ t.length ≤ s.length) ∧ l.length ≤ s.length + 1 ∧ l.all isWord = true := by
 unfold vparts at h
 split at h
 ·rename_i s' 
  have ho' : ∀ c ∈ s', c < 256 := fun c hc => ho c (List.mem_cons_of_mem _ hc)
  obtain ⟨k1, k2, k3⟩ := cutDash_oct ho'
  generalize (cutDash s').1 = core at h k1 k2
  generalize (cutDash s').2 = pre at h k3
  unfold vcore at h
  split at h
  ·rename_i a b c hp
   split at h
   ·rename_i hn
    simp only [Bool.and_eq_true] at hn
    have hq : ∀ t ∈ [a, b, c], (∀ x ∈ t, x < 256) ∧ t.length ≤ s'.length := fun t ht => by
     rw [← hp] at ht
     exact ⟨parts_oct k1 t ht, Nat.le_trans ((parts_le core).1 t ht) k2⟩
    unfold vpre at h
    split at h
    ·injection h with h
     simp only [Prod.mk.injEq] at h
     obtain ⟨rfl, rfl, rfl, rfl⟩ := h
     exact ⟨⟨hn.1.1, hn.1.2, hn.2⟩, fun t ht => ⟨(hq t ht).1, by have := (hq t ht).2; simp; omega⟩, by simp, rfl⟩
    ·rename_i pp
     split at h
     ·rename_i hw
      injection h with h
      simp only [Prod.mk.injEq] at h
      obtain ⟨rfl, rfl, rfl, rfl⟩ := h
      obtain ⟨k4, k5⟩ := k3 _ rfl
      refine ⟨⟨hn.1.1, hn.1.2, hn.2⟩, fun t ht => ?_, by have := (parts_le (sep := 46) pp).2; simp; omega, hw⟩
      simp only [List.mem_cons] at ht
      rcases ht with rfl | rfl | rfl | ht
      ·exact ⟨(hq _ (by simp)).1, by have := (hq t (by simp)).2; simp; omega⟩
      ·exact ⟨(hq _ (by simp)).1, by have := (hq t (by simp)).2; simp; omega⟩
      ·exact ⟨(hq _ (by simp)).1, by have := (hq t (by simp)).2; simp; omega⟩
      ·exact ⟨parts_oct k4 t ht, by have := (parts_le (sep := 46) pp).1 t ht; simp; omega⟩
     ·cases h
   ·cases h
  ·cases h
 ·cases h
def vcmpO : Option VP → Option VP → Int × Int
 | some x, some y => (verC x y, 0)
 | _, _ => (0, 1)
def version_Cmp.f (a0 a1 : ByteArray) : Option (Int × Int) := if Tiny a0 ∧ Tiny a1 then some (vcmpO (vparts (bs a0)) (vparts (bs a1))) else none
theorem version_Cmp.calls (a0 a1 : ByteArray) (r1 r2 : Int) (w : World) (h : version_Cmp.f a0 a1 = some (r1, r2)) :
 Calls Tryz.prog 72 #[.string a0, .string a1] w fun e w' => e = .returned (.tuple #[.int .i64 r1, .int .i64 r2]) ∧ Below w.heap.size w w' := by
 unfold version_Cmp.f at h
 by_cases hs : Tiny a0 ∧ Tiny a1
 ·rw [if_pos hs] at h
  obtain ⟨ht0, ht1⟩ := hs
  have f0 : version_Split.f a0 = some (outE (vparts (bs a0))) := by unfold version_Split.f; rw [if_pos ht0]
  have f1 : version_Split.f a1 = some (outE (vparts (bs a1))) := by unfold version_Split.f; rw [if_pos ht1]
  rcases h0 : vparts (bs a0) with _ | ⟨p, q, r, l⟩
  ·rw [h0] at h f0
   simp only [vcmpO, Option.some.injEq, Prod.mk.injEq] at h
   obtain ⟨rfl, rfl⟩ := h
   exact vcmp_err a0 a1 _ _ _ _ _ _ _ _ _ _ f0 f1 (Or.inl rfl) w
  ·rcases h1 : vparts (bs a1) with _ | ⟨p', q', r', l'⟩
   ·rw [h0, h1] at h
    rw [h0] at f0
    rw [h1] at f1
    simp only [vcmpO, Option.some.injEq, Prod.mk.injEq] at h
    obtain ⟨rfl, rfl⟩ := h
    exact vcmp_err a0 a1 _ _ _ _ _ _ _ _ _ _ f0 f1 (Or.inr ⟨rfl, rfl⟩) w
   ·rw [h0, h1] at h
    rw [h0] at f0
    rw [h1] at f1
    simp only [vcmpO, Option.some.injEq, Prod.mk.injEq] at h
    obtain ⟨rfl, rfl⟩ := h
    obtain ⟨⟨n0, n1, n2⟩, o0, l0, _⟩ := vparts_facts (bs_oct a0) h0
    obtain ⟨⟨m0, m1, m2⟩, o1, l1, _⟩ := vparts_facts (bs_oct a1) h1
    unfold Tiny at ht0 ht1
    rw [bs_length] at l0 l1 o0 o1
    have e0 : ∀ t ∈ p :: q :: r :: l, bs (ofB t) = t ∧ Small (ofB t) := fun t ht => ⟨bs_ofB (o0 t ht).1, by unfold Small; rw [ofB_oct (o0 t ht).1]; have := (o0 t ht).2; omega⟩
    have e1 : ∀ t ∈ p' :: q' :: r' :: l', bs (ofB t) = t ∧ Small (ofB t) := fun t ht => ⟨bs_ofB (o1 t ht).1, by unfold Small; rw [ofB_oct (o1 t ht).1]; have := (o1 t ht).2; omega⟩
    have b0 := e0 p (by simp)
    have b1 := e0 q (by simp)
    have b2 := e0 r (by simp)
    have c0 := e1 p' (by simp)
    have c1 := e1 q' (by simp)
    have c2 := e1 r' (by simp)
    have hl0 : (l.map ofB).map bs = l := by
     rw [List.map_map]
     exact (List.map_congr_left fun t ht => (e0 t (by simp [ht])).1).trans (List.map_id _)
    have hl1 : (l'.map ofB).map bs = l' := by
     rw [List.map_map]
     exact (List.map_congr_left fun t ht => (e1 t (by simp [ht])).1).trans (List.map_id _)
    have hb : ∀ s t : ByteArray, (s.toList == t.toList) = decide (bs s = bs t) := fun s t => by
     rw [str_eq]
     exact decide_eq_decide.2 ⟨fun h => by rw [h], bs_inj⟩
    have z0 := numC_to.eq p p' trivial trivial
    have z1 := numC_to.eq q q' trivial trivial
    have z2 := numC_to.eq r r' trivial trivial
    refine vcmp_go a0 a1 (ofB p) (ofB q) (ofB r) (l.map ofB) (ofB p') (ofB q') (ofB r') (l'.map ofB) f0 f1 (numC p p') (numC q q') (numC r r')
     (by have := numbers_val 5 (ofB p) (ofB p') b0.2 c0.2 (by rw [b0.1]; exact n0) (by rw [c0.1]; exact m0); rwa [b0.1, c0.1] at this)
     (by have := numbers_val 5 (ofB q) (ofB q') b1.2 c1.2 (by rw [b1.1]; exact n1) (by rw [c1.1]; exact m1); rwa [b1.1, c1.1] at this)
     (by have := numbers_val 5 (ofB r) (ofB r') b2.2 c2.2 (by rw [b2.1]; exact n2) (by rw [c2.1]; exact m2); rwa [b2.1, c2.1] at this)
     (fun s hs => by obtain ⟨t, ht, rfl⟩ := List.mem_map.1 hs; exact (e0 t (by simp [ht])).2)
     (fun s hs => by obtain ⟨t, ht, rfl⟩ := List.mem_map.1 hs; exact (e1 t (by simp [ht])).2)
     (by rw [List.length_map]; omega) (by rw [List.length_map]; omega)
     (verC (p, q, r, l) (p', q', r', l')) (fun hd => ?_) (fun hd => ?_) w
    ·rw [hb, hb, hb, b0.1, b1.1, b2.1, c0.1, c1.1, c2.1] at hd
     unfold verC
     simp only []
     by_cases g0 : numC p p' = 0
     ·by_cases g1 : numC q q' = 0
      ·by_cases g2 : numC r r' = 0
       ·rw [z0.1 g0, z1.1 g1, z2.1 g2] at hd
        simp at hd
       ·simp only [orI, g0, g1, g2, if_true, if_false]
      ·simp only [orI, g0, g1, if_true, if_false]
     ·simp only [orI, g0, if_false]
    ·rw [hb, hb, hb, b0.1, b1.1, b2.1, c0.1, c1.1, c2.1] at hd
     simp only [Bool.and_eq_true, decide_eq_true_eq] at hd
     obtain ⟨g0, g1, g2⟩ := hd
     rw [hl0, hl1, preC_eq]
     unfold verC
     simp only [z0.2 g0, z1.2 g1, z2.2 g2]
     rfl
 ·rw [if_neg hs] at h
  cases h
end Go.Proofs.YtodkjmbmlobihaaGreatDoor.QB.D
end
