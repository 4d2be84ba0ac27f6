/- Part 12 of this claim: several texts one behind the other: NCnt, Split, Fgraftwoodref03May, SplitP, RVal, RCmp, EvB5, EvFe1, EvHs, Fgraftwoodref05Less. What each shows stands in its theorems; conditions: sizes of texts and lists, as the functions' definitions say. -/
import Derived.Test.YtodkjmbmlobihaaGreatDoorMWhyDepths11
import Derived.Test.YtodkjmbmlobihaaGreatDoorMWhyDepths6
import Derived.Maps.OwnOps
import Derived.Maps.Range
import Derived.Sort.KeysCollected
import Derived.Test.YtodkjmbmlobihaaGreatDoorMWhyDepths7
import Derived.Test.YtodkjmbmlobihaaGreatDoorMWhyDepths9
import Derived.RegionTactic
import Derived.BigRegion
import Derived.ChangeAlike
import Derived.Test.YtodkjmbmlobihaaGreatDoorMWhyDepths8
import Derived.Deep.QuietTactic
import Derived.BigQuiet
import Derived.Deep.RegionHeld3
section
namespace Go.Proofs.YtodkjmbmlobihaaGreatDoor.Q
open Go.Proofs.YtodkjmbmlobihaaGreatDoor.QB.D
open Go Go.RowKit Go.Maps Go.Lib Go.Proofs.YtodkjmbmlobihaaGreatDoorW.PrintWords Go.Proofs.YtodkjmbmlobihaaGreatDoorW.PrintLast Go.Proofs.YtodkjmbmlobihaaGreatDoorW.PrintMore Gw
set_option linter.unusedVariables false
set_option linter.unusedSimpArgs false
set_option maxRecDepth 100000
theorem keyOf_node_inv {key : Value} {kl : Lit} (h : keyOf Tryz.prog 24 key = some kl) : ∃ x : S24, key = .agg #[.string x.f0, .string x.f1] ∧ NS x ∧ kl = nkey x := by
 have h0 := h
 unfold keyOf at h
 rw [Tryz.underlying24] at h
 have h2 : Tryz.prog.cellsOf 24 = 2 := by kernel_rfl
 have h3 : Tryz.prog.cellsOf 9 = 1 := by kernel_rfl
 obtain ⟨m, h4⟩ : ∃ m, Tryz.prog.types.size = m + 1 := ⟨Tryz.prog.types.size - 1, by have := keyr_node; omega⟩
 have u9 := Tryz.underlying9
 simp only [] at h
 split at h
 ·rename_i hf
  rw [Option.map_eq_some_iff] at h
  obtain ⟨ls, hls, hk⟩ := h
  have hfm := ((Bool.and_eq_true _ _).mp hf).2
  cases key with
  | agg cs =>
   have hsz : cs.size = 2 := by simpa [Value.formed, Tryz.underlying24, h2] using hfm
   obtain ⟨a, b, rfl⟩ : ∃ a b, cs = #[a, b] := ⟨cs[0], cs[1], by apply Array.ext_getElem?; intro i; match i with
    | 0 => simp [hsz]
    | 1 => simp [hsz]
    | i + 2 => simp [hsz]⟩
   have hab : ∃ s t : ByteArray, a = .string s ∧ b = .string t ∧ s.size ≤ maxLen ∧ t.size ≤ maxLen := by
    rw [h4] at hls
    simp [Program.keyLits, Tryz.underlying24, h2, h3, u9, Value.cells] at hls
    have ha : ∃ s : ByteArray, a = .string s ∧ s.size ≤ maxLen := by
     cases a with
     | string s =>
      by_cases h : s.size ≤ maxLen
      ·exact ⟨s, rfl, h⟩
      ·simp [h] at hls
     | _ => simp at hls
    obtain ⟨s, rfl, h5⟩ := ha
    simp [h5] at hls
    have hb : ∃ s : ByteArray, b = .string s ∧ s.size ≤ maxLen := by
     cases b with
     | string s =>
      by_cases h : s.size ≤ maxLen
      ·exact ⟨s, rfl, h⟩
      ·simp [h] at hls
     | _ => simp at hls
    obtain ⟨t, rfl, h6⟩ := hb
    exact ⟨s, t, rfl, rfl, h5, h6⟩
   obtain ⟨s, t, rfl, rfl, h5, h6⟩ := hab
   refine ⟨⟨s, t⟩, rfl, ⟨h5, h6⟩, ?_⟩
   have := keyOf_node ⟨s, t⟩ h5 h6
   rw [this] at h0
   exact (Option.some.inj h0).symm
  | _ => simp [Value.formed, Tryz.underlying24] at hfm
 ·cases h
def lookC (m : List (S24 × Int)) (x : S24) : Option Int := (m.find? (fun p => decide (p.1 = x))).map (·.2)
def putC : List (S24 × Int) → S24 → Int → List (S24 × Int)
 | [], x, v => [(x, v)]
 | p :: r, x, v => if p.1 = x then (x, v) :: r else p :: putC r x v
theorem lookC_put (m : List (S24 × Int)) (x y : S24) (v : Int) : lookC (putC m x v) y = if y = x then some v else lookC m y := by
 induction m with
 | nil =>
  unfold putC lookC
  by_cases e : x = y
  ·subst e; simp
  ·rw [if_neg (fun h => e h.symm)]; simp [e]
 | cons p r ih =>
  unfold putC
  split
  ·rename_i hp
   unfold lookC
   by_cases e : x = y
   ·subst e; simp
   ·rw [if_neg (fun h => e h.symm)]
    simp only [List.find?_cons]
    rw [decide_eq_false e, decide_eq_false (fun h => e (hp.symm.trans h))]
  ·rename_i hp
   by_cases e : p.1 = y
   ·subst e
    rw [if_neg (fun h => hp h)]
    unfold lookC
    simp
   ·unfold lookC at ih ⊢
    simp only [List.find?_cons]
    rw [decide_eq_false e]
    exact ih
structure CntM (D : DataW Unit) (m : List (S24 × Int)) : Prop where
 map : IsMap D
 has : ∀ y, NS y → Maps.has D (nkey y) = (lookC m y).isSome
 at_ : ∀ y, NS y → D.atKey (nkey y) (.lit (.int .i64 0)) = .lit (.int .i64 ((lookC m y).getD 0))
theorem CntM.none : CntM (.map []) [] := ⟨isMap_empty, fun y _ => by simp [Maps.has, lookC], fun y _ => by simp [DataW.atKey, lookC]⟩
theorem CntM.put {D : DataW Unit} {m : List (S24 × Int)} (h : CntM D m) (x : S24) (hx : NS x) (v : Int) : CntM (D.put (nkey x) (.lit (.int .i64 v))) (putC m x v) := by
 refine ⟨h.map.put _ _, fun y hy => ?_, fun y hy => ?_⟩
 ·rw [lookC_put]
  by_cases e : y = x
  ·subst e
   rw [has_put_same h.map (nkey_lit _), if_pos rfl]; rfl
  ·rw [has_put_other (fun h2 => e ((nkey_inj hy hx).1 h2)), h.has y hy, if_neg e]
 ·rw [lookC_put]
  by_cases e : y = x
  ·subst e
   rw [atKey_put_same h.map (nkey_lit _), if_pos rfl]; rfl
  ·rw [atKey_put_other (fun h2 => e ((nkey_inj hy hx).1 h2)), h.at_ y hy, if_neg e]
structure ColN (D0 : DataW Unit) (left : Lit → Bool) (ss : List S24) : Prop where
 nodup : ss.Nodup
 ns : ∀ x ∈ ss, NS x
 mem : ∀ x, NS x → (x ∈ ss ↔ (Maps.has D0 (nkey x) = true ∧ left (nkey x) = false))
theorem ColN.start (D0 : DataW Unit) : ColN D0 (Maps.has D0) [] := ⟨List.nodup_nil, fun x h => (by cases h), fun x _ => by cases Maps.has D0 (nkey x) <;> simp⟩
theorem nkey_same {x y : S24} (hx : NS x) (hy : NS y) : (nkey y).sameKey (nkey x) = decide (y = x) := by
 by_cases e : y = x
 ·subst e; unfold nkey; simp [Lit.sameKey]
 ·have h : nkey y ≠ nkey x := fun h => e ((nkey_inj hy hx).1 h)
  rw [decide_eq_false e]
  unfold nkey at h ⊢
  simp only [ne_eq, Lit.string.injEq] at h
  simp [Lit.sameKey, h]
theorem ColN.step {D0 : DataW Unit} {left : Lit → Bool} {ss : List S24} (h : ColN D0 left ss) {x : S24} (hx : NS x) {y : DataW Unit} (hlk : left (nkey x) = true) (hat : ∀ zd, D0.atKey (nkey x) zd = y) :
 ColN D0 (fun z => left z && !z.sameKey (nkey x)) (ss ++ [x]) := by
 have hhas : Maps.has D0 (nkey x) = true := has_true_of_atKey hat
 have hnew : x ∉ ss := fun hm => by have := ((h.mem x hx).1 hm).2; rw [hlk] at this; cases this
 refine ⟨List.nodup_append.2 ⟨h.nodup, by simp, fun a ha b hb => by simp at hb; subst hb; exact fun e => hnew (e ▸ ha)⟩, fun z hz => ?_, fun z hz => ?_⟩
 ·rcases List.mem_append.1 hz with e | e
  ·exact h.ns z e
  ·rw [List.mem_singleton] at e; subst e; exact hx
 ·rw [nkey_same hx hz, List.mem_append, List.mem_singleton, h.mem z hz]
  by_cases e : z = x
  ·subst e; simp [hhas]
  ·simp [e]
theorem ColN.all {D0 : DataW Unit} {left : Lit → Bool} {ss : List S24} {m : List (S24 × Int)} (h : ColN D0 left ss) (hm : CntM D0 m) (hl : ∀ kl, left kl = false) : ss.Nodup ∧ (∀ x ∈ ss, NS x) ∧ ∀ x, NS x → (x ∈ ss ↔ (lookC m x).isSome = true) :=
 ⟨h.nodup, h.ns, fun x hx => by rw [h.mem x hx, hm.has x hx, hl]; simp⟩
end Go.Proofs.YtodkjmbmlobihaaGreatDoor.Q
end
section
namespace Go.Proofs.YtodkjmbmlobihaaGreatDoor.Q
open Go.RowKit Go.Proofs.YtodkjmbmlobihaaGreatDoorW.PrintWords Go.Proofs.YtodkjmbmlobihaaGreatDoorW.PrintLast Go.Proofs.YtodkjmbmlobihaaGreatDoorW.PrintMore Gw
set_option linter.unusedVariables false
def cutFrom (l : List Nat) (n : Nat) : Nat := n + (cutDash (l.drop n)).1.length
abbrev V4 := ByteArray × ByteArray × ByteArray × List ByteArray × Bool
def zeroV : V4 := (⟨#[]⟩, ⟨#[]⟩, ⟨#[]⟩, [], false)
def SplitPost (v : V4) (w : World) (e : Ending) (w' : World) : Prop := ∃ u : Value, e = .returned (.tuple #[.agg #[.string v.1, .string v.2.1, .string v.2.2.1, u], .bool v.2.2.2.2]) ∧ Kd.R Kd.string 9 w' w.heap.size (fun _ => True) u v.2.2.2.1 ∧ Below w.heap.size w w'
theorem parts_any (s : ByteArray) (hs : Small s) (sep : Nat) (w : World) : Calls Tryz.prog 43 #[.string s, .int .u8 (sep : Int)] w fun e w' => ∃ v, e = .returned v ∧ Kd.R Kd.string 9 w' w.heap.size (fun _ => True) v ((parts sep (bs s)).map ofB) ∧ Below w.heap.size w w' :=
 graftwoodref01_Parts.calls (s.size + 1) s sep _ w (Parts_tot s hs sep _ (by omega))
theorem cutFrom_step {l : List Nat} {n c : Nat} {r : List Nat} (h : l.drop n = c :: r) : cutFrom l n = if c = 45 then n else cutFrom l (n + 1) := by
 have h2 : l.drop (n + 1) = r := by rw [← List.drop_drop, h]; rfl
 unfold cutFrom
 rw [h, h2]
 by_cases hc : c = 45
 ·simp [cutDash, hc]
 ·simp [cutDash, hc]; omega
theorem may_any (s : ByteArray) (hs : Small s) (w : World) : Calls Tryz.prog 64 #[.string s] w fun e w' => e = .returned (.bool (isNum (bs s))) ∧ Drawn0 w w' :=
 graftwoodref02_May.calls (s.size + 1) s _ w (ref2May_tot s hs _ (by omega))
theorem word_any (s : ByteArray) (hs : Small s) (w : World) : Calls Tryz.prog 65 #[.string s] w fun e w' => e = .returned (.bool (isWord (bs s))) ∧ Drawn0 w w' :=
 graftwoodref03_Word.calls (2 * s.size + 7) s _ w (Word_tot s hs _ (by omega))
theorem parts46 (s : ByteArray) (hs : Small s) (w : World) : Calls Tryz.prog 43 #[.string s, .int .u8 46] w fun e w' => ∃ v, e = .returned v ∧ Kd.R Kd.string 9 w' w.heap.size (fun _ => True) v ((parts 46 (bs s)).map ofB) ∧ Below w.heap.size w w' := parts_any s hs 46 w
theorem R_cells {w : World} {base : Nat} {ok : Nat → Prop} {v : Value} {xs : List ByteArray} (h : Kd.R Kd.string 9 w base ok v xs) (hp : 0 < xs.length) : ∃ g c, v = .slice (some ⟨g, 0, none⟩) xs.length c ∧ base ≤ g ∧ g < w.heap.size ∧ ∀ i (hi : i < xs.length), w.cell? ⟨g, i, none⟩ = some (.string (xs[i])) := by
 obtain ⟨g, cap, rfl, h1, h2, _⟩ := Kd.R_form h hp
 refine ⟨g, cap, rfl, h1, h2, fun i hi => ?_⟩
 obtain ⟨ad, he, hc⟩ := Kd.at_string (Kd.R_reads' h).2.2 (i : Int) (by omega) (by omega)
 injection he with he
 subst he
 rw [add_plain, Int.toNat_natCast] at hc
 rw [hc]
 simp [rdOf, List.getD_eq_getElem?_getD, List.getElem?_eq_getElem hi]
theorem two_blocks {w w1 : World} {A B : Array Value} {t u : TypeId} (hb : Below ((w.alloc (.cells A t)).alloc (.cells B u)).heap.size ((w.alloc (.cells A t)).alloc (.cells B u)) w1) :
 (∀ i, w1.cell? ⟨w.heap.size, i, none⟩ = A[i]?) ∧ (∀ i, w1.cell? ⟨w.heap.size + 1, i, none⟩ = B[i]?) ∧ (∀ i, w1.frozen? ⟨w.heap.size, i, none⟩ = false) ∧ (∀ i, w1.frozen? ⟨w.heap.size + 1, i, none⟩ = false) ∧ w.heap.size + 1 < w1.heap.size := by
 have h1 := (hb.block w.heap.size (by simp; omega)).trans (heap_alloc2_old w (.cells A t) (.cells B u))
 have h2 := (hb.block (w.heap.size + 1) (by simp)).trans (heap_alloc2_new w (.cells A t) (.cells B u))
 exact ⟨blk_cell h1, blk_cell h2, blk_frozen h1, blk_frozen h2, by have := hb.size; simp at this; omega⟩
def splitOf (s : ByteArray) (cut : Nat) : List ByteArray → V4
 | [a, b, c] => if isNum (bs a) && isNum (bs b) && isNum (bs c) then
  if cut = s.size then (a, b, c, [], true)
  else if (parts 46 ((bs s).drop (cut + 1))).all isWord then (a, b, c, (parts 46 ((bs s).drop (cut + 1))).map ofB, true) else zeroV
  else zeroV
 | _ => zeroV
def splitS (s : ByteArray) : V4 := splitOf s (cutFrom (bs s) 0) ((parts 46 (((bs s).take (cutFrom (bs s) 0)).drop 1)).map ofB)
set_option maxHeartbeats 2000000 in
theorem split_go (s : ByteArray) (hs : Small s) (h0 : 0 < s.size) (h1 : bt s 0 = 118) (cut : Nat) (hcut : cutFrom (bs s) 0 = cut) (hc1 : 1 ≤ cut) (hc2 : cut ≤ s.size) (v : V4) (hv : splitS s = v) (w : World) : Calls Tryz.prog 45 #[.string s] w (SplitPost v w) := by
 have hu49 := Tryz.underlying75
 have Hv := Aside0.mk hv
 clear hv
 have hd : ((s.size : Int) == 0) = false := beq_eq_false_iff_ne.2 (by omega)
 have hx9 : ∀ h : 0 < s.size, ((s[0]'h).toNat : Int) = 118 := fun h => by rw [← h1]; exact bt_at s 0 h
 have hq : decide (0 < s.size) = true := decide_eq_true h0
 have hsz : s.size ≤ 4398046511104 := hs
 have Hcut := Aside0.mk hcut
 clear h1 hcut
 go_enter Tryz.func45, Tryz.ntmps45
 go_wp2
 go_loop [5, 6] (fun v5 v6 => ∃ j : Int, -1 ≤ j ∧ j < s.size ∧ v5 = .int .i64 (cutFrom (bs s) (j + 1).toNat : Nat) ∧ v6 = .int .i64 j) (fun _ v6 => (intOf v6 + 1).toNat)
 case atStart =>
  have e : cutFrom (bs s) ((s.size : Int) - 1 + 1).toNat = s.size := by
   rw [show ((s.size : Int) - 1 + 1).toNat = s.size from by omega]
   unfold cutFrom
   rw [List.drop_eq_nil_of_le (by rw [bs_length]; omega)]
   rfl
  exact ⟨(s.size : Int) - 1, by omega, by omega, by rw [e], rfl⟩
 case round =>
  obtain ⟨j, hj1, hj2, rfl, rfl⟩ := hrel
  by_cases hj : 0 ≤ j
  ·obtain ⟨m, rfl⟩ := Int.eq_ofNat_of_zero_le hj
   have hm : m < s.size := by omega
   have hdr : (bs s).drop m = (bs s)[m]'(by rw [bs_length]; exact hm) :: (bs s).drop (m + 1) := List.drop_eq_getElem_cons _
   have hst := cutFrom_step hdr
   have hbt := (bt_drop hdr).2.1
   obtain ⟨c, hc⟩ : ∃ c, c = (bs s)[m]'(by rw [bs_length]; exact hm) := ⟨_, rfl⟩
   rw [← hc] at hst hbt
   have hxm : ∀ h : m < s.size, ((s[m]'h).toNat : Int) = (c : Int) := fun h => by rw [← hbt]; exact bt_at s m h
   have Hst := Aside0.mk hst
   have hqm : decide (m < s.size) = true := decide_eq_true hm
   clear hc hst hbt hdr hj1 hj2
   have hj3 : (-1 : Int) ≤ (m : Int) - 1 := by omega
   by_cases h45 : c = 45
   ·have hb : ((c : Int) == 45) = true := beq_iff_eq.2 (by omega)
    have H45 := Aside0.mk h45
    clear h45
    go_wp2
    go_round
    case rel => exact ⟨(m : Int) - 1, by omega, by omega, by rw [show ((m : Int) - 1 + 1).toNat = m from by omega, Hst.out, if_pos H45.out], rfl⟩
    case measure => simp [intOf]
   ·have hb : ((c : Int) == 45) = false := beq_eq_false_iff_ne.2 (by omega)
    have H45 := Aside0.mk h45
    clear h45
    go_wp2
    go_round
    case rel => exact ⟨(m : Int) - 1, by omega, by omega, by rw [show ((m : Int) - 1 + 1).toNat = m from by omega, Hst.out, if_neg H45.out, show ((m : Int) + 1).toNat = m + 1 from by omega], rfl⟩
    case measure => simp [intOf]
  ·obtain rfl : j = -1 := by omega
   rw [show ((-1 : Int) + 1).toNat = 0 from rfl, Hcut.out]
   clear hj1 hj2 hj
   have hc1' : (1 : Int) ≤ (cut : Int) := by omega
   have hc2' : (cut : Int) ≤ (s.size : Int) := by omega
   go_wp2_with fail
   refine (parts46 _ ?_ _).mono ?_
   ·unfold Small; simp only [ByteArray.size_extract]; omega
   rintro e w1 ⟨u, rfl, hR, hb⟩
   rw [bs_extract] at hR
   obtain ⟨xs, hxs⟩ : ∃ xs, xs = (parts 46 (((bs s).take cut).drop 1)).map ofB := ⟨_, rfl⟩
   rw [← hxs] at hR
   have hsp : splitS s = splitOf s cut xs := by unfold splitS; rw [Hcut.out, ← hxs]
   rw [Hv.out] at hsp
   have hxl : ∀ x ∈ xs, Small x := fun x hx => by
    rw [hxs, ← bs_extract] at hx
    refine ((parts_small (s := s.extract 1 cut) ?_ 46).2 x hx).1
    unfold Small; simp only [ByteArray.size_extract]; omega
   clear hxs Hcut Hv
   obtain ⟨kc2, kc4, kf2, kf4, hz⟩ := two_blocks hb
   have hB : Below w.heap.size w w1 := ((((Below.refl _ _).alloc (Nat.le_refl _) _).alloc (by simp) _).trans (hb.mono (by simp; omega)))
   have HB := Aside0.mk hB
   clear hB hb
   by_cases h3 : xs.length = 3
   ·obtain ⟨x0, x1, x2, rfl⟩ : ∃ a b c, xs = [a, b, c] := by
     match xs, h3 with
     | [a, b, c], _ => exact ⟨a, b, c, rfl⟩
    obtain ⟨g, cap, rfl, hg1, hg2, hcs⟩ := R_cells hR (by simp)
    have hcx0 : w1.cell? ⟨g, 0, none⟩ = some (.string x0) := hcs 0 (by simp)
    have hcx1 : w1.cell? ⟨g, 1, none⟩ = some (.string x1) := hcs 1 (by simp)
    have hcx2 : w1.cell? ⟨g, 2, none⟩ = some (.string x2) := hcs 2 (by simp)
    have hs0 : Small x0 := hxl x0 (by simp)
    have hs1 : Small x1 := hxl x1 (by simp)
    have hs2 : Small x2 := hxl x2 (by simp)
    simp only [splitOf] at hsp
    generalize hb0 : isNum (bs x0) = b0 at hsp
    generalize hb1 : isNum (bs x1) = b1 at hsp
    generalize hb2 : isNum (bs x2) = b2 at hsp
    have B0 := Aside0.mk hb0
    have B1 := Aside0.mk hb1
    have B2 := Aside0.mk hb2
    have Hsp := Aside0.mk hsp
    clear hsp h3 hxl hcs hb0 hb1 hb2
    go_wp2_with fail
    refine (may_any x0 hs0 _).mono ?_
    rintro e w2 ⟨rfl, ⟨n2, rfl⟩⟩
    rw [B0.out]
    cases b0
    ·have hvz : v = zeroV := Hsp.out
     subst hvz
     go_wp2
     exact bodyPost_ret (v := .tuple #[.agg #[.string ⟨#[]⟩, .string ⟨#[]⟩, .string ⟨#[]⟩, .slice none 0 0], .bool false]) (by simp [results, Tryz.results45, go_sem, kc2]) rfl ⟨_, rfl, Kd.R_nil _ _ _ _ _, by repeat (with_reducible first | exact HB.out | refine below_set ?_ (by omega) | refine pw_below_drewN ?_ _ | refine below_drew ?_)⟩
    go_wp2_with fail
    refine (may_any x1 hs1 _).mono ?_
    rintro e w3 ⟨rfl, ⟨n3, rfl⟩⟩
    rw [B1.out]
    cases b1
    ·have hvz : v = zeroV := Hsp.out
     subst hvz
     go_wp2
     exact bodyPost_ret (v := .tuple #[.agg #[.string ⟨#[]⟩, .string ⟨#[]⟩, .string ⟨#[]⟩, .slice none 0 0], .bool false]) (by simp [results, Tryz.results45, go_sem, kc2]) rfl ⟨_, rfl, Kd.R_nil _ _ _ _ _, by repeat (with_reducible first | exact HB.out | refine below_set ?_ (by omega) | refine pw_below_drewN ?_ _ | refine below_drew ?_)⟩
    go_wp2_with fail
    refine (may_any x2 hs2 _).mono ?_
    rintro e w4 ⟨rfl, ⟨n4, rfl⟩⟩
    rw [B2.out]
    cases b2
    ·have hvz : v = zeroV := Hsp.out
     subst hvz
     go_wp2
     exact bodyPost_ret (v := .tuple #[.agg #[.string ⟨#[]⟩, .string ⟨#[]⟩, .string ⟨#[]⟩, .slice none 0 0], .bool false]) (by simp [results, Tryz.results45, go_sem, kc2]) rfl ⟨_, rfl, Kd.R_nil _ _ _ _ _, by repeat (with_reducible first | exact HB.out | refine below_set ?_ (by omega) | refine pw_below_drewN ?_ _ | refine below_drew ?_)⟩
    by_cases hcs : cut = s.size
    ·have e77 : ((cut : Int) == (s.size : Int)) = true := beq_iff_eq.2 (by omega)
     have hvz : v = (x0, x1, x2, [], true) := Hsp.out.trans (if_pos hcs)
     subst hvz
     clear hcs
     go_wp2_with fail
     go_region
     go_wp2_with fail
     exact bodyPost_ret (v := .tuple #[.agg #[.string x0, .string x1, .string x2, .slice none 0 0], .bool true]) (by simp [results, Tryz.results45, go_sem, kc2]) rfl ⟨_, rfl, Kd.R_nil _ _ _ _ _, by repeat (with_reducible first | exact HB.out | refine below_set ?_ (by omega) | refine pw_below_drewN ?_ _ | refine below_drew ?_)⟩
    have e77 : ((cut : Int) == (s.size : Int)) = false := beq_eq_false_iff_ne.2 (by omega)
    have hv2 : v = if (parts 46 ((bs s).drop (cut + 1))).all isWord then (x0, x1, x2, (parts 46 ((bs s).drop (cut + 1))).map ofB, true) else zeroV := Hsp.out.trans (if_neg hcs)
    have HV2 := Aside0.mk hv2
    have hlt : (cut : Int) + 1 ≤ (s.size : Int) := by omega
    have hle : cut + 1 ≤ s.size := by omega
    clear hcs hv2 Hsp
    go_wp2_with fail
    go_region
    go_wp2_with fail
    refine (parts46 _ ?_ _).mono ?_
    ·unfold Small; simp only [ByteArray.size_extract]; omega
    rintro e w5 ⟨u5, rfl, hR5, hb5⟩
    have e5 : bs (s.extract (cut + 1) s.size) = (bs s).drop (cut + 1) := by rw [bs_extract, List.take_of_length_le (by rw [bs_length]; omega)]
    rw [e5] at hR5
    have hss : ∀ x ∈ (parts 46 ((bs s).drop (cut + 1))).map ofB, Small x := fun x hx => by
     rw [← e5] at hx
     refine ((parts_small (s := s.extract (cut + 1) s.size) ?_ 46).2 x hx).1
     unfold Small; simp only [ByteArray.size_extract]; omega
    have hall : ((parts 46 ((bs s).drop (cut + 1))).map ofB).all (fun x => isWord (bs x)) = (parts 46 ((bs s).drop (cut + 1))).all isWord := by rw [← e5]; exact parts_all _ _ _
    obtain ⟨q, qs, hq2⟩ := parts_cons 46 ((bs s).drop (cut + 1))
    have hne : 0 < ((parts 46 ((bs s).drop (cut + 1))).map ofB).length := by rw [hq2]; simp
    have hyl : ((parts 46 ((bs s).drop (cut + 1))).map ofB).length ≤ 8796093022208 := by
     have := (parts_small (s := s.extract (cut + 1) s.size) (by unfold Small; simp only [ByteArray.size_extract]; omega) 46).1
     rw [← e5]; simp only [ByteArray.size_extract] at this; omega
    generalize (parts 46 ((bs s).drop (cut + 1))).map ofB = ys at hR5 hss hall HV2 hne hyl
    clear hq2 e5
    obtain ⟨g5, cap5, rfl, hg51, hg52, hc5⟩ := R_cells hR5 hne
    have hz5 : w.heap.size + 1 < w5.heap.size := by have := hb5.size; simp at this; omega
    have hg5 : w.heap.size + 1 < g5 := by simp at hg51; omega
    have m40 : w5.cell? ⟨w.heap.size + 1, 0, none⟩ = some (.string x0) := (hb5.cell (p := ⟨w.heap.size + 1, 0, none⟩) (by simp; omega)).trans (by simp [go_sem, kc4])
    have m41 : w5.cell? ⟨w.heap.size + 1, 1, none⟩ = some (.string x1) := (hb5.cell (p := ⟨w.heap.size + 1, 1, none⟩) (by simp; omega)).trans (by simp [go_sem, kc4])
    have m42 : w5.cell? ⟨w.heap.size + 1, 2, none⟩ = some (.string x2) := (hb5.cell (p := ⟨w.heap.size + 1, 2, none⟩) (by simp; omega)).trans (by simp [go_sem, kc4])
    have m43 : w5.cell? ⟨w.heap.size + 1, 3, none⟩ = some (.slice none 0 0) := (hb5.cell (p := ⟨w.heap.size + 1, 3, none⟩) (by simp; omega)).trans (by simp [go_sem, kc4])
    have m20 : w5.cell? ⟨w.heap.size, 0, none⟩ = some (.string ⟨#[]⟩) := (hb5.cell (p := ⟨w.heap.size, 0, none⟩) (by simp; omega)).trans (by simp [go_sem, kc2])
    have m21 : w5.cell? ⟨w.heap.size, 1, none⟩ = some (.string ⟨#[]⟩) := (hb5.cell (p := ⟨w.heap.size, 1, none⟩) (by simp; omega)).trans (by simp [go_sem, kc2])
    have m22 : w5.cell? ⟨w.heap.size, 2, none⟩ = some (.string ⟨#[]⟩) := (hb5.cell (p := ⟨w.heap.size, 2, none⟩) (by simp; omega)).trans (by simp [go_sem, kc2])
    have m23 : w5.cell? ⟨w.heap.size, 3, none⟩ = some (.slice none 0 0) := (hb5.cell (p := ⟨w.heap.size, 3, none⟩) (by simp; omega)).trans (by simp [go_sem, kc2])
    have f43 := (hb5.frozen (p := ⟨w.heap.size + 1, 3, none⟩) (by simp; omega)).trans (show _ = false by simp [kf4])
    have f20 := (hb5.frozen (p := ⟨w.heap.size, 0, none⟩) (by simp; omega)).trans (show _ = false by simp [kf2])
    have f21 := (hb5.frozen (p := ⟨w.heap.size, 1, none⟩) (by simp; omega)).trans (show _ = false by simp [kf2])
    have f22 := (hb5.frozen (p := ⟨w.heap.size, 2, none⟩) (by simp; omega)).trans (show _ = false by simp [kf2])
    have f23 := (hb5.frozen (p := ⟨w.heap.size, 3, none⟩) (by simp; omega)).trans (show _ = false by simp [kf2])
    have HB5 := Aside0.mk ((by repeat (with_reducible first | exact HB.out | refine below_set ?_ (by omega) | refine pw_below_drewN ?_ _ | refine below_drew ?_) : Below w.heap.size w _).trans (hb5.mono (by simp; omega)))
    have HR5 := Aside0.mk (Kd.R_lower hR5 (by simp; omega : w.heap.size ≤ _))
    clear hb5 hR5 hg51 kc2 kc4 kf2 kf4 HB hcx0 hcx1 hcx2 hz hg1 hg2
    have hyl2 : (ys.length : Int) ≤ 8796093022208 := by omega
    go_wp2_with fail
    generalize hw6 : w5.setCell ⟨w.heap.size + 1, 3, none⟩ (.slice (some ⟨g5, 0, none⟩) ys.length cap5) = w6
    have q43 : w6.cell? ⟨w.heap.size + 1, 3, none⟩ = some (.slice (some ⟨g5, 0, none⟩) ys.length cap5) := by rw [← hw6]; simp [go_sem, m43]
    have q40 : w6.cell? ⟨w.heap.size + 1, 0, none⟩ = some (.string x0) := by rw [← hw6]; simp [go_sem, m40]
    have q41 : w6.cell? ⟨w.heap.size + 1, 1, none⟩ = some (.string x1) := by rw [← hw6]; simp [go_sem, m41]
    have q42 : w6.cell? ⟨w.heap.size + 1, 2, none⟩ = some (.string x2) := by rw [← hw6]; simp [go_sem, m42]
    have q20 : w6.cell? ⟨w.heap.size, 0, none⟩ = some (.string ⟨#[]⟩) := by rw [← hw6]; simp [go_sem, m20]
    have q21 : w6.cell? ⟨w.heap.size, 1, none⟩ = some (.string ⟨#[]⟩) := by rw [← hw6]; simp [go_sem, m21]
    have q22 : w6.cell? ⟨w.heap.size, 2, none⟩ = some (.string ⟨#[]⟩) := by rw [← hw6]; simp [go_sem, m22]
    have q23 : w6.cell? ⟨w.heap.size, 3, none⟩ = some (.slice none 0 0) := by rw [← hw6]; simp [go_sem, m23]
    have g20 : w6.frozen? ⟨w.heap.size, 0, none⟩ = false := by rw [← hw6]; simp [go_sem, f20]
    have g21 : w6.frozen? ⟨w.heap.size, 1, none⟩ = false := by rw [← hw6]; simp [go_sem, f21]
    have g22 : w6.frozen? ⟨w.heap.size, 2, none⟩ = false := by rw [← hw6]; simp [go_sem, f22]
    have g23 : w6.frozen? ⟨w.heap.size, 3, none⟩ = false := by rw [← hw6]; simp [go_sem, f23]
    have hz6 : w.heap.size + 1 < w6.heap.size := by rw [← hw6]; simp; exact hz5
    have q5 : ∀ i (hi : i < ys.length), w6.cell? ⟨g5, i, none⟩ = some (.string (ys[i])) := fun i hi => by rw [← hw6, World.cell?_setCell_other _ _ _ _ (by first | (simp; done) | (simp; omega))]; exact hc5 i hi
    have HB6 : Aside0 (Below w.heap.size w w6) := ⟨by rw [← hw6]; exact below_set HB5.out (by omega)⟩
    have HR6 : Aside0 (Kd.R Kd.string 9 w6 w.heap.size (fun k => some k = (Value.slice (some ⟨g5, 0, none⟩) ys.length cap5).ownBlock) (.slice (some ⟨g5, 0, none⟩) ys.length cap5) ys) := ⟨by
     rw [← hw6]
     exact Kd.R_far (p := ⟨w.heap.size + 1, 3, none⟩) (Kd.R_tight rfl HR5.out) (fun k hk => by simp [Value.ownBlock] at hk; simp; omega) _⟩
    have Q5 := Aside0.mk q5
    clear q5 hw6 m40 m41 m42 m43 m20 m21 m22 m23 f43 f20 f21 f22 f23 HB5 HR5 hc5 hz5
    go_loopw [8] (fun v8 wr => ∃ i n : Nat, i ≤ ys.length ∧ v8 = .int .i64 (i : Int) ∧ wr = w6.drewN n ∧ Aside0 ((ys.take i).all (fun x => isWord (bs x)) = true)) (fun v8 _ => ys.length - (intOf v8).toNat)
    case atStart => exact ⟨0, 0, Nat.zero_le _, rfl, rfl, ⟨rfl⟩⟩
    case round =>
     obtain ⟨i, n, hi, rfl, rfl, hA⟩ := hrel
     by_cases hil : i < ys.length
     ·have hce := Q5.out i hil
      have hsx := hss _ (List.getElem_mem hil)
      have hi0 : (i : Int) < (ys.length : Int) := by omega
      have hi1 : decide ((i : Int) < (ys.length : Int)) = true := decide_eq_true hi0
      have htk : ys.take (i + 1) = ys.take i ++ [ys[i]] := List.take_succ_eq_append_getElem hil
      have hmem : ys[i] ∈ ys := List.getElem_mem hil
      have Hmem := Aside0.mk hmem
      have Htk := Aside0.mk htk
      obtain ⟨y, hy⟩ : ∃ y, y = ys[i] := ⟨_, rfl⟩
      rw [← hy] at hce hsx Htk Hmem
      clear hmem htk hy
      go_wp2_with fail
      refine (word_any y hsx _).mono ?_
      rintro e w7 ⟨rfl, ⟨n7, rfl⟩⟩
      generalize hwy : isWord (bs y) = b7
      have Hwy := Aside0.mk hwy
      clear hwy
      cases b7
      ·have hvz : v = zeroV := by
        have hno : ys.all (fun x => isWord (bs x)) = false := by
         rw [List.all_eq_false]
         exact ⟨y, Hmem.out, by rw [Hwy.out]; decide⟩
        have := HV2.out
        rw [← hall, hno] at this
        exact this
       subst hvz
       go_wp2
       exact bodyPost_ret (v := .tuple #[.agg #[.string ⟨#[]⟩, .string ⟨#[]⟩, .string ⟨#[]⟩, .slice none 0 0], .bool false]) (by simp [results, Tryz.results45, go_sem, q20, q21, q22, q23]) rfl ⟨_, rfl, Kd.R_nil _ _ _ _ _, by repeat (with_reducible first | exact HB6.out | refine below_set ?_ (by omega) | refine pw_below_drewN ?_ _ | refine below_drew ?_)⟩
      ·go_wp2
       go_roundw
       case rel => exact ⟨i + 1, n + n7, by omega, by go_num, by simp, ⟨by rw [Htk.out, List.all_append, hA.out]; simp [Hwy.out]⟩⟩
       case measure => simp [intOf]; omega
     ·obtain rfl : i = ys.length := by omega
      have hi1 : decide ((ys.length : Int) < (ys.length : Int)) = false := decide_eq_false (by omega)
      have hvz : v = (x0, x1, x2, ys, true) := by
       have h2 := hA.out
       rw [List.take_length] at h2
       have := HV2.out
       rw [← hall, h2] at this
       exact this
      subst hvz
      have hk : ∀ k, some k = (Value.slice (some ⟨g5, 0, none⟩) ys.length cap5).ownBlock → k ≠ w.heap.size := fun k hk => by simp [Value.ownBlock] at hk; omega
      have Hk := Aside0.mk hk
      clear hk
      go_wp2
      exact bodyPost_ret (v := .tuple #[.agg #[.string x0, .string x1, .string x2, .slice (some ⟨g5, 0, none⟩) ys.length cap5], .bool true]) (by simp [results, Tryz.results45, go_sem, q20, q21, q22, q23]) rfl ⟨_, rfl, Kd.R_mono (Kd.R_far (p := ⟨w.heap.size, 3, none⟩) (Kd.R_far (p := ⟨w.heap.size, 2, none⟩) (Kd.R_far (p := ⟨w.heap.size, 1, none⟩) (Kd.R_far (p := ⟨w.heap.size, 0, none⟩) (Kd.R_drewN HR6.out _) Hk.out _) Hk.out _) Hk.out _) Hk.out _) (fun _ _ => trivial), by repeat (with_reducible first | exact HB6.out | refine below_set ?_ (by omega) | refine pw_below_drewN ?_ _ | refine below_drew ?_)⟩
   ·have hl3 : ((xs.length : Int) != 3) = true := bne_iff_ne.2 (by omega)
    have hvz : v = zeroV := by
     rw [hsp]
     match xs, h3 with
     | [], _ => rfl
     | [_], _ => rfl
     | [_, _], _ => rfl
     | [_, _, _], h => exact absurd rfl h
     | _ :: _ :: _ :: _ :: _, _ => rfl
    subst hvz
    obtain ⟨A, c, rfl⟩ := Kd.R_slice hR
    clear hsp h3 hxl hR
    go_wp2
    exact bodyPost_ret (v := .tuple #[.agg #[.string ⟨#[]⟩, .string ⟨#[]⟩, .string ⟨#[]⟩, .slice none 0 0], .bool false]) (by simp [results, Tryz.results45, go_sem, kc2]) rfl ⟨_, rfl, Kd.R_nil _ _ _ _ _, by repeat (with_reducible first | exact HB.out | refine below_set ?_ (by omega) | refine pw_below_drewN ?_ _ | refine below_drew ?_)⟩
set_option maxHeartbeats 1000000 in
theorem split_empty (s : ByteArray) (h0 : s.size = 0) (w : World) : Calls Tryz.prog 45 #[.string s] w (SplitPost zeroV w) := by
 have hu49 := Tryz.underlying75
 have hd : ((s.size : Int) == 0) = true := by rw [h0]; rfl
 have Hh := Aside0.mk h0
 clear h0
 go_enter Tryz.func45, Tryz.ntmps45
 go_wp2
 exact bodyPost_ret (v := .tuple #[.agg #[.string ⟨#[]⟩, .string ⟨#[]⟩, .string ⟨#[]⟩, .slice none 0 0], .bool false]) (by simp [results, Tryz.results45, go_sem]) rfl ⟨_, rfl, Kd.R_nil _ _ _ _ _, ((Below.refl _ _).alloc (Nat.le_refl _) _).alloc (by simp) _⟩
set_option maxHeartbeats 1000000 in
theorem split_other (s : ByteArray) (h0 : 0 < s.size) (c : Int) (hc : bt s 0 = c) (h1 : (c != 118) = true) (w : World) : Calls Tryz.prog 45 #[.string s] w (SplitPost zeroV w) := by
 have hu49 := Tryz.underlying75
 have hd : ((s.size : Int) == 0) = false := beq_eq_false_iff_ne.2 (by omega)
 have hx9 : ∀ h : 0 < s.size, ((s[0]'h).toNat : Int) = c := fun h => by rw [← hc]; exact bt_at s 0 h
 clear hc
 go_enter Tryz.func45, Tryz.ntmps45
 go_wp2
 exact bodyPost_ret (v := .tuple #[.agg #[.string ⟨#[]⟩, .string ⟨#[]⟩, .string ⟨#[]⟩, .slice none 0 0], .bool false]) (by simp [results, Tryz.results45, go_sem]) rfl ⟨_, rfl, Kd.R_nil _ _ _ _ _, ((Below.refl _ _).alloc (Nat.le_refl _) _).alloc (by simp) _⟩
def splitV (s : ByteArray) : V4 := if bs s = [] then zeroV else if (bs s).head? = some 118 then splitS s else zeroV
theorem cutFrom_le (l : List Nat) : cutFrom l 0 ≤ l.length := by
 unfold cutFrom
 simp only [Nat.zero_add, List.drop_zero]
 induction l with
 | nil => simp [cutDash]
 | cons c r ih =>
  by_cases hc : c = 45
  ·simp [cutDash, hc]
  ·simp [cutDash, hc]; exact ih
theorem Split_any (s : ByteArray) (hs : Small s) (w : World) : Calls Tryz.prog 45 #[.string s] w (SplitPost (splitV s) w) := by
 unfold splitV
 cases hb : bs s with
 | nil =>
  have h0 : s.size = 0 := by rw [← bs_length, hb]; rfl
  rw [if_pos rfl]
  exact split_empty s h0 w
 | cons c r =>
  have h0 : s.size = r.length + 1 := by rw [← bs_length, hb]; rfl
  have hd : (bs s).drop 0 = c :: r := by simpa using hb
  have hc := (bt_drop hd).2.1
  rw [show ((0 : Nat) : Int) = 0 from rfl] at hc
  rw [if_neg (by simp)]
  by_cases h : c = 118
  ·subst h
   rw [if_pos (by simp)]
   refine split_go s hs (by omega) hc _ rfl ?_ ?_ _ rfl w
   ·rw [cutFrom_step hd, if_neg (by decide)]; unfold cutFrom; omega
   ·have := cutFrom_le (bs s); rw [bs_length] at this; exact this
  ·rw [if_neg (by simp; exact h)]
   exact split_other s (by omega) c hc (by rw [bne_iff_ne]; omega) w
def graftwoodref03_Split.f (a0 : ByteArray) : Option V4 := if Small a0 then some (splitV a0) else none
theorem graftwoodref03_Split.calls (a0 : ByteArray) (r1 : ByteArray) (r2 : ByteArray) (r3 : ByteArray) (r4 : List ByteArray) (r5 : Bool) (w : World) (h : graftwoodref03_Split.f a0 = some (r1, r2, r3, r4, r5)) :
 Calls Tryz.prog 45 #[.string a0] w fun e w' => ∃ v3_ : Value, e = .returned (.tuple #[.agg #[.string r1, .string r2, .string r3, v3_], .bool r5]) ∧ Kd.R Kd.string 9 w' w.heap.size (fun _ => True) v3_ r4 ∧ Below w.heap.size w w' := by
 unfold graftwoodref03_Split.f at h
 by_cases hs : Small a0
 ·rw [if_pos hs] at h
  have := Split_any a0 hs w
  rw [Option.some.inj h] at this
  exact this
 ·rw [if_neg hs] at h
  cases h
end Go.Proofs.YtodkjmbmlobihaaGreatDoor.Q
end
section
namespace Go.Proofs.YtodkjmbmlobihaaGreatDoor.Q
open Go.RowKit Go.Proofs.YtodkjmbmlobihaaGreatDoorW.PrintWords Go.Proofs.YtodkjmbmlobihaaGreatDoorW.PrintLast Go.Proofs.YtodkjmbmlobihaaGreatDoorW.PrintMore
attribute [local go_sem] max2_int min2_int max_two min_two max_three min_three max_four min_four   -- for this text's walks alone
set_option linter.unusedVariables false
set_option linter.unusedSimpArgs false
attribute [local go_sem high] eqA24 eqA46
end Go.Proofs.YtodkjmbmlobihaaGreatDoor.Q
end
section
namespace Go.Proofs.YtodkjmbmlobihaaGreatDoor.Q
open Go.RowKit Gw
set_option linter.unusedVariables false
theorem cutDash_split : ∀ r : List Nat, r = (cutDash r).1 ++ (match (cutDash r).2 with | none => [] | some p => 45 :: p)
 | [] => rfl
 | c :: r => by
  have ih := cutDash_split r
  by_cases h : c = 45
  ·subst h; rfl
  ·simp only [cutDash, if_neg h, List.cons_append]
   rw [← ih]
theorem cutFrom_v (r : List Nat) : cutFrom (118 :: r) 0 = (cutDash r).1.length + 1 := by simp [cutFrom, cutDash]
theorem take_v (r : List Nat) : ((118 :: r).take (cutFrom (118 :: r) 0)).drop 1 = (cutDash r).1 := by
 rw [cutFrom_v, List.take_succ_cons, List.drop_succ_cons, List.drop_zero]
 have h := cutDash_split r
 generalize (cutDash r).1 = x at *
 generalize (cutDash r).2 = y at *
 rw [h, List.take_left']
 rfl
theorem drop_v (r p : List Nat) (hp : (cutDash r).2 = some p) : (118 :: r).drop (cutFrom (118 :: r) 0 + 1) = p := by
 rw [cutFrom_v, List.drop_succ_cons]
 have h := cutDash_split r
 rw [hp] at h
 generalize (cutDash r).1 = x at *
 rw [h]
 simp
theorem cut_size (r : List Nat) : cutFrom (118 :: r) 0 = (118 :: r).length ↔ (cutDash r).2 = none := by
 rw [cutFrom_v, List.length_cons]
 have h := congrArg List.length (cutDash_split r)
 rw [List.length_append] at h
 cases hp : (cutDash r).2 with
 | none => rw [hp] at h; simp at h; simp; omega
 | some p => rw [hp] at h; simp at h; simp; omega
end Go.Proofs.YtodkjmbmlobihaaGreatDoor.Q
end
section
namespace Go.Proofs.YtodkjmbmlobihaaGreatDoor.Q
open Go Go.RowKit Go.Lib Go.Proofs.YtodkjmbmlobihaaGreatDoorW.PrintWords Go.Proofs.YtodkjmbmlobihaaGreatDoorW.PrintLast Go.Proofs.YtodkjmbmlobihaaGreatDoorW.PrintMore Gw
set_option linter.unusedVariables false
set_option linter.unusedSimpArgs false
theorem split_some (s : ByteArray) (p q r : List Nat) (l : List (List Nat)) (h : vparts (bs s) = some (p, q, r, l)) : splitV s = (ofB p, ofB q, ofB r, l.map ofB, true) := by
 have hv : isVersion (bs s) = true := by rw [← vparts_some, h]; rfl
 unfold splitV
 cases hb : bs s with
 | nil => rw [hb] at h; cases h
 | cons c t =>
  rw [if_neg (by simp)]
  by_cases hc : c = 118
  ·subst hc
   rw [if_pos (by simp)]
   have hsz : s.size = (118 :: t).length := by rw [← bs_length, hb]
   unfold splitS
   rw [hb, take_v]
   rw [hb] at h
   have h' : vcore (cutDash t).1 (cutDash t).2 = some (p, q, r, l) := h
   unfold vcore at h'
   split at h'
   ·rename_i a b c hp
    split at h'
    ·rename_i hn
     have ho : ∀ p ∈ parts 46 (cutDash t).1, ∀ x ∈ p, x < 256 := by
      refine parts_oct (fun x hx => bs_oct s x ?_)
      rw [hb]
      refine List.mem_cons_of_mem _ ?_
      rw [cutDash_split t]
      exact List.mem_append_left _ hx
     rw [hp] at ho ⊢
     simp only [List.map_cons, List.map_nil, splitOf, bs_ofB (ho a (by simp)), bs_ofB (ho b (by simp)), bs_ofB (ho c (by simp))]
     rw [if_pos hn, hsz]
     unfold vpre at h'
     split at h'
     ·rename_i hc
      rw [if_pos ((cut_size t).2 hc)]
      injection h' with h'
      simp only [Prod.mk.injEq] at h'
      obtain ⟨rfl, rfl, rfl, rfl⟩ := h'
      rfl
     ·rename_i pp hc
      rw [if_neg (fun e => by rw [(cut_size t).1 e] at hc; cases hc), hb, drop_v t pp hc]
      split at h'
      ·rename_i hw
       injection h' with h'
       simp only [Prod.mk.injEq] at h'
       obtain ⟨rfl, rfl, rfl, rfl⟩ := h'
       rw [if_pos hw]
      ·cases h'
    ·cases h'
   ·cases h'
  ·rw [hb] at hv
   unfold isVersion at hv
   split at hv <;> simp_all
theorem rcmp1_l0 (a b : ByteArray) (ha : Small a) (hb : Small b) : ∀ (n i k : Nat), a.size ≤ i + n → i ≤ a.size → i ≤ b.size → 2 * n + 2 ≤ k →
 graftwoodref01_Cmp.l0 k a b (i : Int) = some (lexC ((bs a).drop i) ((bs b).drop i)) := by
 intro n
 induction n with
 | zero =>
  intro i k h1 h2 h3 hk
  obtain ⟨j, rfl⟩ : ∃ j, k = j + 2 := ⟨k - 2, by omega⟩
  have e : i = a.size := by omega
  subst e
  rw [List.drop_eq_nil_of_le (by rw [bs_length]; exact Nat.le_refl _)]
  simp only [graftwoodref01_Cmp.l0, graftwoodref01_Cmp.j1]
  rw [if_neg (by omega)]
  simp only [Bool.false_eq_true, if_false]
  by_cases h : a.size < b.size
  ·rw [if_pos (by omega), List.drop_eq_getElem_cons (by rw [bs_length]; exact h)]
   rfl
  ·rw [if_neg (by omega), if_neg (by omega), List.drop_eq_nil_of_le (by rw [bs_length]; omega)]
   rfl
 | succ n ih =>
  intro i k h1 h2 h3 hk
  obtain ⟨j, rfl⟩ : ∃ j, k = j + 2 := ⟨k - 2, by omega⟩
  by_cases h : i < a.size
  ·by_cases h' : i < b.size
   ·have d1 : (bs a).drop i = (bs a)[i]'(by rw [bs_length]; exact h) :: (bs a).drop (i + 1) := List.drop_eq_getElem_cons _
    have d2 : (bs b).drop i = (bs b)[i]'(by rw [bs_length]; exact h') :: (bs b).drop (i + 1) := List.drop_eq_getElem_cons _
    have t1 := (bt_drop d1).2.1
    have t2 := (bt_drop d2).2.1
    rw [d1, d2]
    simp only [graftwoodref01_Cmp.l0, graftwoodref01_Cmp.j1]
    rw [if_pos (by omega), decide_eq_true (show (i : Int) < (b.size : Int) by omega), if_pos rfl, if_pos (by omega), if_pos (by omega), if_pos (by omega), t1, t2]
    generalize (bs a)[i]'(by rw [bs_length]; exact h) = x
    generalize (bs b)[i]'(by rw [bs_length]; exact h') = y
    simp only [lexC]
    by_cases c1 : x < y
    ·rw [if_pos (by omega), if_pos c1]
    ·rw [if_neg (by omega), if_neg c1]
     by_cases c2 : y < x
     ·rw [if_pos (by omega), if_pos c2]
     ·rw [if_neg (by omega), if_neg c2, show wrap64 ((i : Int) + 1) = ((i + 1 : Nat) : Int) by unfold wrap64; unfold Small at ha; omega]
      exact ih (i + 1) j (by omega) (by omega) (by omega) (by omega)
   ·simp only [graftwoodref01_Cmp.l0, graftwoodref01_Cmp.j1]
    rw [if_pos (by omega), decide_eq_false (show ¬ (i : Int) < (b.size : Int) by omega), List.drop_eq_getElem_cons (show i < (bs a).length by rw [bs_length]; exact h), List.drop_eq_nil_of_le (show (bs b).length ≤ i by rw [bs_length]; omega)]
    simp only [Bool.false_eq_true, if_false]
    rw [if_neg (by omega), if_pos (by omega)]
    rfl
  ·exact ih i (j + 2) (by omega) h2 h3 (by omega)
theorem rcmp1_val (a b : ByteArray) (ha : Small a) (hb : Small b) (k : Nat) (hk : 2 * a.size + 2 ≤ k) : graftwoodref01_Cmp.f k a b = some (lexC (bs a) (bs b)) := by
 have h := rcmp1_l0 a b ha hb a.size 0 k (by omega) (Nat.zero_le _) (Nat.zero_le _) hk
 exact h
def atI (l : List Nat) (i : Nat) : Int := if i ≥ l.length then 0 else ((l.getD (l.length - 1 - i) 48 : Nat) : Int) - 48
theorem at_val (s : ByteArray) (hs : Small s) (hd : (bs s).all dig = true) (i : Nat) (hi : i ≤ 4398046511104) : graftwoodref02_at.f s (i : Int) = some (atI (bs s) i) := by
 unfold graftwoodref02_at.f atI
 rw [bs_length]
 by_cases h : i ≥ s.size
 ·rw [if_pos (by omega), if_pos h]
 ·have hw : wrap64 (wrap64 ((s.size : Int) - 1) - (i : Int)) = ((s.size - 1 - i : Nat) : Int) := by unfold wrap64; unfold Small at hs; omega
  have hl : s.size - 1 - i < (bs s).length := by rw [bs_length]; omega
  have hb : bt s ((s.size - 1 - i : Nat) : Int) = (((bs s)[s.size - 1 - i]'hl : Nat) : Int) := bt_at_get s _ (by omega)
  have hmem : (bs s)[s.size - 1 - i]'hl ∈ bs s := List.getElem_mem _
  have hdg := List.all_eq_true.1 hd _ hmem
  rw [if_neg (by omega), if_neg h, hw, if_pos (by omega), if_pos (by omega), hb, digit_tot _ (bs_oct s _ hmem), if_pos hdg]
  simp [List.getD_eq_getElem?_getD, List.getElem?_eq_getElem hl]
theorem rnum_l0 (a b : ByteArray) (ha : Small a) (hb : Small b) (da : (bs a).all dig = true) (db : (bs b).all dig = true) (hl : a.size = b.size) : ∀ (n k : Nat), n ≤ a.size → n + 1 ≤ k →
 graftwoodref02_Cmp.l0 k a b ((n : Int) - 1) = some (lexC ((bs a).drop (a.size - n)) ((bs b).drop (a.size - n))) := by
 intro n
 induction n with
 | zero =>
  intro k h1 hk
  obtain ⟨j, rfl⟩ : ∃ j, k = j + 1 := ⟨k - 1, by omega⟩
  rw [List.drop_eq_nil_of_le (by rw [bs_length]; omega), List.drop_eq_nil_of_le (by rw [bs_length]; omega)]
  simp [graftwoodref02_Cmp.l0, lexC]
 | succ n ih =>
  intro k h1 hk
  obtain ⟨j, rfl⟩ : ∃ j, k = j + 1 := ⟨k - 1, by omega⟩
  have e : ((n + 1 : Nat) : Int) - 1 = (n : Int) := by omega
  have la : a.size - (n + 1) < (bs a).length := by rw [bs_length]; omega
  have lb : a.size - (n + 1) < (bs b).length := by rw [bs_length]; omega
  have va := at_val a ha da n (by unfold Small at ha; omega)
  have vb := at_val b hb db n (by unfold Small at ha; omega)
  have xa : atI (bs a) n = (((bs a)[a.size - (n + 1)]'la : Nat) : Int) - 48 := by
   unfold atI
   rw [bs_length, if_neg (by omega), show a.size - 1 - n = a.size - (n + 1) by omega]
   simp [List.getD_eq_getElem?_getD, List.getElem?_eq_getElem la]
  have xb : atI (bs b) n = (((bs b)[a.size - (n + 1)]'lb : Nat) : Int) - 48 := by
   unfold atI
   rw [bs_length, if_neg (by omega), show b.size - 1 - n = a.size - (n + 1) by omega]
   simp [List.getD_eq_getElem?_getD, List.getElem?_eq_getElem lb]
  rw [e, List.drop_eq_getElem_cons la, List.drop_eq_getElem_cons lb, show a.size - (n + 1) + 1 = a.size - n by omega]
  simp only [graftwoodref02_Cmp.l0]
  rw [if_pos (by omega), va, vb]
  simp only [Option.bind_some]
  rw [xa, xb]
  have ih' := ih j (by omega) (by omega)
  rw [show wrap64 ((n : Int) - 1) = (n : Int) - 1 by unfold wrap64; unfold Small at ha; omega, ih']
  generalize (bs a)[a.size - (n + 1)]'la = x
  generalize (bs b)[a.size - (n + 1)]'lb = y
  simp only [lexC]
  by_cases c1 : x < y
  ·rw [if_pos (by omega), if_pos c1]
  ·rw [if_neg (by omega), if_neg c1]
   by_cases c2 : y < x
   ·rw [if_pos (by omega), if_pos c2]
   ·rw [if_neg (by omega), if_neg c2]
theorem lead_digit {s : List Nat} (h : isNum s = true) (hl : 2 ≤ s.length) : 49 ≤ s.getD 0 48 := by
 match s, hl with
 | c :: d :: r, _ =>
  unfold isNum at h
  simp only [List.all_cons, List.isEmpty_cons, Bool.false_or, Bool.and_eq_true, bne_iff_ne] at h
  have := h.1.1
  simp only [dig, Bool.and_eq_true, decide_eq_true_eq] at this
  have h2 := h.2
  simp
  omega
theorem num_dig {s : List Nat} (h : isNum s = true) : s.all dig = true := by
 unfold isNum at h
 rw [Bool.and_eq_true] at h
 exact h.1
theorem num_ne {s : List Nat} (h : isNum s = true) : 1 ≤ s.length := by
 cases s with
 | nil => simp [isNum] at h
 | cons => simp
theorem rnum_val (a b : ByteArray) (ha : Small a) (hb : Small b) (na : isNum (bs a) = true) (nb : isNum (bs b) = true) (k : Nat) (hk : a.size + b.size + 2 ≤ k) : graftwoodref02_Cmp.f k a b = some (numC (bs a) (bs b)) := by
 have la := num_ne na
 have lb := num_ne nb
 rw [bs_length] at la lb
 unfold graftwoodref02_Cmp.f numC
 rw [bs_length, bs_length]
 have hsa : a.size ≤ 4398046511104 := ha
 have hsb : b.size ≤ 4398046511104 := hb
 rcases Nat.lt_trichotomy a.size b.size with h | h | h
 ·have e : wrap64 (mx (a.size : Int) (b.size : Int) - 1) = ((b.size - 1 : Nat) : Int) := by unfold wrap64 mx; (repeat' split) <;> omega
  rw [e]
  obtain ⟨j, rfl⟩ : ∃ j, k = j + 1 := ⟨k - 1, by omega⟩
  simp only [graftwoodref02_Cmp.l0]
  rw [if_pos (by omega), at_val a ha (num_dig na) _ (by omega), at_val b hb (num_dig nb) _ (by omega)]
  simp only [Option.bind_some]
  have x1 : atI (bs a) (b.size - 1) = 0 := by unfold atI; rw [bs_length, if_pos (by omega)]
  have x2 : 1 ≤ atI (bs b) (b.size - 1) := by
   have := lead_digit nb (by rw [bs_length]; omega)
   unfold atI
   rw [bs_length, if_neg (by omega), show b.size - 1 - (b.size - 1) = 0 by omega]
   omega
  rw [x1, if_pos (by omega)]
  simp [cmpN, h, orI]
 ·have e : wrap64 (mx (a.size : Int) (b.size : Int) - 1) = (a.size : Int) - 1 := by unfold wrap64 mx; (repeat' split) <;> omega
  rw [e, rnum_l0 a b ha hb (num_dig na) (num_dig nb) h a.size k (Nat.le_refl _) (by omega), Nat.sub_self]
  simp [cmpN, h, orI]
 ·have e : wrap64 (mx (a.size : Int) (b.size : Int) - 1) = ((a.size - 1 : Nat) : Int) := by unfold wrap64 mx; (repeat' split) <;> omega
  rw [e]
  obtain ⟨j, rfl⟩ : ∃ j, k = j + 1 := ⟨k - 1, by omega⟩
  simp only [graftwoodref02_Cmp.l0]
  rw [if_pos (by omega), at_val a ha (num_dig na) _ (by omega), at_val b hb (num_dig nb) _ (by omega)]
  simp only [Option.bind_some]
  have x1 : atI (bs b) (a.size - 1) = 0 := by unfold atI; rw [bs_length, if_pos (by omega)]
  have x2 : 1 ≤ atI (bs a) (a.size - 1) := by
   have := lead_digit na (by rw [bs_length]; omega)
   unfold atI
   rw [bs_length, if_neg (by omega), show a.size - 1 - (a.size - 1) = 0 by omega]
   omega
  rw [x1, if_neg (by omega), if_pos (by omega)]
  have h3 : ¬ a.size < b.size := by omega
  simp [cmpN, h, h3, orI]
theorem rwords_val (a b : ByteArray) (ha : Small a) (hb : Small b) (k : Nat) (hk : 2 * a.size + b.size + 4 ≤ k) : graftwoodref03_words.f k a b = some (wordC (bs a) (bs b)) := by
 obtain ⟨j, rfl⟩ : ∃ j, k = j + 1 := ⟨k - 1, by omega⟩
 unfold graftwoodref03_words.f
 rw [ref2May_tot a ha _ (by omega), ref2May_tot b hb _ (by omega)]
 cases na : isNum (bs a) <;> cases nb : isNum (bs b)
 ·simp [graftwoodref03_words.j0, wordC, na, nb, rcmp1_val a b ha hb j (by omega)]
 ·simp [graftwoodref03_words.j0, wordC, na, nb]
 ·simp [graftwoodref03_words.j0, wordC, na, nb]
 ·simp [graftwoodref03_words.j0, wordC, na, nb, rnum_val a b ha hb na nb j (by omega)]
end Go.Proofs.YtodkjmbmlobihaaGreatDoor.Q
end
section
namespace Go.Proofs.YtodkjmbmlobihaaGreatDoor.Q
open Go.Proofs.YtodkjmbmlobihaaGreatDoor.QB.D
open Go Go.RowKit Go.Lib Go.Proofs.YtodkjmbmlobihaaGreatDoorW.PrintWords Go.Proofs.YtodkjmbmlobihaaGreatDoorW.PrintLast Go.Proofs.YtodkjmbmlobihaaGreatDoorW.PrintMore Gw Go.Proofs.YtodkjmbmlobihaaGreatDoor.QB.D
set_option linter.unusedVariables false
set_option linter.unusedSimpArgs false
def FSr (A : Option Addr) (xs : List ByteArray) (w : World) : Prop := ∀ i (hi : i < xs.length), ∃ g, A = some ⟨g, 0, none⟩ ∧ g < w.heap.size ∧ w.cell? ⟨g, i, none⟩ = some (.string (xs[i]))
theorem FSr.below {A : Option Addr} {xs : List ByteArray} {w w' : World} {b : Nat} (h : FSr A xs w) (hb : Below b w w') (hw : w.heap.size ≤ b) : FSr A xs w' := fun i hi => by
 obtain ⟨g, rfl, h1, h2⟩ := h i hi
 exact ⟨g, rfl, Nat.lt_of_lt_of_le h1 hb.size, (hb.cell (p := ⟨g, i, none⟩) (by simp; omega)).trans h2⟩
theorem FSr_of_R {w : World} {base : Nat} {u : Value} {xs : List ByteArray} (h : Kd.R Kd.string 9 w base (fun _ => True) u xs) : ∃ A c, u = .slice A xs.length c ∧ FSr A xs w := by
 obtain ⟨A, c, rfl⟩ := Kd.R_slice h
 refine ⟨A, c, rfl, fun i hi => ?_⟩
 obtain ⟨g, c', e, h1, h2, h3⟩ := vR_cells h (by omega)
 injection e with e
 exact ⟨g, e, h2, h3 i hi⟩
set_option maxHeartbeats 4000000 in
set_option maxRecDepth 100000 in
theorem rcmp_go (a b : ByteArray) (x0 x1 x2 : ByteArray) (xp : List ByteArray) (y0 y1 y2 : ByteArray) (yp : List ByteArray)
 (hx : graftwoodref03_Split.f a = some (x0, x1, x2, xp, true)) (hy : graftwoodref03_Split.f b = some (y0, y1, y2, yp, true))
 (K : Nat) (n0 n1 n2 : Int) (h0 : graftwoodref02_Cmp.f K x0 y0 = some n0) (h1 : graftwoodref02_Cmp.f K x1 y1 = some n1) (h2 : graftwoodref02_Cmp.f K x2 y2 = some n2)
 (hw : ∀ i (hi : i < xp.length) (hj : i < yp.length), graftwoodref03_words.f K xp[i] yp[i] = some (wordC (bs xp[i]) (bs yp[i])))
 (hlx : (xp.length : Int) ≤ 4398046511110) (hly : (yp.length : Int) ≤ 4398046511110)
 (r : Int) (hr : r = orI n0 (orI n1 (orI n2 (preC (xp.map bs) (yp.map bs)))))
 (w : World) : Calls Tryz.prog 34 #[.string a, .string b] w fun e w' => e = .returned (.int .i64 r) ∧ Below w.heap.size w w' := by
 have HW := Aside0.mk hw
 have HR := Aside0.mk hr
 have C0 := fun w => graftwoodref02_Cmp.calls K x0 y0 n0 w h0
 have C1 := fun w => graftwoodref02_Cmp.calls K x1 y1 n1 w h1
 have C2 := fun w => graftwoodref02_Cmp.calls K x2 y2 n2 w h2
 have hu49 := Tryz.underlying75
 clear hw hr h0 h1 h2
 go_enter Tryz.func34, Tryz.ntmps34
 go_wp2_with fail
 refine (graftwoodref03_Split.calls _ _ _ _ _ _ _ hx).mono ?_
 rintro e w1 ⟨u, rfl, hR, hb⟩
 obtain ⟨A, c, rfl, hF⟩ := FSr_of_R hR
 have HB := Aside0.mk hb
 have HF := Aside0.mk hF
 clear hb hF hR hx
 go_wp2_with fail
 refine (graftwoodref03_Split.calls _ _ _ _ _ _ _ hy).mono ?_
 rintro e w2 ⟨u, rfl, hR, hb⟩
 obtain ⟨A2, c2, rfl, hF⟩ := FSr_of_R hR
 have b12 : Below w1.heap.size w1 w2 := (by repeat (with_reducible first | exact Below.refl _ _ | refine below_set ?_ (by simp) | refine below_alloc ?_ _) : Below w1.heap.size w1 _).trans (hb.mono (by simp))
 have hz : w1.heap.size < w2.heap.size := by have := hb.size; simp at this; omega
 have q0 : w2.cell? ⟨w1.heap.size, 0, none⟩ = some (.string x0) := (hb.cell (p := ⟨w1.heap.size, 0, none⟩) (by simp)).trans (by simp [go_sem])
 have q1 : w2.cell? ⟨w1.heap.size, 1, none⟩ = some (.string x1) := (hb.cell (p := ⟨w1.heap.size, 1, none⟩) (by simp)).trans (by simp [go_sem])
 have q2 : w2.cell? ⟨w1.heap.size, 2, none⟩ = some (.string x2) := (hb.cell (p := ⟨w1.heap.size, 2, none⟩) (by simp)).trans (by simp [go_sem])
 have q3 : w2.cell? ⟨w1.heap.size, 3, none⟩ = some (.slice A xp.length c) := (hb.cell (p := ⟨w1.heap.size, 3, none⟩) (by simp)).trans (by simp [go_sem])
 clear hR hb
 have HF2 := Aside0.mk hF
 clear hF hy
 go_wp2_with fail
 generalize hW : w2.alloc (.cells #[.string y0, .string y1, .string y2, .slice A2 yp.length c2] 75 (0, 0)) = w3
 have g0 : w3.cell? ⟨w1.heap.size, 0, none⟩ = some (.string x0) := by rw [← hW]; exact Lib.cell?_alloc_some _ q0
 have g1 : w3.cell? ⟨w1.heap.size, 1, none⟩ = some (.string x1) := by rw [← hW]; exact Lib.cell?_alloc_some _ q1
 have g2 : w3.cell? ⟨w1.heap.size, 2, none⟩ = some (.string x2) := by rw [← hW]; exact Lib.cell?_alloc_some _ q2
 have g3 : w3.cell? ⟨w1.heap.size, 3, none⟩ = some (.slice A xp.length c) := by rw [← hW]; exact Lib.cell?_alloc_some _ q3
 have k0 : w3.cell? ⟨w2.heap.size, 0, none⟩ = some (.string y0) := by rw [← hW]; simp [go_sem]
 have k1 : w3.cell? ⟨w2.heap.size, 1, none⟩ = some (.string y1) := by rw [← hW]; simp [go_sem]
 have k2 : w3.cell? ⟨w2.heap.size, 2, none⟩ = some (.string y2) := by rw [← hW]; simp [go_sem]
 have k3 : w3.cell? ⟨w2.heap.size, 3, none⟩ = some (.slice A2 yp.length c2) := by rw [← hW]; simp [go_sem]
 have hz3 : w3.heap.size = w2.heap.size + 1 := by rw [← hW]; simp
 have hB3 : Below w1.heap.size w1 w3 := by rw [← hW]; exact b12.trans (((Below.refl _ _).alloc (Nat.le_refl _) _).mono (by omega))
 have HF3 : Aside0 (FSr A xp w3) := ⟨HF.out.below hB3 (Nat.le_refl _)⟩
 have HF4 : Aside0 (FSr A2 yp w3) := ⟨HF2.out.below (b := w2.heap.size) (by rw [← hW]; exact (Below.refl _ _).alloc (Nat.le_refl _) _) (Nat.le_refl _)⟩
 have HB3 : Aside0 (Below w.heap.size w w3) := ⟨HB.out.trans (hB3.mono HB.out.size)⟩
 clear HF HF2 HB hB3 b12 q0 q1 q2 q3 hW
 have h13 : w1.heap.size < w3.heap.size := by omega
 have h23 : w2.heap.size < w3.heap.size := by omega
 have mixed : Tryz.prog.follows Departure.mixedOrders = true := by kernel_rfl
 have KS : ∀ w', Below w3.heap.size w3 w' → (fun w' => Below w3.heap.size w3 w' ∧ w'.cell? ⟨w1.heap.size, 0, none⟩ = some (.string x0) ∧ w'.cell? ⟨w1.heap.size, 1, none⟩ = some (.string x1) ∧ w'.cell? ⟨w1.heap.size, 2, none⟩ = some (.string x2) ∧ w'.cell? ⟨w1.heap.size, 3, none⟩ = some (.slice A xp.length c) ∧ w'.cell? ⟨w2.heap.size, 0, none⟩ = some (.string y0) ∧ w'.cell? ⟨w2.heap.size, 1, none⟩ = some (.string y1) ∧ w'.cell? ⟨w2.heap.size, 2, none⟩ = some (.string y2) ∧ w'.cell? ⟨w2.heap.size, 3, none⟩ = some (.slice A2 yp.length c2)) w' := fun w' h =>
  ⟨h, (h.cell (p := ⟨w1.heap.size, 0, none⟩) h13).trans g0, (h.cell (p := ⟨w1.heap.size, 1, none⟩) h13).trans g1, (h.cell (p := ⟨w1.heap.size, 2, none⟩) h13).trans g2, (h.cell (p := ⟨w1.heap.size, 3, none⟩) h13).trans g3, (h.cell (p := ⟨w2.heap.size, 0, none⟩) h23).trans k0, (h.cell (p := ⟨w2.heap.size, 1, none⟩) h23).trans k1, (h.cell (p := ⟨w2.heap.size, 2, none⟩) h23).trans k2, (h.cell (p := ⟨w2.heap.size, 3, none⟩) h23).trans k3⟩
 have KE0 := KS w3 (Below.refl _ _)
 obtain ⟨_, e0_, e1_, e2_, e3_, f0_, f1_, f2_, f3_⟩ := KE0
 with_reducible refine (C0 _).mono ?_
 rintro e v0 ⟨rfl, hb9⟩
 have HB0 : Aside0 (Below w3.heap.size w3 v0) := ⟨hb9⟩
 clear hb9 e0_ e1_ e2_ e3_ f0_ f1_ f2_ f3_
 cases hc0 : (n0 != 0)
 case true =>
  have hz9 : n0 ≠ 0 := by simpa using hc0
  go_wp2
  go_ret
  exact ⟨by rw [HR.out, orI, if_neg hz9]; rfl, HB3.out.trans (HB0.out.mono HB3.out.size)⟩
 have HN0 : Aside0 (n0 = 0) := ⟨by simpa using hc0⟩
 have KE1 := KS v0 (HB0.out)
 obtain ⟨_, e0_, e1_, e2_, e3_, f0_, f1_, f2_, f3_⟩ := KE1
 go_wp2_with fail
 with_reducible refine (C1 _).mono ?_
 rintro e v1 ⟨rfl, hb9⟩
 have HB1 : Aside0 (Below w3.heap.size w3 v1) := ⟨HB0.out.trans (hb9.mono HB0.out.size)⟩
 clear hb9 e0_ e1_ e2_ e3_ f0_ f1_ f2_ f3_
 cases hc1 : (n1 != 0)
 case true =>
  have hz9 : n1 ≠ 0 := by simpa using hc1
  go_wp2
  go_ret
  exact ⟨by rw [HR.out, orI, if_pos HN0.out, orI, if_neg hz9]; rfl, HB3.out.trans (HB1.out.mono HB3.out.size)⟩
 have HN1 : Aside0 (n1 = 0) := ⟨by simpa using hc1⟩
 have KE2 := KS v1 (HB1.out)
 obtain ⟨_, e0_, e1_, e2_, e3_, f0_, f1_, f2_, f3_⟩ := KE2
 go_wp2_with fail
 with_reducible refine (C2 _).mono ?_
 rintro e v2 ⟨rfl, hb9⟩
 have HB2 : Aside0 (Below w3.heap.size w3 v2) := ⟨HB1.out.trans (hb9.mono HB1.out.size)⟩
 clear hb9 e0_ e1_ e2_ e3_ f0_ f1_ f2_ f3_
 cases hc2 : (n2 != 0)
 case true =>
  have hz9 : n2 ≠ 0 := by simpa using hc2
  go_wp2
  go_ret
  exact ⟨by rw [HR.out, orI, if_pos HN0.out, orI, if_pos HN1.out, orI, if_neg hz9]; rfl, HB3.out.trans (HB2.out.mono HB3.out.size)⟩
 have HN2 : Aside0 (n2 = 0) := ⟨by simpa using hc2⟩
 have HR2 : Aside0 (r = preC (xp.map bs) (yp.map bs)) := ⟨by rw [HR.out, orI, if_pos HN0.out, orI, if_pos HN1.out, orI, if_pos HN2.out]⟩
 have FX := Aside0.mk (HF3.out.below HB2.out (Nat.le_refl _))
 have FY := Aside0.mk (HF4.out.below HB2.out (Nat.le_refl _))
 obtain ⟨_, _, _, _, m3, _, _, _, m4⟩ := KS v2 HB2.out
 have HB4 : Aside0 (Below w.heap.size w v2) := ⟨HB3.out.trans (HB2.out.mono HB3.out.size)⟩
 have hz14 : w1.heap.size < v2.heap.size := Nat.lt_of_lt_of_le h13 HB2.out.size
 have hz24 : w2.heap.size < v2.heap.size := Nat.lt_of_lt_of_le h23 HB2.out.size
 clear HR HB0 HB1 HB2 HB3 HF3 HF4 g0 g1 g2 g3 k0 k1 k2 k3 hz3 hz KS C0 C1 C2 HN0 HN1 HN2 h13 h23
 cases lx : ((xp.length : Int) == 0)
 ·have nx : xp.length ≠ 0 := fun h => by rw [h] at lx; exact absurd lx (by decide)
  cases ly : ((yp.length : Int) == 0)
  ·have ny : yp.length ≠ 0 := fun h => by rw [h] at ly; exact absurd ly (by decide)
   have hpc : preC (xp.map bs) (yp.map bs) = wordsC (xp.map bs) (yp.map bs) := by
    unfold preC
    rw [if_neg]
    rintro (h | h)
    ·rw [List.map_eq_nil_iff] at h
     subst h
     exact nx rfl
    ·rw [List.map_eq_nil_iff] at h
     subst h
     exact ny rfl
   have HPC := Aside0.mk (HR2.out.trans hpc)
   clear hpc
   go_wp2_with fail
   go_quiet (fail)
   go_wp2_with fail
   go_loopw [14] (fun v14 wr => ∃ i : Nat, i ≤ xp.length ∧ i ≤ yp.length ∧ v14 = .int .i64 (i : Int) ∧ Aside0 (Below v2.heap.size v2 wr) ∧ Aside0 (wordsC (xp.map bs) (yp.map bs) = wordsC ((xp.drop i).map bs) ((yp.drop i).map bs))) (fun v14 _ => xp.length - (RowKit.intOf v14).toNat)
   case atStart => exact ⟨0, Nat.zero_le _, Nat.zero_le _, rfl, ⟨by repeat (with_reducible first | exact Below.refl _ _ | refine pw_below_drewN ?_ _ | refine below_drew ?_)⟩, ⟨rfl⟩⟩
   case round =>
    obtain ⟨i, hi, hi2, rfl, HWr, HA⟩ := hrel
    have r3 : wr.cell? ⟨w1.heap.size, 3, none⟩ = some (.slice A xp.length c) := (HWr.out.cell (p := ⟨w1.heap.size, 3, none⟩) hz14).trans m3
    have r4 : wr.cell? ⟨w2.heap.size, 3, none⟩ = some (.slice A2 yp.length c2) := (HWr.out.cell (p := ⟨w2.heap.size, 3, none⟩) hz24).trans m4
    by_cases hl : i < xp.length ∧ i < yp.length
    ·obtain ⟨hl1, hl2⟩ := hl
     have FXr := FX.out.below HWr.out (Nat.le_refl _)
     have FYr := FY.out.below HWr.out (Nat.le_refl _)
     obtain ⟨g, rfl, hg1, hg2⟩ := FXr i hl1
     obtain ⟨g', rfl, hg3, hg4⟩ := FYr i hl2
     have hd1 : xp.drop i = xp[i] :: xp.drop (i + 1) := List.drop_eq_getElem_cons hl1
     have hd2 : yp.drop i = yp[i] :: yp.drop (i + 1) := List.drop_eq_getElem_cons hl2
     have hA2 := HA.out
     rw [hd1, hd2, List.map_cons, List.map_cons] at hA2
     have CW := fun w => graftwoodref03_words.calls K xp[i] yp[i] _ w (HW.out i hl1 hl2)
     obtain ⟨cv, hcv⟩ : ∃ cv, cv = wordC (bs xp[i]) (bs yp[i]) := ⟨_, rfl⟩
     have hA3 : wordsC (xp.map bs) (yp.map bs) = orI cv (wordsC ((xp.drop (i + 1)).map bs) ((yp.drop (i + 1)).map bs)) := by rw [hA2, hcv]; rfl
     have HA3 := Aside0.mk hA3
     rw [← hcv] at CW
     generalize xp[i] = px at CW hg2
     generalize yp[i] = py at CW hg4
     have j1 : (i : Int) < (xp.length : Int) := by omega
     have j2 : (i : Int) < (yp.length : Int) := by omega
     have jd1 : decide ((i : Int) < (xp.length : Int)) = true := decide_eq_true j1
     have jd2 : decide ((i : Int) < (yp.length : Int)) = true := decide_eq_true j2
     clear hA2 hA3 hcv hd1 hd2 FXr FYr
     have KS : ∀ w', Below wr.heap.size wr w' → Below wr.heap.size wr w' ∧ w'.cell? ⟨w1.heap.size, 3, none⟩ = some (.slice (some ⟨g, 0, none⟩) xp.length c) ∧ w'.cell? ⟨w2.heap.size, 3, none⟩ = some (.slice (some ⟨g', 0, none⟩) yp.length c2) ∧ w'.cell? ⟨g, i, none⟩ = some (.string px) ∧ w'.cell? ⟨g', i, none⟩ = some (.string py) := fun w' h =>
      ⟨h, (h.cell (p := ⟨w1.heap.size, 3, none⟩) (Nat.lt_of_lt_of_le hz14 HWr.out.size)).trans r3, (h.cell (p := ⟨w2.heap.size, 3, none⟩) (Nat.lt_of_lt_of_le hz24 HWr.out.size)).trans r4, (h.cell (p := ⟨g, i, none⟩) hg1).trans hg2, (h.cell (p := ⟨g', i, none⟩) hg3).trans hg4⟩
     go_wp2_with fail
     go_region_held3 (fun w' => Below wr.heap.size wr w' ∧ w'.cell? ⟨w1.heap.size, 3, none⟩ = some (.slice (some ⟨g, 0, none⟩) xp.length c) ∧ w'.cell? ⟨w2.heap.size, 3, none⟩ = some (.slice (some ⟨g', 0, none⟩) yp.length c2) ∧ w'.cell? ⟨g, i, none⟩ = some (.string px) ∧ w'.cell? ⟨g', i, none⟩ = some (.string py))
      (first
       | exact KS _ (below_drew (Below.refl _ _))
       | exact KS _ ((And.left ‹Below wr.heap.size wr _ ∧ _›).trans (hb9.mono (And.left ‹Below wr.heap.size wr _ ∧ _›).size))
       | exact KS _ (And.left ‹Below wr.heap.size wr _ ∧ _›))
      (first
       | (go_at_call 47; with_reducible refine (CW _).mono ?_; rintro e w'' ⟨rfl, hb9⟩))
     have hB9 := And.left ‹Below wr.heap.size wr _ ∧ _›
     have HB9 : Aside0 (Below v2.heap.size v2 w'') := ⟨HWr.out.trans (hB9.mono HWr.out.size)⟩
     have HB8 : Aside0 (Below w.heap.size w w'') := ⟨HB4.out.trans (HB9.out.mono HB4.out.size)⟩
     clear hB9 hb9 KS r3 r4 hg2 hg4
     rename_i hHeldZ
     clear hHeldZ
     cases hc0 : (cv != 0)
     ·have hz : cv = 0 := by simpa using hc0
      go_wp2
      go_roundw
      case rel => exact ⟨i + 1, by omega, by omega, by go_num, HB9, ⟨by rw [HA3.out, hz]; rfl⟩⟩
      case measure => simp [RowKit.intOf]; omega
     ·have hz : cv ≠ 0 := by simpa using hc0
      go_wp2
      go_ret
      exact ⟨by rw [HPC.out, HA3.out, orI, if_neg hz]; rfl, HB8.out⟩
    ·have hval : wordsC (xp.map bs) (yp.map bs) = cmpN xp.length yp.length := by
      rw [HA.out]
      by_cases e1 : i = xp.length
      ·rw [List.drop_of_length_le (by omega)]
       by_cases e2 : i = yp.length
       ·rw [List.drop_of_length_le (by omega), ← e1, ← e2]; simp [wordsC, cmpN]
       ·rw [List.drop_eq_getElem_cons (show i < yp.length by omega)]
        simp only [List.map_nil, List.map_cons, wordsC, cmpN]
        rw [if_pos (by omega)]
      ·have e2 : i = yp.length := by omega
       rw [List.drop_eq_getElem_cons (show i < xp.length by omega), List.drop_of_length_le (show yp.length ≤ i by omega)]
       simp only [List.map_nil, List.map_cons, wordsC, cmpN]
       rw [if_neg (by omega), if_pos (by omega)]
     have HV := Aside0.mk hval
     have HB8 : Aside0 (Below w.heap.size w wr) := ⟨HB4.out.trans (HWr.out.mono HB4.out.size)⟩
     clear hval
     by_cases a1 : i < xp.length
     ·have jd1 : decide ((i : Int) < (xp.length : Int)) = true := decide_eq_true (by omega)
      have jd2 : decide ((i : Int) < (yp.length : Int)) = false := decide_eq_false (by omega)
      have kd1 : decide ((xp.length : Int) < (yp.length : Int)) = false := decide_eq_false (by omega)
      have kd2 : decide ((yp.length : Int) < (xp.length : Int)) = true := decide_eq_true (by omega)
      have hv2 : cmpN xp.length yp.length = 1 := by unfold cmpN; rw [if_neg (by omega), if_pos (by omega)]
      go_wp2
      go_ret
      exact ⟨by rw [HPC.out, HV.out, hv2]; rfl, HB8.out⟩
     ·have jd1 : decide ((i : Int) < (xp.length : Int)) = false := decide_eq_false (by omega)
      by_cases a2 : xp.length < yp.length
      ·have kd1 : decide ((xp.length : Int) < (yp.length : Int)) = true := decide_eq_true (by omega)
       have hv2 : cmpN xp.length yp.length = -1 := by unfold cmpN; rw [if_pos (by omega)]
       go_wp2
       go_ret
       exact ⟨by rw [HPC.out, HV.out, hv2]; rfl, HB8.out⟩
      ·have kd1 : decide ((xp.length : Int) < (yp.length : Int)) = false := decide_eq_false (by omega)
       have kd2 : decide ((yp.length : Int) < (xp.length : Int)) = false := decide_eq_false (by omega)
       have hv2 : cmpN xp.length yp.length = 0 := by unfold cmpN; rw [if_neg (by omega), if_neg (by omega)]
       go_wp2
       go_ret
       exact ⟨by rw [HPC.out, HV.out, hv2]; rfl, HB8.out⟩
  ·have ny : yp = [] := List.length_eq_zero_iff.1 (by simpa using ly)
   have HPC : Aside0 (r = -1) := ⟨by rw [HR2.out]; unfold preC; rw [if_pos (Or.inr (by rw [ny]; rfl)), List.length_map, List.length_map, ny]; unfold cmpN; rw [if_pos (by simp; omega)]⟩
   clear ny HR2
   go_wp2_with fail
   go_quiet (fail)
   go_wp2
   go_ret
   exact ⟨by rw [HPC.out]; rfl, by repeat (with_reducible first | exact HB4.out | refine pw_below_drewN ?_ _ | refine below_drew ?_)⟩
 ·have nx : xp = [] := List.length_eq_zero_iff.1 (by simpa using lx)
  cases ly : ((yp.length : Int) == 0)
  ·have ny : yp.length ≠ 0 := fun h => by rw [h] at ly; exact absurd ly (by decide)
   have HPC : Aside0 (r = 1) := ⟨by rw [HR2.out]; unfold preC; rw [if_pos (Or.inl (by rw [nx]; rfl)), List.length_map, List.length_map, nx]; unfold cmpN; rw [if_neg (by simp), if_pos (by simp; omega)]⟩
   clear nx HR2
   go_wp2_with fail
   go_quiet (fail)
   go_wp2
   go_ret
   exact ⟨by rw [HPC.out]; rfl, by repeat (with_reducible first | exact HB4.out | refine pw_below_drewN ?_ _ | refine below_drew ?_)⟩
  ·have ny : yp = [] := List.length_eq_zero_iff.1 (by simpa using ly)
   have HPC : Aside0 (r = 0) := ⟨by rw [HR2.out]; unfold preC; rw [if_pos (Or.inl (by rw [nx]; rfl)), List.length_map, List.length_map, nx, ny]; rfl⟩
   clear nx ny HR2
   go_wp2_with fail
   go_quiet (fail)
   go_wp2
   go_ret
   exact ⟨by rw [HPC.out]; rfl, by repeat (with_reducible first | exact HB4.out | refine pw_below_drewN ?_ _ | refine below_drew ?_)⟩
def graftwoodref03_Cmp.f (a0 a1 : ByteArray) : Option Int := if (Tiny a0 ∧ Tiny a1) ∧ isVersion (bs a0) = true ∧ isVersion (bs a1) = true then some (verC (vOf (bs a0)) (vOf (bs a1))) else none
theorem graftwoodref03_Cmp.calls (a0 a1 : ByteArray) (r : Int) (w : World) (h : graftwoodref03_Cmp.f a0 a1 = some r) :
 Calls Tryz.prog 34 #[.string a0, .string a1] w fun e w' => e = .returned (.int .i64 r) ∧ Below w.heap.size w w' := by
 unfold graftwoodref03_Cmp.f at h
 split at h
 case isFalse => cases h
 case isTrue hc =>
  obtain ⟨⟨ht0, ht1⟩, hv0, hv1⟩ := hc
  unfold Tiny at ht0 ht1
  rw [← vparts_some] at hv0 hv1
  obtain ⟨⟨p, q, s, l⟩, h0⟩ := Option.isSome_iff_exists.1 hv0
  obtain ⟨⟨p', q', s', l'⟩, h1⟩ := Option.isSome_iff_exists.1 hv1
  have f0 : graftwoodref03_Split.f a0 = some (ofB p, ofB q, ofB s, l.map ofB, true) := by unfold graftwoodref03_Split.f; rw [if_pos (by unfold Small; omega), split_some _ _ _ _ _ h0]
  have f1 : graftwoodref03_Split.f a1 = some (ofB p', ofB q', ofB s', l'.map ofB, true) := by unfold graftwoodref03_Split.f; rw [if_pos (by unfold Small; omega), split_some _ _ _ _ _ h1]
  obtain ⟨⟨n0, n1, n2⟩, o0, l0, _⟩ := vparts_facts (bs_oct a0) h0
  obtain ⟨⟨m0, m1, m2⟩, o1, l1, _⟩ := vparts_facts (bs_oct a1) h1
  rw [bs_length] at l0 l1 o0 o1
  have e0 : ∀ t ∈ p :: q :: s :: l, bs (ofB t) = t ∧ Small (ofB t) ∧ (ofB t).size ≤ 4294967281 := fun t ht => by
   have hz : (ofB t).size = t.length := by rw [← bs_length, bs_ofB (o0 t ht).1]
   have := (o0 t ht).2
   exact ⟨bs_ofB (o0 t ht).1, by unfold Small; omega, by omega⟩
  have e1 : ∀ t ∈ p' :: q' :: s' :: l', bs (ofB t) = t ∧ Small (ofB t) ∧ (ofB t).size ≤ 4294967281 := fun t ht => by
   have hz : (ofB t).size = t.length := by rw [← bs_length, bs_ofB (o1 t ht).1]
   have := (o1 t ht).2
   exact ⟨bs_ofB (o1 t ht).1, by unfold Small; omega, by omega⟩
  have b0 := e0 p (by simp)
  have b1 := e0 q (by simp)
  have b2 := e0 s (by simp)
  have c0 := e1 p' (by simp)
  have c1 := e1 q' (by simp)
  have c2 := e1 s' (by simp)
  have hl0 : (l.map ofB).map bs = l := by
   rw [List.map_map]
   exact (List.map_congr_left fun t ht => (e0 t (by simp [ht])).1).trans (List.map_id _)
  have hl1 : (l'.map ofB).map bs = l' := by
   rw [List.map_map]
   exact (List.map_congr_left fun t ht => (e1 t (by simp [ht])).1).trans (List.map_id _)
  have hv : ∀ {x : List Nat} {v : VP}, vparts x = some v → vOf x = v := fun {x v} h => by unfold vOf; rw [h]; rfl
  rw [hv h0, hv h1] at h
  refine rcmp_go a0 a1 (ofB p) (ofB q) (ofB s) (l.map ofB) (ofB p') (ofB q') (ofB s') (l'.map ofB) f0 f1 17179869184 (numC p p') (numC q q') (numC s s')
   (by have := rnum_val (ofB p) (ofB p') b0.2.1 c0.2.1 (by rw [b0.1]; exact n0) (by rw [c0.1]; exact m0) 17179869184 (by omega); rwa [b0.1, c0.1] at this)
   (by have := rnum_val (ofB q) (ofB q') b1.2.1 c1.2.1 (by rw [b1.1]; exact n1) (by rw [c1.1]; exact m1) 17179869184 (by omega); rwa [b1.1, c1.1] at this)
   (by have := rnum_val (ofB s) (ofB s') b2.2.1 c2.2.1 (by rw [b2.1]; exact n2) (by rw [c2.1]; exact m2) 17179869184 (by omega); rwa [b2.1, c2.1] at this)
   (fun i hi hj => by
    have g0 : (l.map ofB)[i] ∈ l.map ofB := List.getElem_mem _
    have g1 : (l'.map ofB)[i] ∈ l'.map ofB := List.getElem_mem _
    obtain ⟨t0, ht0, hh0⟩ := List.mem_map.1 g0
    obtain ⟨t1, ht1, hh1⟩ := List.mem_map.1 g1
    have k0 := (e0 t0 (by simp [ht0])).2
    have k1 := (e1 t1 (by simp [ht1])).2
    rw [hh0] at k0
    rw [hh1] at k1
    exact rwords_val _ _ k0.1 k1.1 _ (by omega))
   (by rw [List.length_map]; omega) (by rw [List.length_map]; omega) r ?_ w
  rw [← Option.some.inj h, hl0, hl1, preC_eq]
  rfl
end Go.Proofs.YtodkjmbmlobihaaGreatDoor.Q
end
section
namespace Go.Proofs.YtodkjmbmlobihaaGreatDoor.Q
open Go.Proofs.YtodkjmbmlobihaaGreatDoor.QB.D
open Go Go.RowKit Go.Lib Go.Proofs.YtodkjmbmlobihaaGreatDoorW.PrintWords Go.Ev
set_option linter.unusedVariables false
section
variable {F : Nat → Nat → Prop} {w : World} {f : FuncId} {fn : Func}
theorem pc_row {α : Type} {d : Kd α} {raw : α → List Value} {enc : α → PV} (hfl : Flat d raw enc) (hf : Tryz.prog.funcs[f]? = some fn) (hn : (fn.name == "runtime.NumGoroutine") = false) (hb : fn.body.isSome = true) {z : Nat} (hz : z = d.sz) (l : List α) (hl : l.length ≤ 9223372036854775807) (r : PV)
 (h : ∀ w A c, d.C w A l.length l → l.length ≤ c → Calls Tryz.prog f #[.slice A l.length c] w fun e w' => ∃ v, e = .returned v ∧ Below w.heap.size w w' ∧ ∀ F, Res F w.heap.size no0 w' r v) : PC f [.sl 0 z (l.map enc)] r :=
 pc_mk ⟨fn, hf, hn, hb⟩ (noXo_of rfl) fun w F vs hv => by
  match vs, hv with
  | [u], hv =>
   obtain ⟨A, c, rfl, hc, hC⟩ := hfl.toC hv.1 hz hl
   exact (h w A c hC hc).mono fun e w' ⟨v, he, hb, hr⟩ => ⟨v, he, hb, hr F⟩
  | [], hv => exact hv.elim
  | _ :: _ :: _, hv => exact hv.2.elim
end
section
variable {F : Nat → Nat → Prop} {w : World} {f : FuncId} {fn : Func}
theorem pc_str2 (hf : Tryz.prog.funcs[f]? = some fn) (hn : (fn.name == "runtime.NumGoroutine") = false) (hb : fn.body.isSome = true) (x y : ByteArray) (r : PV) (h : ∀ w, Calls Tryz.prog f #[.string x, .string y] w fun e w' => ∃ v, e = .returned v ∧ Below w.heap.size w w' ∧ ∀ F, Res F w.heap.size no0 w' r v) : PC f [.s (.string x), .s (.string y)] r :=
 pc_mk ⟨fn, hf, hn, hb⟩ (noXo_of rfl) fun w F vs hv => by
  match vs, hv with
  | [u, u'], hv =>
   rw [hv.1.s_eq, hv.2.1.s_eq]
   exact (h w).mono fun e w' ⟨v, he, hb, hr⟩ => ⟨v, he, hb, hr F⟩
  | [], hv => exact hv.elim
  | [_], hv => exact hv.2.elim
  | _ :: _ :: _ :: _, hv => exact hv.2.2.elim
end
theorem ref1Cmp_pc (a b : ByteArray) (ha : a.size ≤ 400) (hb : b.size ≤ 400) : PC 33 [.s (.string a), .s (.string b)] (.s (.int .i64 (Gw.lexC (bs a) (bs b)))) :=
 pc_str2 Tryz.func33 (by kernel_rfl) rfl a b _ fun w => (graftwoodref01_Cmp.calls 900 a b _ w (rcmp1_val a b (by unfold Small; omega) (by unfold Small; omega) 900 (by omega))).mono fun e w' h => ⟨_, h.1, (Go.Proofs.YtodkjmbmlobihaaGreatDoor.QB.drawn_below h.2).toBelow, fun F => res_s _⟩
theorem ref3Cmp_pc' (a b : ByteArray) (ha : Tiny a) (hb : Tiny b) (va : Gw.isVersion (bs a) = true) (vb : Gw.isVersion (bs b) = true) : PC 34 [.s (.string a), .s (.string b)] (.s (.int .i64 (Gw.verC (Gw.vOf (bs a)) (Gw.vOf (bs b))))) :=
 pc_str2 Tryz.func34 (by kernel_rfl) rfl a b _ fun w => (graftwoodref03_Cmp.calls a b _ w (by unfold graftwoodref03_Cmp.f; rw [if_pos ⟨⟨ha, hb⟩, va, vb⟩])).mono fun e w' h => ⟨_, h.1, h.2, fun F => res_s _⟩
theorem less5_pc (x y : S24) (hx : Brief x) (hy : Brief y) (mx : mayN x = true) (my : mayN y = true) : PC 18 [evN x, evN y] (.s (.bool (decide (ordN x y < 0)))) := by
 have gx := mayN_good hx.tiny mx
 have gy := mayN_good hy.tiny my
 have h1 := ref1Cmp_pc x.f0 y.f0 hx.1 hy.1
 have h3 := ref3Cmp_pc' x.f1 y.f1 gx.2.1 gy.2.1 gx.2.2 gy.2.2
 have e : ordN x y = Gw.orI (Gw.lexC (bs x.f0) (bs y.f0)) (Gw.verC (Gw.vOf (bs x.f1)) (Gw.vOf (bs y.f1))) := rfl
 rw [e]
 generalize Gw.lexC (bs x.f0) (bs y.f0) = c at *
 generalize Gw.verC (Gw.vOf (bs x.f1)) (Gw.vOf (bs y.f1)) = d at *
 unfold Gw.orI
 refine pc_of tt_ok tt_follows Tryz.func18 rfl (by kernel_rfl) (by kernel_rfl) (Nat.le_of_ble_eq_true rfl) rfl ?_
 conv => whnf
 refine ⟨_, h1, ?_⟩
 conv => whnf
 constructor
 ·intro h
  have hc : c < 0 := of_decide_eq_true h
  conv => whnf
  rw [if_neg (by omega), decide_eq_true hc]
  rfl
 ·intro h
  have hc : ¬ c < 0 := of_decide_eq_false h
  conv => whnf
  constructor
  ·intro h
   have h0 : c = 0 := eq_of_beq h
   conv => whnf
   refine ⟨_, h3, ?_⟩
   conv => whnf
   rw [if_pos h0]
  ·intro h
   have h0 : c ≠ 0 := fun e => by rw [e] at h; cases h
   conv => whnf
   rw [if_neg h0, decide_eq_false hc]
   rfl
end Go.Proofs.YtodkjmbmlobihaaGreatDoor.Q
end
section
namespace Go.Proofs.YtodkjmbmlobihaaGreatDoor.Q
open Go.Proofs.YtodkjmbmlobihaaGreatDoor.QB.D
open Go Go.RowKit Go.Lib Go.Proofs.YtodkjmbmlobihaaGreatDoorW.PrintWords Go.Ev
set_option linter.unusedVariables false
set_option maxRecDepth 100000
theorem few1_pc (s : ByteArray) : PC 19 [.s (.string s)] (.s (.string (few s))) := by
 refine pc_of tt_ok tt_follows Tryz.func19 rfl (by kernel_rfl) (by kernel_rfl) (Nat.le_of_ble_eq_true rfl) rfl ?_
 conv => whnf
 constructor
 ·intro h
  have h' : (s.size : Int) > 400 := by simpa using h
  conv => whnf
  refine ⟨⟨by decide, by decide, by show (400 : Int) ≤ s.size; omega⟩, ?_⟩
  conv => whnf
  unfold few
  rw [if_pos h'] <;> rfl
 ·intro h
  have h' : ¬ (s.size : Int) > 400 := by simpa using h
  conv => whnf
  unfold few
  rw [if_neg h']
theorem one5_pc (x : S24) : PC 6 [evN x] (evN (oneN x)) := by
 refine pc_of tt_ok tt_follows Tryz.func6 rfl (by kernel_rfl) (by kernel_rfl) (Nat.le_of_ble_eq_true rfl) rfl ?_
 conv => whnf
 refine ⟨_, few1_pc x.f0, ?_⟩
 conv => whnf
 refine ⟨_, few1_pc x.f1, ?_⟩
 conv => whnf
 refine ⟨by kernel_rfl, ?_⟩
 conv => whnf
 rfl
end Go.Proofs.YtodkjmbmlobihaaGreatDoor.Q
end
section
namespace Go.Proofs.YtodkjmbmlobihaaGreatDoor.Q
open Go.RowKit Go.Proofs.YtodkjmbmlobihaaGreatDoorW.PrintWords Go.Proofs.YtodkjmbmlobihaaGreatDoorW.PrintLast Go.Proofs.YtodkjmbmlobihaaGreatDoorW.PrintMore
attribute [local go_sem] max2_int min2_int max_two min_two max_three min_three max_four min_four   -- for this text's walks alone
set_option linter.unusedVariables false
set_option linter.unusedSimpArgs false
def graftwoodref05_Less.f (k : Nat) (a0_0 : ByteArray) (a0_1 : ByteArray) (a1_0 : ByteArray) (a1_1 : ByteArray) : Option (Bool) := (graftwoodref01_Cmp.f k a0_0 a1_0).bind fun t224 => (if t224 < 0 then (some true) else (if t224 = 0 then ((graftwoodref03_Cmp.f a0_1 a1_1).bind fun t225 => (some (decide (t225 < 0)))) else (some false)))
end Go.Proofs.YtodkjmbmlobihaaGreatDoor.Q
end
