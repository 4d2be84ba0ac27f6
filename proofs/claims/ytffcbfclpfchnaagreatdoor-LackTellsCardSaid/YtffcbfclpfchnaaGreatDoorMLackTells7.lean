/- Part 7 of this claim: several texts one behind the other: FlackMissing, KBy, KOf, PLack, Fgraftwoodlaw18awake, Aw18, RSame18. What each shows stands in its theorems; conditions: sizes of texts and lists, as the functions' definitions say. -/
import Derived.Test.YtffcbfclpfchnaaGreatDoorMLackTells0
import Derived.Test.YtffcbfclpfchnaaGreatDoorMLackTells6
import Derived.Test.YtffcbfclpfchnaaGreatDoorMLackTells5
import Derived.Test.YtffcbfclpfchnaaGreatDoorMLackTells3
import Derived.Test.YtffcbfclpfchnaaGreatDoorMLackTells1
import Derived.Test.YtffcbfclpfchnaaGreatDoorMLackTells2
import Derived.RegionTactic
import Derived.BigRegion
import Derived.Deep.QuietTactic
import Derived.BigQuiet
section
namespace Go.Proofs.YtffcbfclpfchnaaGreatDoor.Q
open Go.RowKit Go.Proofs.YtffcbfclpfchnaaGreatDoorW.PrintWords Go.Proofs.YtffcbfclpfchnaaGreatDoorW.PrintLast Go.Proofs.YtffcbfclpfchnaaGreatDoorW.PrintMore
attribute [local go_sem] max2_int min2_int max_two min_two max_three min_three max_four min_four   -- for this text's walks alone
set_option linter.unusedVariables false
set_option linter.unusedSimpArgs false
/-! ### lack_Missing: function 7 -/
def lack_Missing.f (l0 : List (S42)) (l1 : List (S42)) : Option ((List (S42)) × Int) := (node_Minus.f l0 l1).bind fun bt178 => (some (bt178.1, bt178.2))
set_option maxHeartbeats 8000000 in
set_option maxRecDepth 100000 in
theorem lack_Missing.calls (A0 : Option Addr) (c0 : Nat) (l0 : List (S42)) (A1 : Option Addr) (c1 : Nat) (l1 : List (S42)) (r1 : List (S42)) (r2 : Int) (w : World) (hr0 : Kd.C k42 w A0 l0.length l0) (hc0 : l0.length ≤ c0) (hr1 : Kd.C k42 w A1 l1.length l1) (hc1 : l1.length ≤ c1) (h : lack_Missing.f l0 l1 = some (r1, r2)) :
  Calls Tryz.prog 7 #[.slice A0 l0.length c0, .slice A1 l1.length c1] w fun e w' => ∃ v0_ : Value, e = .returned (.tuple #[v0_, .int .i64 r2]) ∧ Kd.R k42 42 w' w.heap.size (fun _ => True) v0_ r1 ∧ Below w.heap.size w w' := by
 have HR0 := Aside0.mk hr0
 have HC0 := Aside0.mk hc0
 clear hr0 hc0
 have HR1 := Aside0.mk hr1
 have HC1 := Aside0.mk hc1
 clear hr1 hc1
 have HB := Aside0.mk (Below.refl w.heap.size w)
 have H : ((node_Minus.f l0 l1).bind fun bt178 => (some (bt178.1, bt178.2))) = some (r1, r2) := h
 clear h
 replace H := Option.bind_eq_some_iff.mp H
 obtain ⟨⟨t178, t179⟩, A30, H⟩ := H
 replace H : (some (t178, t179)) = some (r1, r2) := H
 have A3 := Aside0.mk A30
 clear A30
 simp only [Option.some.injEq, Prod.mk.injEq] at H
 obtain ⟨rfl, rfl⟩ := H
 go_enter Tryz.func7, Tryz.ntmps7
 go_wp2_with (first | ((with_reducible refine gate_callee (f := 21) rfl ?_); refine goesL_ (some 8) rfl rfl Tryz.func21 (by kernel_rfl) rfl #[.slice A0 l0.length c0, .slice A1 l1.length c1] rfl (by (try simp only [List.map_toArray, List.map_cons, List.map_nil]); first | done | rfl | (simp only [List.length_drop, List.length_take]; rfl)) ?_; (with_reducible refine (node_Minus.calls _ _ l0 _ _ l1 t178 t179 _ ?side1 ?side2 ?side3 ?side4 A3.out).mono ?_); (case side1 => repeat (first | exact HR0.out | (with_reducible refine Kd.C_alloc ?_ _) | (with_reducible refine Kd.C_drewN ?_ _) | (with_reducible refine Kd.C_drew ?_))); (case side2 => exact HC0.out); (case side3 => repeat (first | exact HR1.out | (with_reducible refine Kd.C_alloc ?_ _) | (with_reducible refine Kd.C_drewN ?_ _) | (with_reducible refine Kd.C_drew ?_))); (case side4 => exact HC1.out); rintro e w4 ⟨v180, rfl, ho0, hb⟩; refine ⟨_, rfl, ?_⟩; have n0_ := Aside0.mk (Kd.R_lower ho0 (below_size (by repeat (first | (with_reducible first | exact HB.out | apply below_alloc | apply pw_below_drewN | apply below_drew1) | exact HB.out)))); have n1_ := Aside0.mk (below_step (by repeat (first | (with_reducible first | exact HB.out | apply below_alloc | apply pw_below_drewN | apply below_drew1) | exact HB.out)) hb); clear HB; have HO181 := n0_; have HB := n1_; clear n0_ n1_; (try clear hb); (try clear hb2); (try clear hk); (try clear hi); (try clear ho0)))
 go_ret2
 exact ⟨_, by first | rfl | (simp [errW_none, errW_some] <;> rfl) | (simp [*, errW_none, errW_some] <;> rfl), by (with_reducible repeat (first | apply Kd.R_alloc | apply Kd.R_drewN | apply Kd.R_drew)); exact HO181.out, by repeat (first | (with_reducible first | exact HB.out | apply below_alloc | apply pw_below_drewN | apply below_drew1) | exact HB.out)⟩
end Go.Proofs.YtffcbfclpfchnaaGreatDoor.Q
end

section
namespace Go.Proofs.YtffcbfclpfchnaaGreatDoor.Q
open Go.Proofs.YtffcbfclpfchnaaGreatDoor.QB.D
open Go Go.RowKit Go.Lib Go.Proofs.YtffcbfclpfchnaaGreatDoorW.PrintWords Go.Proofs.YtffcbfclpfchnaaGreatDoorW.PrintLast Go.Proofs.YtffcbfclpfchnaaGreatDoorW.PrintMore Gw
set_option linter.unusedVariables false
set_option linter.unusedSimpArgs false
theorem node_eqr (x : S42) : (x.f0.toList == ([] : List UInt8) && x.f1.toList == ([] : List UInt8)) = decide (x = z42) := by
  rw [← node_eqz]
  have e : (⟨#[]⟩ : ByteArray).toList = [] := by rw [ByteArray.toList_eq]
  rw [e]
/-- The nodes that need n, one by one. -/
def needF (l : List S51) (n : S42) : List S42 := (l.filter (fun e => decide (e.f1 = n) && !decide (e.f0 = z42))).map (·.f0)
def rootF (l : List S51) (n : S42) : Bool := l.any (fun e => decide (e.f1 = n) && decide (e.f0 = z42))
def byF (l : List S51) (n : S42) : List S42 := setN (needF l n)
theorem need_len (l : List S51) (n : S42) : (needF l n).length ≤ l.length := by
  unfold needF; rw [List.length_map]; exact List.length_filter_le _ _
theorem mem_need {l : List S51} {n x : S42} : x ∈ needF l n ↔ x ≠ z42 ∧ ⟨x, n⟩ ∈ l := by
  unfold needF
  rw [List.mem_map]
  constructor
  · rintro ⟨e, he, rfl⟩
    obtain ⟨h1, h2⟩ := List.mem_filter.1 he
    simp only [Bool.and_eq_true, decide_eq_true_eq, Bool.not_eq_true', decide_eq_false_iff_not] at h2
    refine ⟨h2.2, ?_⟩
    have : (⟨e.f0, n⟩ : S51) = e := by cases e; simp only at h2; rw [h2.1]
    rw [this]; exact h1
  · rintro ⟨h1, h2⟩
    exact ⟨_, List.mem_filter.2 ⟨h2, by simp [h1]⟩, rfl⟩
theorem mem_root {l : List S51} {n : S42} : rootF l n = true ↔ ⟨z42, n⟩ ∈ l := by
  unfold rootF
  rw [List.any_eq_true]
  constructor
  · rintro ⟨e, h1, h2⟩
    simp only [Bool.and_eq_true, decide_eq_true_eq] at h2
    have : (⟨z42, n⟩ : S51) = e := by cases e; simp only at h2; rw [h2.1, h2.2]
    rw [this]; exact h1
  · intro h; exact ⟨_, h, by simp⟩
theorem okBy_each {l : List S51} (h : okE l = true) {e : S51} (he : e ∈ l) : mayN e.f1 = true ∧ (e.f0 = z42 ∨ mayN e.f0 = true) := by
  unfold okE at h
  have h1 : l.any badE = false := by simpa using h
  have h2 : badE e = false := by
    rw [List.any_eq_false] at h1
    simpa using h1 e he
  unfold badE at h2
  simp only [Bool.or_eq_false_iff, Bool.not_eq_false', Bool.and_eq_false_iff, decide_eq_true_eq] at h2
  exact h2
theorem need_may {l : List S51} (h : okE l = true) {n x : S42} (hx : x ∈ needF l n) : mayN x = true := by
  obtain ⟨h1, h2⟩ := mem_need.1 hx
  exact ((okBy_each h h2).2).resolve_left h1
theorem by_l0 (l : List S51) (hl : l.length ≤ 65536) (hb : ∀ e ∈ l, Brief e.f0 ∧ Brief e.f1) (hok : okE l = true) (n : S42) : ∀ (r i k : Nat), i + r = l.length → r + 1 ≤ k →
    lack_By.l0 k (needF (l.take i) n) (rootF (l.take i) n) l (l.length : Int) (i : Int) n.f0 n.f1 = some (byF l n, rootF l n, 0) := by
  intro r
  induction r with
  | zero =>
    intro i k hi hk
    obtain ⟨j, rfl⟩ : ∃ j, k = j + 1 := ⟨k - 1, by omega⟩
    simp only [lack_By.l0]
    rw [if_neg (by omega), List.take_of_length_le (by omega)]
    have hs : node_Set.f (needF l n) = some (setN (needF l n), 0) := by
      unfold node_Set.f
      rw [if_pos ⟨by have := need_len l n; omega, fun x hx => (hb _ (mem_need.1 hx).2).1.tiny⟩, if_pos (List.all_eq_true.2 fun x hx => need_may hok hx)]
    rw [hs]
    rfl
  | succ r ih =>
    intro i k hi hk
    obtain ⟨j, rfl⟩ : ∃ j, k = j + 1 := ⟨k - 1, by omega⟩
    have hil : i < l.length := by omega
    have hwr : wrap64 ((i : Int) + 1) = ((i + 1 : Nat) : Int) := by unfold wrap64; omega
    have hnl : (needF (l.take i) n).length ≤ 65536 := by have := need_len (l.take i) n; rw [List.length_take] at this; omega
    have hneq : (!(l[i].f1.f0.toList == n.f0.toList) || !(l[i].f1.f1.toList == n.f1.toList)) = !decide (l[i].f1 = n) := by rw [← node_eqb, Bool.not_and]
    have h1 : needF (l.take (i + 1)) n = if (decide (l[i].f1 = n) && !decide (l[i].f0 = z42)) = true then needF (l.take i) n ++ [l[i].f0] else needF (l.take i) n := by
      unfold needF
      rw [List.take_succ_eq_append_getElem hil, List.filter_append, List.map_append]
      split
      · rename_i e; rw [List.filter_cons_of_pos (by exact e)]; rfl
      · rename_i e; rw [List.filter_cons_of_neg (by exact e)]; simp
    have h2 : rootF (l.take (i + 1)) n = (rootF (l.take i) n || (decide (l[i].f1 = n) && decide (l[i].f0 = z42))) := by
      unfold rootF
      rw [List.take_succ_eq_append_getElem hil, List.any_append]
      simp
    have h9 := ih (i + 1) j (by omega) (by omega)
    rw [h1, h2] at h9
    simp only [lack_By.l0]
    rw [if_pos (by omega), if_pos (by omega), if_pos (by omega), rd_needs hil, hneq, node_eqr, hwr]
    by_cases e1 : l[i].f1 = n
    · rw [decide_eq_true e1] at h9 ⊢
      rw [if_neg (by decide)]
      by_cases e0 : l[i].f0 = z42
      · rw [decide_eq_true e0] at h9 ⊢
        rw [if_pos rfl]
        simpa using h9
      · rw [decide_eq_false e0] at h9 ⊢
        rw [if_neg (by decide), if_pos (by omega)]
        simpa using h9
    · rw [decide_eq_false e1] at h9 ⊢
      rw [if_pos (by rfl)]
      simpa using h9
theorem by_val (l : List S51) (hl : l.length ≤ 65536) (hb : ∀ e ∈ l, Brief e.f0 ∧ Brief e.f1) (n : S42) (hn : Brief n) (k : Nat) (hk : l.length + 500 ≤ k) :
    lack_By.f k l n.f0 n.f1 = some (if okE l = true ∧ mayN n = true then (byF l n, rootF l n, 0) else ([], false, 1)) := by
  have hK : lack_Check.f l = some (kI (okE l)) := if_pos ⟨by omega, fun x hx => ⟨(hb x hx).1.tiny, (hb x hx).2.tiny⟩⟩
  have hm := node_May_val k n hn.tiny (by have := hn.1; omega)
  obtain ⟨j, rfl⟩ : ∃ j, k = j + 2 := ⟨k - 2, by omega⟩
  unfold lack_By.f
  rw [hK]
  simp only [Option.bind_some]
  cases hok : okE l with
  | false =>
    rw [if_neg (by decide), if_neg (fun h => by cases h.1)]
    simp only [lack_By.j0]
    rw [if_pos trivial]
  | true =>
    rw [if_pos (by rfl), hm]
    simp only [Option.bind_some, lack_By.j0]
    cases hmn : mayN n with
    | false => rw [if_pos (by rfl), if_neg (fun h => by cases h.2)]
    | true =>
      rw [if_neg (by decide), if_pos ⟨trivial, rfl⟩]
      exact by_l0 l hl hb hok n l.length 0 (j + 1) (by omega) (by omega)
def lackOf (live : List S42) (l : List S51) (n : S42) : S55 := ⟨n, (byF l n).filter (fun x => !(!decide (x ∈ live))), rootF l n⟩
def goneF (live keys : List S42) : List S42 := live.filter (fun x => !decide (x ∈ keys))
def ofF (live keys : List S42) (l : List S51) : List S55 := (goneF live keys).map (lackOf live l)
def lack_Of.f (live keys : List S42) (l : List S51) : Option (List S55 × Int) :=
  if live.length ≤ 65536 ∧ keys.length ≤ 65536 ∧ l.length ≤ 65536 ∧ (∀ x ∈ live, Brief x) ∧ (∀ x ∈ keys, Brief x) ∧ (∀ e ∈ l, Brief e.f0 ∧ Brief e.f1) then
    some (if checkN live = true ∧ checkN keys = true ∧ okE l = true then (ofF live keys l, 0) else ([], 1)) else none
theorem by_len (l : List S51) (n : S42) : (byF l n).length ≤ l.length := by
  unfold byF setN
  rw [(sortN_perm _).length_eq]
  have h1 := ded_len (needF l n) (needF l n).length (Nat.le_refl _)
  rw [List.take_length] at h1
  exact Nat.le_trans h1 (need_len l n)
set_option maxHeartbeats 4000000 in
set_option maxRecDepth 100000 in
theorem of_bad (A0 : Option Addr) (c0 : Nat) (l0 : List S42) (A1 : Option Addr) (c1 : Nat) (l1 : List S42) (A2 : Option Addr) (c2 : Nat) (l2 : List S51) (w : World) (hr0 : Kd.C k42 w A0 l0.length l0) (hc0 : l0.length ≤ c0) (hr1 : Kd.C k42 w A1 l1.length l1) (hc1 : l1.length ≤ c1) (hr2 : Kd.C k51 w A2 l2.length l2) (hc2 : l2.length ≤ c2)
    (h0 : l0.length ≤ 65536) (h1 : l1.length ≤ 65536) (h2 : l2.length ≤ 65536) (b0 : ∀ x ∈ l0, Brief x) (b1 : ∀ x ∈ l1, Brief x) (b2 : ∀ e ∈ l2, Brief e.f0 ∧ Brief e.f1) (hk : ¬ (checkN l0 = true ∧ checkN l1 = true)) :
    Calls Tryz.prog 8 #[.slice A0 l0.length c0, .slice A1 l1.length c1, .slice A2 l2.length c2] w fun e w' => e = .returned (.tuple #[.slice none 0 0, .int .i64 1]) ∧ Below w.heap.size w w' := by
  have hM : lack_Missing.f l0 l1 = some ([], 1) := by
    unfold lack_Missing.f node_Minus.f
    rw [if_pos ⟨by omega, by omega, fun x hx => (b0 x hx).tiny, fun x hx => (b1 x hx).tiny⟩, if_neg hk]
    rfl
  have CM := fun (W : World) (h : Kd.C k42 W A0 l0.length l0) (h' : Kd.C k42 W A1 l1.length l1) => lack_Missing.calls A0 c0 l0 A1 c1 l1 [] 1 W h hc0 h' hc1 hM
  have HR0 := Aside0.mk hr0
  have HR1 := Aside0.mk hr1
  clear hr0 hr1 hr2 hM hk b0 b1 b2
  go_enter Tryz.func8, Tryz.ntmps8
  go_wp2_with fail
  refine (CM _ (Kd.C_alloc HR0.out _) (Kd.C_alloc HR1.out _)).mono ?_
  rintro e w1 ⟨v, rfl, ho, hb1⟩
  have HB1 : Aside0 (Below w.heap.size w w1) := ⟨(below_alloc (Below.refl _ _) _).trans (hb1.mono (by simp))⟩
  clear hb1 CM ho
  go_wp2
  go_ret2
  exact ⟨rfl, HB1.out⟩
set_option maxHeartbeats 4000000 in
set_option maxRecDepth 100000 in
theorem of_not (A0 : Option Addr) (c0 : Nat) (l0 : List S42) (A1 : Option Addr) (c1 : Nat) (l1 : List S42) (A2 : Option Addr) (c2 : Nat) (l2 : List S51) (w : World) (hr0 : Kd.C k42 w A0 l0.length l0) (hc0 : l0.length ≤ c0) (hr1 : Kd.C k42 w A1 l1.length l1) (hc1 : l1.length ≤ c1) (hr2 : Kd.C k51 w A2 l2.length l2) (hc2 : l2.length ≤ c2)
    (h0 : l0.length ≤ 65536) (h1 : l1.length ≤ 65536) (h2 : l2.length ≤ 65536) (b0 : ∀ x ∈ l0, Brief x) (b1 : ∀ x ∈ l1, Brief x) (b2 : ∀ e ∈ l2, Brief e.f0 ∧ Brief e.f1) (hk : checkN l0 = true ∧ checkN l1 = true) (hk2 : okE l2 = false) :
    Calls Tryz.prog 8 #[.slice A0 l0.length c0, .slice A1 l1.length c1, .slice A2 l2.length c2] w fun e w' => e = .returned (.tuple #[.slice none 0 0, .int .i64 1]) ∧ Below w.heap.size w w' := by
  have hM : lack_Missing.f l0 l1 = some (goneF l0 l1, 0) := by
    unfold lack_Missing.f node_Minus.f
    rw [if_pos ⟨by omega, by omega, fun x hx => (b0 x hx).tiny, fun x hx => (b1 x hx).tiny⟩, if_pos hk]
    rfl
  have hK : lack_Check.f l2 = some 1 := by
    have h : lack_Check.f l2 = some (kI (okE l2)) := if_pos ⟨by omega, fun x hx => ⟨(b2 x hx).1.tiny, (b2 x hx).2.tiny⟩⟩
    rw [hk2] at h; exact h
  have CM := fun (W : World) (h : Kd.C k42 W A0 l0.length l0) (h' : Kd.C k42 W A1 l1.length l1) => lack_Missing.calls A0 c0 l0 A1 c1 l1 _ 0 W h hc0 h' hc1 hM
  have CK := fun (W : World) (h : Kd.C k51 W A2 l2.length l2) => lack_Check.calls A2 c2 l2 1 W h hc2 hK
  have HR0 := Aside0.mk hr0
  have HR1 := Aside0.mk hr1
  have HR2 := Aside0.mk hr2
  clear hr0 hr1 hr2 hM hK hk hk2 b0 b1 b2
  go_enter Tryz.func8, Tryz.ntmps8
  go_wp2_with fail
  refine (CM _ (Kd.C_alloc HR0.out _) (Kd.C_alloc HR1.out _)).mono ?_
  rintro e w1 ⟨v, rfl, ho, hb1⟩
  have HB1 : Aside0 (Below w.heap.size w w1) := ⟨(below_alloc (Below.refl _ _) _).trans (hb1.mono (by simp))⟩
  clear hb1 CM ho
  go_wp2_with fail
  refine (CK _ (Kd.C_below HR2.out HB1.out)).mono ?_
  rintro e w2 ⟨rfl, hb2⟩
  have HB2 : Aside0 (Below w.heap.size w w2) := ⟨HB1.out.trans (hb2.mono HB1.out.size)⟩
  clear hb2 CK
  go_wp2
  go_ret2
  exact ⟨rfl, HB2.out⟩
set_option maxHeartbeats 8000000 in
set_option maxRecDepth 100000 in
theorem of_go (A0 : Option Addr) (c0 : Nat) (l0 : List S42) (A1 : Option Addr) (c1 : Nat) (l1 : List S42) (A2 : Option Addr) (c2 : Nat) (l2 : List S51) (w : World) (hr0 : Kd.C k42 w A0 l0.length l0) (hc0 : l0.length ≤ c0) (hr1 : Kd.C k42 w A1 l1.length l1) (hc1 : l1.length ≤ c1) (hr2 : Kd.C k51 w A2 l2.length l2) (hc2 : l2.length ≤ c2)
    (h0 : l0.length ≤ 65536) (h1 : l1.length ≤ 65536) (h2 : l2.length ≤ 65536) (b0 : ∀ x ∈ l0, Brief x) (b1 : ∀ x ∈ l1, Brief x) (b2 : ∀ e ∈ l2, Brief e.f0 ∧ Brief e.f1) (hk : checkN l0 = true ∧ checkN l1 = true) (hk2 : okE l2 = true) :
    Calls Tryz.prog 8 #[.slice A0 l0.length c0, .slice A1 l1.length c1, .slice A2 l2.length c2] w fun e w' => ∃ v, e = .returned (.tuple #[v, .int .i64 0]) ∧ Kd.S k55 55 w' w.heap.size (fun _ => True) v (ofF l0 l1 l2) ∧ Below w.heap.size w w' := by
  have hu24 := Tryz.underlying42
  have hu37 := Tryz.underlying55
  have hM : lack_Missing.f l0 l1 = some (goneF l0 l1, 0) := by
    unfold lack_Missing.f node_Minus.f
    rw [if_pos ⟨by omega, by omega, fun x hx => (b0 x hx).tiny, fun x hx => (b1 x hx).tiny⟩, if_pos hk]
    rfl
  have hK : lack_Check.f l2 = some 0 := by
    have h : lack_Check.f l2 = some (kI (okE l2)) := if_pos ⟨by omega, fun x hx => ⟨(b2 x hx).1.tiny, (b2 x hx).2.tiny⟩⟩
    rw [hk2] at h; exact h
  have hgm : ∀ x ∈ goneF l0 l1, Brief x ∧ mayN x = true := fun x hx => by
    have hx0 := (List.mem_filter.1 hx).1
    exact ⟨b0 x hx0, List.all_eq_true.1 (chk_facts l0 _ hk.1) x hx0⟩
  have hgl : (goneF l0 l1).length ≤ 65536 := Nat.le_trans (List.length_filter_le _ _) h0
  have CM := fun (W : World) (h : Kd.C k42 W A0 l0.length l0) (h' : Kd.C k42 W A1 l1.length l1) => lack_Missing.calls A0 c0 l0 A1 c1 l1 _ 0 W h hc0 h' hc1 hM
  have CK := fun (W : World) (h : Kd.C k51 W A2 l2.length l2) => lack_Check.calls A2 c2 l2 0 W h hc2 hK
  have CB := fun (n : S42) (hn : n ∈ goneF l0 l1) (W : World) (h : Kd.C k51 W A2 l2.length l2) => lack_By.calls (l2.length + 500) A2 c2 l2 n.f0 n.f1 (byF l2 n) (rootF l2 n) 0 W h hc2 (by rw [by_val l2 h2 b2 n (hgm n hn).1 _ (Nat.le_refl _), if_pos ⟨hk2, (hgm n hn).2⟩])
  have HR0 := Aside0.mk hr0
  have HR1 := Aside0.mk hr1
  have HR2 := Aside0.mk hr2
  have HGM := Aside0.mk hgm
  have HCB := Aside0.mk CB
  clear hr0 hr1 hr2 hM hK hk hk2 b0 b1 b2 hgm CB
  go_enter Tryz.func8, Tryz.ntmps8
  go_wp2_with fail
  refine (CM _ (Kd.C_alloc HR0.out _) (Kd.C_alloc HR1.out _)).mono ?_
  rintro e w1 ⟨vg, rfl, ho, hb1⟩
  have HX1 := Aside0.mk (blk_below (blk_new w (.cells #[.slice A0 l0.length c0] 22 (0, 0))) hb1)
  have HB1 : Aside0 (Below w.heap.size w w1) := ⟨(below_alloc (Below.refl _ _) _).trans (hb1.mono (by simp))⟩
  have HG1 : Aside0 (Kd.R k42 42 w1 w.heap.size (fun j => j ≠ w.heap.size) vg (goneF l0 l1)) := ⟨Kd.R_mono (Kd.R_lower (Kd.R_bound ho) (by simp)) (fun j hj => by have := hj.2.1; simp at this; omega)⟩
  obtain ⟨Ag, cg, eg⟩ := Kd.R_slice HG1.out
  subst eg
  have hz1 : w.heap.size + 1 ≤ w1.heap.size := by have := hb1.size; simp at this; omega
  clear hb1 CM ho
  go_wp2_with fail
  refine (CK _ (Kd.C_below HR2.out HB1.out)).mono ?_
  rintro e w2 ⟨rfl, hb2⟩
  have HB2 : Aside0 (Below w.heap.size w w2) := ⟨HB1.out.trans (hb2.mono HB1.out.size)⟩
  have HX2 := Aside0.mk (blk_below HX1.out hb2)
  have HG2 := Aside0.mk (Kd.R_below HG1.out hb2)
  have hz2 : w.heap.size + 1 ≤ w2.heap.size := Nat.le_trans hz1 hb2.size
  have hgl1 : ((goneF l0 l1).length : Int) ≤ 65536 := by omega
  clear hb2 CK HX1 HG1 HB1
  go_wp2_with fail
  go_loopw [10, 12, 13, 14, 15, 31] (fun v10 _ _ _ _ v31 wr => ∃ i : Nat, i ≤ (goneF l0 l1).length ∧ v31 = .int .i64 (i : Int) ∧ Aside0 (Kd.S k55 55 wr w.heap.size (fun j => j ≠ w.heap.size ∧ some j ≠ (Value.slice Ag (goneF l0 l1).length cg).ownBlock) v10 (((goneF l0 l1).take i).map (lackOf l0 l2))) ∧ Aside0 (Kd.R k42 42 wr w.heap.size (fun j => j ≠ w.heap.size ∧ some j ≠ v10.ownBlock) (.slice Ag (goneF l0 l1).length cg) (goneF l0 l1)) ∧ Aside0 (wr.heap[w.heap.size]? = some (.cells #[.slice A0 l0.length c0] 22 (0, 0))) ∧ Aside0 (Below w.heap.size w wr) ∧ w.heap.size + 1 ≤ wr.heap.size) (fun _ _ _ _ _ v31 _ => (goneF l0 l1).length - (RowKit.intOf v31).toNat)
  case atStart => exact ⟨0, Nat.zero_le _, rfl, ⟨Kd.S_nil _ _ _ _ _⟩, ⟨Kd.R_mono HG2.out (fun j hj => ⟨hj, by simp [Value.ownBlock]⟩)⟩, HX2, HB2, hz2⟩
  case round =>
    clear HG2 HX2 HB2 hz2
    obtain ⟨i, hi, rfl, HO, HG, HX, HB, hws⟩ := hrel
    by_cases hil : i < (goneF l0 l1).length
    · have j1 : (i : Int) < ((goneF l0 l1).length : Int) := by omega
      have hdi : decide ((i : Int) < ((goneF l0 l1).length : Int)) = true := decide_eq_true j1
      obtain ⟨n, hn⟩ : ∃ n, n = (goneF l0 l1)[i] := ⟨_, rfl⟩
      have hmem : n ∈ goneF l0 l1 := by rw [hn]; exact List.getElem_mem hil
      obtain ⟨gg, gc, hvv, _, _, _⟩ := Kd.R_form HG.out (by omega)
      injection hvv with f1 f2 f3
      subst f1
      have hrc := rowcells HG.out i hil
      rw [← hn] at hrc
      have x0 := hrc.1
      have x1 := hrc.2
      have htk : (goneF l0 l1).take (i + 1) = (goneF l0 l1).take i ++ [n] := by rw [hn]; exact List.take_succ_eq_append_getElem hil
      have HTK := Aside0.mk htk
      have HB3 := Aside0.mk (below_alloc HB.out (.cells #[.string n.f0, .string n.f1] 42 (0, 0)))
      have HO3 := Aside0.mk (Kd.S_alloc HO.out (.cells #[.string n.f0, .string n.f1] 42 (0, 0)))
      have HG3 := Aside0.mk (Kd.R_alloc HG.out (.cells #[.string n.f0, .string n.f1] 42 (0, 0)))
      have HX3 := Aside0.mk (blk_alloc HX.out (.cells #[.string n.f0, .string n.f1] 42 (0, 0)))
      have HN3 := Aside0.mk (blk_new wr (.cells #[.string n.f0, .string n.f1] 42 (0, 0)))
      have n0 : (wr.alloc (.cells #[.string n.f0, .string n.f1] 42 (0, 0))).cell? ⟨wr.heap.size, 0, none⟩ = some (.string n.f0) := (blk_cell HN3.out 0).trans rfl
      have n1 : (wr.alloc (.cells #[.string n.f0, .string n.f1] 42 (0, 0))).cell? ⟨wr.heap.size, 1, none⟩ = some (.string n.f1) := (blk_cell HN3.out 1).trans rfl
      have hcall := HCB.out n hmem (wr.alloc (.cells #[.string n.f0, .string n.f1] 42 (0, 0))) (Kd.C_below HR2.out HB3.out)
      have hbl := by_len l2 n
      have hol : (((goneF l0 l1).take i).map (lackOf l0 l2)).length ≤ 65536 := by rw [List.length_map, List.length_take]; omega
      clear hn hrc htk hmem f2 f3 HO HG HX
      go_wp2_with fail
      refine hcall.mono ?_
      rintro e w4 ⟨vb, rfl, ho4, hb4⟩
      have hdel := delF_calls (byF l2 n) (by omega) (fun x => !decide (x ∈ l0)) w.heap.size w4 _ vb ho4 hb4.size (fun x _ W' hW => of1_calls x l0 h0 A0 c0 hc0 w.heap.size W' ((blk_cell (blk_below HX3.out (hb4.trans hW)) 0).trans rfl) (blk_lt (blk_below HX3.out (hb4.trans hW))) (Kd.C_below HR0.out (below_step HB3.out (hb4.trans hW))))
      obtain ⟨rt, hrt⟩ : ∃ b, b = rootF l2 n := ⟨_, rfl⟩
      obtain ⟨bl, hbb⟩ : ∃ b, b = (byF l2 n).filter (fun x => !(!decide (x ∈ l0))) := ⟨_, rfl⟩
      have hlk : (⟨n, bl, rt⟩ : S55) = lackOf l0 l2 n := by rw [hbb, hrt]; rfl
      have HLK := Aside0.mk hlk
      rw [← hrt]
      rw [← hbb] at hdel
      have HB4 := Aside0.mk hb4
      clear hcall hrt hbb hlk ho4 hb4
      go_wp2_with fail
      refine hdel.mono ?_
      rintro e w5 ⟨vv, rfl, ho5, hb5⟩
      have hb45 := HB4.out.trans hb5
      have HO5 := Aside0.mk (Kd.S_old HO3.out hb45)
      have HG5 := Aside0.mk (Kd.R_below HG3.out hb45)
      have HX5 := Aside0.mk (blk_below HX3.out hb45)
      have HB5 := Aside0.mk (below_step HB3.out hb45)
      have p0 := (hb45.cell (p := ⟨wr.heap.size, 0, none⟩) (by simp)).trans n0
      have p1 := (hb45.cell (p := ⟨wr.heap.size, 1, none⟩) (by simp)).trans n1
      have hz5 : wr.heap.size + 1 ≤ w5.heap.size := by have := hb45.size; simp at this; omega
      have HBY : Aside0 (Kd.R k42 42 w5 w.heap.size (fun j => j ≠ w.heap.size ∧ some j ≠ (Value.slice (some ⟨gg, 0, none⟩) (goneF l0 l1).length cg).ownBlock ∧ some j ≠ u10.ownBlock) vv bl) := ⟨Kd.R_mono (Kd.R_lower (Kd.R_bound ho5) (by simp; omega)) (fun j hj => by
        have h9 := hj.2.1
        simp at h9
        refine ⟨by omega, fun e => ?_, fun e => ?_⟩
        · have h8 := Kd.R_lt HG3.out j e.symm
          have h7 := hj.2.1
          omega
        · have h8 := Kd.S_lt HO3.out j e.symm
          have h7 := hj.2.1
          omega)⟩
      have HVB := Aside0.mk (Kd.R_base ho5)
      obtain ⟨Av, cv, ev⟩ := Kd.R_slice HBY.out
      subst ev
      clear hdel ho5 hb5 hb45 n0 n1 HO3 HG3 HX3 HB3 HN3 HB4
      go_wp2_with (first
        | ((with_reducible refine gate_builtin (b := .append) (xs := #[.tmp 48, .tmp 53]) rfl ?_); at_builtin; refine Kd.S_append k55 (w0 := w) w.heap.size rfl (.tmp 48) (.tmp 53) 29 55 (.agg #[(.string ⟨#[]⟩), (.string ⟨#[]⟩), (.slice none 0 0), (.bool false)]) 64 rfl Tryz.underlying29 info55 rfl (by decide) (by omega) u10 (((goneF l0 l1).take i).map (lackOf l0 l2)) ⟨n, bl, rt⟩ [.string n.f0, .string n.f1, .slice Av bl.length cv, .bool rt] (fun j => j ≠ w.heap.size ∧ some j ≠ (Value.slice (some ⟨gg, 0, none⟩) (goneF l0 l1).length cg).ownBlock) (fun j => some j = (Value.slice Av bl.length cv).ownBlock) rfl rfl ?aP (fun k hk => ⟨⟨(HBY.out.1 k hk.symm).1, (HBY.out.1 k hk.symm).2.1⟩, (HBY.out.1 k hk.symm).2.2⟩) ?aF ?aO ?aB ?aS ?aL ?_; (case aP => exact k55_mkM _ _ _ ⟨n, bl, rt⟩ (Kd.R_mono (Kd.R_tight rfl HBY.out) (fun _ h => h))); (case aB => exact HB5.out); (case aF => exact (fun j hj => ⟨by omega, fun e => absurd (Kd.R_lt HG5.out j e.symm) (by omega)⟩)); (case aO => exact Kd.S_mono HO5.out (fun k hk => ⟨hk.1, fun e => absurd (HVB.out k e.symm) (by have := hk.2; omega)⟩)); (case aS => exact HB5.out.size); (case aL => omega); intro v9 w9 ho9 hb9 hg9 hat9)
        | fail)
      have HO9 := Aside0.mk ho9
      have HB9 := Aside0.mk hb9
      have HX9 := Aside0.mk (blk_grown HX5.out hg9 (Kd.S_ne HO5.out HX5.out (by decide)))
      have HG9 := Aside0.mk (Kd.R_after (ok := fun j => j ≠ w.heap.size) HG5.out hg9 hat9)
      have hz9 := hg9.size
      clear ho9 hb9 hg9 hat9
      go_roundw
      case rel => exact ⟨i + 1, by omega, by go_num, ⟨by rw [HTK.out, List.map_append, List.map_cons, List.map_nil, ← HLK.out]; exact HO9.out⟩, HG9, HX9, HB9, by omega⟩
      case measure => simp [RowKit.intOf]; omega
    · obtain rfl : i = (goneF l0 l1).length := by omega
      have hdi : decide (((goneF l0 l1).length : Int) < ((goneF l0 l1).length : Int)) = false := decide_eq_false (by omega)
      have ho := HO.out
      rw [List.take_length] at ho
      have HOF := Aside0.mk ho
      clear ho HO HG HX
      go_wp2
      go_ret2
      exact ⟨_, rfl, Kd.S_mono HOF.out (fun _ _ => trivial), HB.out⟩
theorem lack_Of.calls (A0 : Option Addr) (c0 : Nat) (l0 : List S42) (A1 : Option Addr) (c1 : Nat) (l1 : List S42) (A2 : Option Addr) (c2 : Nat) (l2 : List S51) (r1 : List S55) (r2 : Int) (w : World) (hr0 : Kd.C k42 w A0 l0.length l0) (hc0 : l0.length ≤ c0) (hr1 : Kd.C k42 w A1 l1.length l1) (hc1 : l1.length ≤ c1) (hr2 : Kd.C k51 w A2 l2.length l2) (hc2 : l2.length ≤ c2) (h : lack_Of.f l0 l1 l2 = some (r1, r2)) :
    Calls Tryz.prog 8 #[.slice A0 l0.length c0, .slice A1 l1.length c1, .slice A2 l2.length c2] w fun e w' => ∃ v, e = .returned (.tuple #[v, .int .i64 r2]) ∧ Kd.S k55 55 w' w.heap.size (fun _ => True) v r1 ∧ Below w.heap.size w w' := by
  unfold lack_Of.f at h
  split at h
  case isFalse => cases h
  case isTrue hc =>
    obtain ⟨h0, h1, h2, b0, b1, b2⟩ := hc
    injection h with h
    split at h
    case isTrue hk =>
      injection h with e1 e2
      subst e1 e2
      exact of_go A0 c0 l0 A1 c1 l1 A2 c2 l2 w hr0 hc0 hr1 hc1 hr2 hc2 h0 h1 h2 b0 b1 b2 ⟨hk.1, hk.2.1⟩ hk.2.2
    case isFalse hk =>
      injection h with e1 e2
      subst e1 e2
      by_cases hk2 : checkN l0 = true ∧ checkN l1 = true
      · have hk3 : okE l2 = false := by
          cases h9 : okE l2 with
          | false => rfl
          | true => exact absurd ⟨hk2.1, hk2.2, h9⟩ hk
        refine (of_not A0 c0 l0 A1 c1 l1 A2 c2 l2 w hr0 hc0 hr1 hc1 hr2 hc2 h0 h1 h2 b0 b1 b2 hk2 hk3).mono ?_
        rintro e w' ⟨rfl, hb⟩
        exact ⟨_, rfl, Kd.S_nil _ _ _ _ _, hb⟩
      · refine (of_bad A0 c0 l0 A1 c1 l1 A2 c2 l2 w hr0 hc0 hr1 hc1 hr2 hc2 h0 h1 h2 b0 b1 b2 hk2).mono ?_
        rintro e w' ⟨rfl, hb⟩
        exact ⟨_, rfl, Kd.S_nil _ _ _ _ _, hb⟩
theorem mem_byF {l : List S51} {n x : S42} : x ∈ byF l n ↔ x ≠ z42 ∧ ⟨x, n⟩ ∈ l := (mem_setN _ _).trans mem_need
theorem byF_set {l : List S51} (n : S42) (hb : ∀ e ∈ l, Brief e.f0 ∧ Brief e.f1) (hok : okE l = true) : IsSet (byF l n) := setN_set (fun x hx => (hb _ (mem_need.1 hx).2).1.tiny) (fun x hx => need_may hok hx)
theorem byF_same {l m : List S51} (n : S42) (h : ∀ e, e ∈ l ↔ e ∈ m) (hb : ∀ e ∈ l, Brief e.f0 ∧ Brief e.f1) (hok : okE l = true) : byF l n = byF m n :=
  (byF_set n hb hok).ext (byF_set n (fun e he => hb e ((h e).2 he)) (by rw [← okE_same h]; exact hok)) (fun x => by rw [mem_byF, mem_byF, h])
theorem rootF_same {l m : List S51} (n : S42) (h : ∀ e, e ∈ l ↔ e ∈ m) : rootF l n = rootF m n := by rw [Bool.eq_iff_iff, mem_root, mem_root, h]
theorem ofF_same (live keys : List S42) {l m : List S51} (h : ∀ e, e ∈ l ↔ e ∈ m) (hb : ∀ e ∈ l, Brief e.f0 ∧ Brief e.f1) (hok : okE l = true) : ofF live keys l = ofF live keys m := by
  unfold ofF
  refine List.map_congr_left fun n _ => ?_
  unfold lackOf
  rw [byF_same n h hb hok, rootF_same n h]
theorem byF_root (l : List S51) (n n0 : S42) : byF (l ++ [⟨z42, n0⟩]) n = byF l n := by
  unfold byF needF
  rw [List.filter_append, List.filter_cons_of_neg (by simp), List.filter_nil, List.append_nil]
theorem rootF_root (l : List S51) (n n0 : S42) : rootF (l ++ [⟨z42, n0⟩]) n = (rootF l n || decide (n0 = n)) := by
  unfold rootF
  rw [List.any_append]
  simp
theorem lackOf_root (live : List S42) (l : List S51) (n : S42) : lackOf live (l ++ [⟨z42, n⟩]) n = ⟨n, (lackOf live l n).f1, true⟩ := by
  unfold lackOf
  rw [byF_root, rootF_root, decide_eq_true rfl, Bool.or_true]
theorem lackOf_other (live : List S42) (l : List S51) (n n0 : S42) (h : n0 ≠ n) : lackOf live (l ++ [⟨z42, n0⟩]) n = lackOf live l n := by
  unfold lackOf
  rw [byF_root, rootF_root, decide_eq_false h, Bool.or_false]
theorem okE_root (l : List S51) (n : S42) (hok : okE l = true) (hn : mayN n = true) : okE (l ++ [⟨z42, n⟩]) = true := by
  rw [okE_iff] at hok ⊢
  intro e he
  rcases List.mem_append.1 he with h | h
  · exact hok e h
  · rw [List.mem_singleton] at h
    subst h
    unfold badE
    simp [hn]
theorem goneF_set {live : List S42} (keys : List S42) (h : IsSet live) : IsSet (goneF live keys) := h.filter _
theorem mem_goneF {live keys : List S42} {x : S42} : x ∈ goneF live keys ↔ x ∈ live ∧ x ∉ keys := by
  unfold goneF
  rw [List.mem_filter]
  simp
theorem goneF_nil (live : List S42) : goneF live [] = live := List.filter_eq_self.2 fun x _ => by simp
theorem goneF_self (live : List S42) : goneF live live = [] := List.filter_eq_nil_iff.2 fun x hx => by simp [hx]
theorem goneF_len (live keys : List S42) : (goneF live keys).length ≤ live.length := List.length_filter_le _ _
theorem ofF_len (live keys : List S42) (l : List S51) : (ofF live keys l).length = (goneF live keys).length := List.length_map _
theorem lackBy_len (live : List S42) (l : List S51) (n : S42) : (lackOf live l n).f1.length ≤ l.length := Nat.le_trans (List.length_filter_le _ _) (by_len l n)
theorem ofF_by (live keys : List S42) (l : List S51) : ∀ x ∈ ofF live keys l, x.f1.length ≤ l.length := fun x hx => by
  obtain ⟨n, _, rfl⟩ := List.mem_map.1 hx
  exact lackBy_len live l n
/-- What lack.Of yields of brief lists. -/
theorem lackOf_val (live keys : List S42) (l : List S51) (h0 : live.length ≤ 65536) (h1 : keys.length ≤ 65536) (h2 : l.length ≤ 65536) (b0 : ∀ x ∈ live, Brief x) (b1 : ∀ x ∈ keys, Brief x) (b2 : ∀ e ∈ l, Brief e.f0 ∧ Brief e.f1) :
    lack_Of.f live keys l = some (if checkN live = true ∧ checkN keys = true ∧ okE l = true then (ofF live keys l, 0) else ([], 1)) := if_pos ⟨h0, h1, h2, b0, b1, b2⟩
theorem missing_val (live keys : List S42) (h0 : live.length ≤ 65536) (h1 : keys.length ≤ 65536) (b0 : ∀ x ∈ live, Brief x) (b1 : ∀ x ∈ keys, Brief x) :
    lack_Missing.f live keys = some (if checkN live = true ∧ checkN keys = true then (goneF live keys, 0) else ([], 1)) := by
  unfold lack_Missing.f node_Minus.f
  rw [if_pos ⟨by omega, by omega, fun x hx => (b0 x hx).tiny, fun x hx => (b1 x hx).tiny⟩]
  rfl
end Go.Proofs.YtffcbfclpfchnaaGreatDoor.Q
end

section
namespace Go.Proofs.YtffcbfclpfchnaaGreatDoor.Q
open Go.RowKit Go.Proofs.YtffcbfclpfchnaaGreatDoorW.PrintWords Go.Proofs.YtffcbfclpfchnaaGreatDoorW.PrintLast Go.Proofs.YtffcbfclpfchnaaGreatDoorW.PrintMore
attribute [local go_sem] max2_int min2_int max_two min_two max_three min_three max_four min_four   -- for this text's walks alone
set_option linter.unusedVariables false
set_option linter.unusedSimpArgs false
attribute [local go_sem high] eqA42
/-! ### graftwoodlaw18_awake: function 12 -/
def graftwoodlaw18_awake.f  : Option (Bool) := (lack_Of.f (([(⟨(⟨#[97]⟩ : ByteArray), (⟨#[118, 49, 46, 48, 46, 48]⟩ : ByteArray)⟩ : S42), (⟨(⟨#[98]⟩ : ByteArray), (⟨#[118, 49, 46, 48, 46, 48]⟩ : ByteArray)⟩ : S42)] : List (S42))) (([(⟨(⟨#[98]⟩ : ByteArray), (⟨#[118, 49, 46, 48, 46, 48]⟩ : ByteArray)⟩ : S42)] : List (S42))) (([(⟨(⟨(⟨#[98]⟩ : ByteArray), (⟨#[118, 49, 46, 48, 46, 48]⟩ : ByteArray)⟩ : S42), (⟨(⟨#[97]⟩ : ByteArray), (⟨#[118, 49, 46, 48, 46, 48]⟩ : ByteArray)⟩ : S42)⟩ : S51), (⟨(⟨(⟨#[]⟩ : ByteArray), (⟨#[]⟩ : ByteArray)⟩ : S42), (⟨(⟨#[98]⟩ : ByteArray), (⟨#[118, 49, 46, 48, 46, 48]⟩ : ByteArray)⟩ : S42)⟩ : S51)] : List (S51)))).bind fun bt258 => ((lack_Missing.f (([(⟨(⟨#[97]⟩ : ByteArray), (⟨#[118, 49, 46, 48, 46, 48]⟩ : ByteArray)⟩ : S42)] : List (S42))) (([(⟨(⟨#[97]⟩ : ByteArray), (⟨#[118, 49, 46, 48, 46, 48]⟩ : ByteArray)⟩ : S42)] : List (S42)))).bind fun bt268 => (if (bt258.1.length : Int) = 1 then (if 0 < (bt258.1.length : Int) then (if ((((rd_T55 bt258.1 0).f0.f0).toList) == ([97] : List UInt8) && ((((rd_T55 bt258.1 0).f0.f1).toList) == ([118, 49, 46, 48, 46, 48] : List UInt8))) = true then (if (((rd_T55 bt258.1 0).f1).length : Int) = 1 then (if 0 < (((rd_T55 bt258.1 0).f1).length : Int) then (if ((((rd_T42 ((rd_T55 bt258.1 0).f1) 0).f0).toList) == ([98] : List UInt8) && ((((rd_T42 ((rd_T55 bt258.1 0).f1) 0).f1).toList) == ([118, 49, 46, 48, 46, 48] : List UInt8))) = true then (if ((rd_T55 bt258.1 0).f2 = true) then (some false) else (if bt258.2 = 0 then (if (bt268.1.length : Int) = 0 then (some (bt268.2 == 0)) else (some false)) else (some false))) else (some false)) else (none)) else (some false)) else (some false)) else (none)) else (some false)))
set_option maxHeartbeats 8000000 in
set_option maxRecDepth 100000 in
theorem graftwoodlaw18_awake.calls  (r : Bool) (w : World) (h : graftwoodlaw18_awake.f  = some r) (HR_ : Aside0 (r = true)) :
  Calls Tryz.prog 12 #[] w fun e w' => e = .returned (.bool r) ∧ Below w.heap.size w w' := by
 have hu42 := Tryz.underlying42
 have hu51 := Tryz.underlying51
 have HB := Aside0.mk (Below.refl w.heap.size w)
 have H : ((lack_Of.f (([(⟨(⟨#[97]⟩ : ByteArray), (⟨#[118, 49, 46, 48, 46, 48]⟩ : ByteArray)⟩ : S42), (⟨(⟨#[98]⟩ : ByteArray), (⟨#[118, 49, 46, 48, 46, 48]⟩ : ByteArray)⟩ : S42)] : List (S42))) (([(⟨(⟨#[98]⟩ : ByteArray), (⟨#[118, 49, 46, 48, 46, 48]⟩ : ByteArray)⟩ : S42)] : List (S42))) (([(⟨(⟨(⟨#[98]⟩ : ByteArray), (⟨#[118, 49, 46, 48, 46, 48]⟩ : ByteArray)⟩ : S42), (⟨(⟨#[97]⟩ : ByteArray), (⟨#[118, 49, 46, 48, 46, 48]⟩ : ByteArray)⟩ : S42)⟩ : S51), (⟨(⟨(⟨#[]⟩ : ByteArray), (⟨#[]⟩ : ByteArray)⟩ : S42), (⟨(⟨#[98]⟩ : ByteArray), (⟨#[118, 49, 46, 48, 46, 48]⟩ : ByteArray)⟩ : S42)⟩ : S51)] : List (S51)))).bind fun bt258 => ((lack_Missing.f (([(⟨(⟨#[97]⟩ : ByteArray), (⟨#[118, 49, 46, 48, 46, 48]⟩ : ByteArray)⟩ : S42)] : List (S42))) (([(⟨(⟨#[97]⟩ : ByteArray), (⟨#[118, 49, 46, 48, 46, 48]⟩ : ByteArray)⟩ : S42)] : List (S42)))).bind fun bt268 => (if (bt258.1.length : Int) = 1 then (if 0 < (bt258.1.length : Int) then (if ((((rd_T55 bt258.1 0).f0.f0).toList) == ([97] : List UInt8) && ((((rd_T55 bt258.1 0).f0.f1).toList) == ([118, 49, 46, 48, 46, 48] : List UInt8))) = true then (if (((rd_T55 bt258.1 0).f1).length : Int) = 1 then (if 0 < (((rd_T55 bt258.1 0).f1).length : Int) then (if ((((rd_T42 ((rd_T55 bt258.1 0).f1) 0).f0).toList) == ([98] : List UInt8) && ((((rd_T42 ((rd_T55 bt258.1 0).f1) 0).f1).toList) == ([118, 49, 46, 48, 46, 48] : List UInt8))) = true then (if ((rd_T55 bt258.1 0).f2 = true) then (some false) else (if bt258.2 = 0 then (if (bt268.1.length : Int) = 0 then (some (bt268.2 == 0)) else (some false)) else (some false))) else (some false)) else (none)) else (some false)) else (some false)) else (none)) else (some false)))) = some r := h
 clear h
 obtain ⟨y249, hy249⟩ : ∃ y_ : List (S42), y_ = (([(⟨(⟨#[97]⟩ : ByteArray), (⟨#[118, 49, 46, 48, 46, 48]⟩ : ByteArray)⟩ : S42), (⟨(⟨#[98]⟩ : ByteArray), (⟨#[118, 49, 46, 48, 46, 48]⟩ : ByteArray)⟩ : S42)] : List (S42))) := ⟨_, rfl⟩
 replace H : ((lack_Of.f y249 (([(⟨(⟨#[98]⟩ : ByteArray), (⟨#[118, 49, 46, 48, 46, 48]⟩ : ByteArray)⟩ : S42)] : List (S42))) (([(⟨(⟨(⟨#[98]⟩ : ByteArray), (⟨#[118, 49, 46, 48, 46, 48]⟩ : ByteArray)⟩ : S42), (⟨(⟨#[97]⟩ : ByteArray), (⟨#[118, 49, 46, 48, 46, 48]⟩ : ByteArray)⟩ : S42)⟩ : S51), (⟨(⟨(⟨#[]⟩ : ByteArray), (⟨#[]⟩ : ByteArray)⟩ : S42), (⟨(⟨#[98]⟩ : ByteArray), (⟨#[118, 49, 46, 48, 46, 48]⟩ : ByteArray)⟩ : S42)⟩ : S51)] : List (S51)))).bind fun bt258 => ((lack_Missing.f (([(⟨(⟨#[97]⟩ : ByteArray), (⟨#[118, 49, 46, 48, 46, 48]⟩ : ByteArray)⟩ : S42)] : List (S42))) (([(⟨(⟨#[97]⟩ : ByteArray), (⟨#[118, 49, 46, 48, 46, 48]⟩ : ByteArray)⟩ : S42)] : List (S42)))).bind fun bt268 => (if (bt258.1.length : Int) = 1 then (if 0 < (bt258.1.length : Int) then (if ((((rd_T55 bt258.1 0).f0.f0).toList) == ([97] : List UInt8) && ((((rd_T55 bt258.1 0).f0.f1).toList) == ([118, 49, 46, 48, 46, 48] : List UInt8))) = true then (if (((rd_T55 bt258.1 0).f1).length : Int) = 1 then (if 0 < (((rd_T55 bt258.1 0).f1).length : Int) then (if ((((rd_T42 ((rd_T55 bt258.1 0).f1) 0).f0).toList) == ([98] : List UInt8) && ((((rd_T42 ((rd_T55 bt258.1 0).f1) 0).f1).toList) == ([118, 49, 46, 48, 46, 48] : List UInt8))) = true then (if ((rd_T55 bt258.1 0).f2 = true) then (some false) else (if bt258.2 = 0 then (if (bt268.1.length : Int) = 0 then (some (bt268.2 == 0)) else (some false)) else (some false))) else (some false)) else (none)) else (some false)) else (some false)) else (none)) else (some false)))) = some r := by first | (rw [hy249]; with_reducible exact H) | (have H2_ := (Option.bind_some _ _).symm.trans H; rw [hy249]; with_reducible exact H2_) | (have H2_ := (Option.bind_some _ _).symm.trans H; with_reducible exact H2_) | with_reducible exact H | (rw [hy249]; exact H) | exact H
 have Ny249 := Aside0.mk hy249
 clear hy249
 obtain ⟨y252, hy252⟩ : ∃ y_ : List (S42), y_ = (([(⟨(⟨#[98]⟩ : ByteArray), (⟨#[118, 49, 46, 48, 46, 48]⟩ : ByteArray)⟩ : S42)] : List (S42))) := ⟨_, rfl⟩
 replace H : ((lack_Of.f y249 y252 (([(⟨(⟨(⟨#[98]⟩ : ByteArray), (⟨#[118, 49, 46, 48, 46, 48]⟩ : ByteArray)⟩ : S42), (⟨(⟨#[97]⟩ : ByteArray), (⟨#[118, 49, 46, 48, 46, 48]⟩ : ByteArray)⟩ : S42)⟩ : S51), (⟨(⟨(⟨#[]⟩ : ByteArray), (⟨#[]⟩ : ByteArray)⟩ : S42), (⟨(⟨#[98]⟩ : ByteArray), (⟨#[118, 49, 46, 48, 46, 48]⟩ : ByteArray)⟩ : S42)⟩ : S51)] : List (S51)))).bind fun bt258 => ((lack_Missing.f (([(⟨(⟨#[97]⟩ : ByteArray), (⟨#[118, 49, 46, 48, 46, 48]⟩ : ByteArray)⟩ : S42)] : List (S42))) (([(⟨(⟨#[97]⟩ : ByteArray), (⟨#[118, 49, 46, 48, 46, 48]⟩ : ByteArray)⟩ : S42)] : List (S42)))).bind fun bt268 => (if (bt258.1.length : Int) = 1 then (if 0 < (bt258.1.length : Int) then (if ((((rd_T55 bt258.1 0).f0.f0).toList) == ([97] : List UInt8) && ((((rd_T55 bt258.1 0).f0.f1).toList) == ([118, 49, 46, 48, 46, 48] : List UInt8))) = true then (if (((rd_T55 bt258.1 0).f1).length : Int) = 1 then (if 0 < (((rd_T55 bt258.1 0).f1).length : Int) then (if ((((rd_T42 ((rd_T55 bt258.1 0).f1) 0).f0).toList) == ([98] : List UInt8) && ((((rd_T42 ((rd_T55 bt258.1 0).f1) 0).f1).toList) == ([118, 49, 46, 48, 46, 48] : List UInt8))) = true then (if ((rd_T55 bt258.1 0).f2 = true) then (some false) else (if bt258.2 = 0 then (if (bt268.1.length : Int) = 0 then (some (bt268.2 == 0)) else (some false)) else (some false))) else (some false)) else (none)) else (some false)) else (some false)) else (none)) else (some false)))) = some r := by first | (rw [hy252]; with_reducible exact H) | (have H2_ := (Option.bind_some _ _).symm.trans H; rw [hy252]; with_reducible exact H2_) | (have H2_ := (Option.bind_some _ _).symm.trans H; with_reducible exact H2_) | with_reducible exact H | (rw [hy252]; exact H) | exact H
 have Ny252 := Aside0.mk hy252
 clear hy252
 obtain ⟨y255, hy255⟩ : ∃ y_ : List (S51), y_ = (([(⟨(⟨(⟨#[98]⟩ : ByteArray), (⟨#[118, 49, 46, 48, 46, 48]⟩ : ByteArray)⟩ : S42), (⟨(⟨#[97]⟩ : ByteArray), (⟨#[118, 49, 46, 48, 46, 48]⟩ : ByteArray)⟩ : S42)⟩ : S51), (⟨(⟨(⟨#[]⟩ : ByteArray), (⟨#[]⟩ : ByteArray)⟩ : S42), (⟨(⟨#[98]⟩ : ByteArray), (⟨#[118, 49, 46, 48, 46, 48]⟩ : ByteArray)⟩ : S42)⟩ : S51)] : List (S51))) := ⟨_, rfl⟩
 replace H : ((lack_Of.f y249 y252 y255).bind fun bt258 => ((lack_Missing.f (([(⟨(⟨#[97]⟩ : ByteArray), (⟨#[118, 49, 46, 48, 46, 48]⟩ : ByteArray)⟩ : S42)] : List (S42))) (([(⟨(⟨#[97]⟩ : ByteArray), (⟨#[118, 49, 46, 48, 46, 48]⟩ : ByteArray)⟩ : S42)] : List (S42)))).bind fun bt268 => (if (bt258.1.length : Int) = 1 then (if 0 < (bt258.1.length : Int) then (if ((((rd_T55 bt258.1 0).f0.f0).toList) == ([97] : List UInt8) && ((((rd_T55 bt258.1 0).f0.f1).toList) == ([118, 49, 46, 48, 46, 48] : List UInt8))) = true then (if (((rd_T55 bt258.1 0).f1).length : Int) = 1 then (if 0 < (((rd_T55 bt258.1 0).f1).length : Int) then (if ((((rd_T42 ((rd_T55 bt258.1 0).f1) 0).f0).toList) == ([98] : List UInt8) && ((((rd_T42 ((rd_T55 bt258.1 0).f1) 0).f1).toList) == ([118, 49, 46, 48, 46, 48] : List UInt8))) = true then (if ((rd_T55 bt258.1 0).f2 = true) then (some false) else (if bt258.2 = 0 then (if (bt268.1.length : Int) = 0 then (some (bt268.2 == 0)) else (some false)) else (some false))) else (some false)) else (none)) else (some false)) else (some false)) else (none)) else (some false)))) = some r := by first | (rw [hy255]; with_reducible exact H) | (have H2_ := (Option.bind_some _ _).symm.trans H; rw [hy255]; with_reducible exact H2_) | (have H2_ := (Option.bind_some _ _).symm.trans H; with_reducible exact H2_) | with_reducible exact H | (rw [hy255]; exact H) | exact H
 have Ny255 := Aside0.mk hy255
 clear hy255
 replace H := Option.bind_eq_some_iff.mp H
 obtain ⟨⟨t258, t259⟩, A10, H⟩ := H
 replace H : ((lack_Missing.f (([(⟨(⟨#[97]⟩ : ByteArray), (⟨#[118, 49, 46, 48, 46, 48]⟩ : ByteArray)⟩ : S42)] : List (S42))) (([(⟨(⟨#[97]⟩ : ByteArray), (⟨#[118, 49, 46, 48, 46, 48]⟩ : ByteArray)⟩ : S42)] : List (S42)))).bind fun bt268 => (if (t258.length : Int) = 1 then (if 0 < (t258.length : Int) then (if ((((rd_T55 t258 0).f0.f0).toList) == ([97] : List UInt8) && ((((rd_T55 t258 0).f0.f1).toList) == ([118, 49, 46, 48, 46, 48] : List UInt8))) = true then (if (((rd_T55 t258 0).f1).length : Int) = 1 then (if 0 < (((rd_T55 t258 0).f1).length : Int) then (if ((((rd_T42 ((rd_T55 t258 0).f1) 0).f0).toList) == ([98] : List UInt8) && ((((rd_T42 ((rd_T55 t258 0).f1) 0).f1).toList) == ([118, 49, 46, 48, 46, 48] : List UInt8))) = true then (if ((rd_T55 t258 0).f2 = true) then (some false) else (if t259 = 0 then (if (bt268.1.length : Int) = 0 then (some (bt268.2 == 0)) else (some false)) else (some false))) else (some false)) else (none)) else (some false)) else (some false)) else (none)) else (some false))) = some r := H
 have A1 := Aside0.mk A10
 clear A10
 obtain ⟨y262, hy262⟩ : ∃ y_ : List (S42), y_ = (([(⟨(⟨#[97]⟩ : ByteArray), (⟨#[118, 49, 46, 48, 46, 48]⟩ : ByteArray)⟩ : S42)] : List (S42))) := ⟨_, rfl⟩
 replace H : ((lack_Missing.f y262 (([(⟨(⟨#[97]⟩ : ByteArray), (⟨#[118, 49, 46, 48, 46, 48]⟩ : ByteArray)⟩ : S42)] : List (S42)))).bind fun bt268 => (if (t258.length : Int) = 1 then (if 0 < (t258.length : Int) then (if ((((rd_T55 t258 0).f0.f0).toList) == ([97] : List UInt8) && ((((rd_T55 t258 0).f0.f1).toList) == ([118, 49, 46, 48, 46, 48] : List UInt8))) = true then (if (((rd_T55 t258 0).f1).length : Int) = 1 then (if 0 < (((rd_T55 t258 0).f1).length : Int) then (if ((((rd_T42 ((rd_T55 t258 0).f1) 0).f0).toList) == ([98] : List UInt8) && ((((rd_T42 ((rd_T55 t258 0).f1) 0).f1).toList) == ([118, 49, 46, 48, 46, 48] : List UInt8))) = true then (if ((rd_T55 t258 0).f2 = true) then (some false) else (if t259 = 0 then (if (bt268.1.length : Int) = 0 then (some (bt268.2 == 0)) else (some false)) else (some false))) else (some false)) else (none)) else (some false)) else (some false)) else (none)) else (some false))) = some r := by first | (rw [hy262]; with_reducible exact H) | (have H2_ := (Option.bind_some _ _).symm.trans H; rw [hy262]; with_reducible exact H2_) | (have H2_ := (Option.bind_some _ _).symm.trans H; with_reducible exact H2_) | with_reducible exact H | (rw [hy262]; exact H) | exact H
 have Ny262 := Aside0.mk hy262
 clear hy262
 obtain ⟨y265, hy265⟩ : ∃ y_ : List (S42), y_ = (([(⟨(⟨#[97]⟩ : ByteArray), (⟨#[118, 49, 46, 48, 46, 48]⟩ : ByteArray)⟩ : S42)] : List (S42))) := ⟨_, rfl⟩
 replace H : ((lack_Missing.f y262 y265).bind fun bt268 => (if (t258.length : Int) = 1 then (if 0 < (t258.length : Int) then (if ((((rd_T55 t258 0).f0.f0).toList) == ([97] : List UInt8) && ((((rd_T55 t258 0).f0.f1).toList) == ([118, 49, 46, 48, 46, 48] : List UInt8))) = true then (if (((rd_T55 t258 0).f1).length : Int) = 1 then (if 0 < (((rd_T55 t258 0).f1).length : Int) then (if ((((rd_T42 ((rd_T55 t258 0).f1) 0).f0).toList) == ([98] : List UInt8) && ((((rd_T42 ((rd_T55 t258 0).f1) 0).f1).toList) == ([118, 49, 46, 48, 46, 48] : List UInt8))) = true then (if ((rd_T55 t258 0).f2 = true) then (some false) else (if t259 = 0 then (if (bt268.1.length : Int) = 0 then (some (bt268.2 == 0)) else (some false)) else (some false))) else (some false)) else (none)) else (some false)) else (some false)) else (none)) else (some false))) = some r := by first | (rw [hy265]; with_reducible exact H) | (have H2_ := (Option.bind_some _ _).symm.trans H; rw [hy265]; with_reducible exact H2_) | (have H2_ := (Option.bind_some _ _).symm.trans H; with_reducible exact H2_) | with_reducible exact H | (rw [hy265]; exact H) | exact H
 have Ny265 := Aside0.mk hy265
 clear hy265
 replace H := Option.bind_eq_some_iff.mp H
 obtain ⟨⟨t268, t269⟩, A20, H⟩ := H
 replace H : (if (t258.length : Int) = 1 then (if 0 < (t258.length : Int) then (if ((((rd_T55 t258 0).f0.f0).toList) == ([97] : List UInt8) && ((((rd_T55 t258 0).f0.f1).toList) == ([118, 49, 46, 48, 46, 48] : List UInt8))) = true then (if (((rd_T55 t258 0).f1).length : Int) = 1 then (if 0 < (((rd_T55 t258 0).f1).length : Int) then (if ((((rd_T42 ((rd_T55 t258 0).f1) 0).f0).toList) == ([98] : List UInt8) && ((((rd_T42 ((rd_T55 t258 0).f1) 0).f1).toList) == ([118, 49, 46, 48, 46, 48] : List UInt8))) = true then (if ((rd_T55 t258 0).f2 = true) then (some false) else (if t259 = 0 then (if (t268.length : Int) = 0 then (some (t269 == 0)) else (some false)) else (some false))) else (some false)) else (none)) else (some false)) else (some false)) else (none)) else (some false)) = some r := H
 have A2 := Aside0.mk A20
 clear A20
 by_cases c3 : (t258.length : Int) = 1
 ·rw [if_pos c3] at H
  have c3b0 : ((t258.length : Int) == 1) = true := beq_iff_eq.mpr c3
  have c3b1 : ((t258.length : Int) != 1) = false := bne_eq_false_iff_eq.mpr c3
  clear c3
  by_cases c4 : 0 < (t258.length : Int)
  ·rw [if_pos c4] at H
   have c4b0 : decide (0 < (t258.length : Int)) = true := decide_eq_true c4
   have c4b1 : decide (0 < t258.length) = true := decide_eq_true (by omega)
   clear c4
   by_cases c5 : ((((rd_T55 t258 0).f0.f0).toList) == ([97] : List UInt8) && ((((rd_T55 t258 0).f0.f1).toList) == ([118, 49, 46, 48, 46, 48] : List UInt8))) = true
   ·rw [if_pos c5] at H
    have c5b0 : ((((rd_T55 t258 0).f0.f0).toList) == ([97] : List UInt8) && ((((rd_T55 t258 0).f0.f1).toList) == ([118, 49, 46, 48, 46, 48] : List UInt8))) = true := c5
    (try (have c5b1 : decide ((((rd_T55 t258 0).f0.f0).toList) = ([97] : List UInt8) && ((((rd_T55 t258 0).f0.f1).toList) == ([118, 49, 46, 48, 46, 48] : List UInt8))) = true := by simpa using c5))
    (try (have c5b2 : ((((rd_T55 t258 0).f0.f0).toList) == ([97] : List UInt8) && ((((rd_T55 t258 0).f0.f1).toList) == ([118, 49, 46, 48, 46, 48] : List UInt8))) = true := by simpa using c5))
    clear c5
    by_cases c6 : (((rd_T55 t258 0).f1).length : Int) = 1
    ·rw [if_pos c6] at H
     have c6b0 : ((((rd_T55 t258 0).f1).length : Int) == 1) = true := beq_iff_eq.mpr c6
     have c6b1 : ((((rd_T55 t258 0).f1).length : Int) != 1) = false := bne_eq_false_iff_eq.mpr c6
     clear c6
     by_cases c7 : 0 < (((rd_T55 t258 0).f1).length : Int)
     ·rw [if_pos c7] at H
      have c7b0 : decide (0 < (((rd_T55 t258 0).f1).length : Int)) = true := decide_eq_true c7
      have c7b1 : decide (0 < ((rd_T55 t258 0).f1).length) = true := decide_eq_true (by omega)
      clear c7
      by_cases c8 : ((((rd_T42 ((rd_T55 t258 0).f1) 0).f0).toList) == ([98] : List UInt8) && ((((rd_T42 ((rd_T55 t258 0).f1) 0).f1).toList) == ([118, 49, 46, 48, 46, 48] : List UInt8))) = true
      ·rw [if_pos c8] at H
       have c8b0 : ((((rd_T42 ((rd_T55 t258 0).f1) 0).f0).toList) == ([98] : List UInt8) && ((((rd_T42 ((rd_T55 t258 0).f1) 0).f1).toList) == ([118, 49, 46, 48, 46, 48] : List UInt8))) = true := c8
       (try (have c8b1 : decide ((((rd_T42 ((rd_T55 t258 0).f1) 0).f0).toList) = ([98] : List UInt8) && ((((rd_T42 ((rd_T55 t258 0).f1) 0).f1).toList) == ([118, 49, 46, 48, 46, 48] : List UInt8))) = true := by simpa using c8))
       (try (have c8b2 : ((((rd_T42 ((rd_T55 t258 0).f1) 0).f0).toList) == ([98] : List UInt8) && ((((rd_T42 ((rd_T55 t258 0).f1) 0).f1).toList) == ([118, 49, 46, 48, 46, 48] : List UInt8))) = true := by simpa using c8))
       clear c8
       obtain ⟨bq9, hbq9⟩ : ∃ b_ : Bool, b_ = ((rd_T55 t258 0).f2) := ⟨_, rfl⟩
       replace H : (if (bq9 = true) then (some false) else (if t259 = 0 then (if (t268.length : Int) = 0 then (some (t269 == 0)) else (some false)) else (some false))) = some r := by rw [← hbq9] at H; exact H
       have Nbq9 := Aside0.mk hbq9
       clear hbq9
       by_cases c10 : (bq9 = true)
       ·subst c10
        have H1 : (some false) = some r := by rw [if_pos rfl] at H; exact H
        clear H
        have H := H1
        clear H1
        exact absurd ((Option.some.inj H).trans HR_.out) (by decide)
       ·replace c10 := Bool.eq_false_iff.mpr c10
        subst c10
        have H1 : (if t259 = 0 then (if (t268.length : Int) = 0 then (some (t269 == 0)) else (some false)) else (some false)) = some r := by rw [if_neg (show ¬ (false = true) by decide)] at H; exact H
        clear H
        have H := H1
        clear H1
        by_cases c11 : t259 = 0
        ·rw [if_pos c11] at H
         have c11b0 : (t259 == 0) = true := beq_iff_eq.mpr c11
         have c11b1 : (t259 != 0) = false := bne_eq_false_iff_eq.mpr c11
         clear c11
         by_cases c12 : (t268.length : Int) = 0
         ·rw [if_pos c12] at H
          have c12b0 : ((t268.length : Int) == 0) = true := beq_iff_eq.mpr c12
          have c12b1 : ((t268.length : Int) != 0) = false := bne_eq_false_iff_eq.mpr c12
          clear c12
          obtain rfl := Option.some.inj H
          go_enter Tryz.func12, Tryz.ntmps12
          go_wp2_with (first | ((with_reducible refine gate_dst (N := 1) rfl ?_); (try (refine gate_guard (by rfl) ?_; dsimp only)); refine box_event ?hg (N := 1) ?hd (cs := #[.string (⟨#[]⟩ : ByteArray), .string (⟨#[]⟩ : ByteArray)]) (t := 42) ?hr ?_; (case hd => rfl); (case hg => rfl); (case hr => first | (go_simp; done) | (go_simp; rfl)); intro gb247 hg w13 hbox hb; have n0_ := Aside0.mk (below_step (by repeat (first | (with_reducible first | exact HB.out | apply below_alloc | apply pw_below_drewN | apply below_drew1) | exact HB.out)) hb); have n1_ := Aside0.mk (hbox); have n2_ := Aside0.mk ((by rw [hg]; exact (below_size (by repeat (first | (with_reducible first | exact HB.out | apply below_alloc | apply pw_below_drewN | apply below_drew1) | exact HB.out))) : w.heap.size ≤ gb247)); have n3_ := Aside0.mk ((by rw [hg]; exact (below_size (by repeat (first | (with_reducible first | exact HB.out | apply below_alloc | apply pw_below_drewN | apply below_drew1) | exact HB.out))) : w.heap.size ≤ gb247)); clear HB; have HB := n0_; have BK247 := n1_; have GW247 := n2_; have GE247 := n3_; clear n0_ n1_ n2_ n3_; clear hb hbox hg) | ((with_reducible refine gate_dst (N := 2) rfl ?_); (try (refine gate_guard (by rfl) ?_; dsimp only)); refine box_event ?hg (N := 2) ?hd (cs := #[.string (⟨#[]⟩ : ByteArray), .string (⟨#[]⟩ : ByteArray)]) (t := 42) ?hr ?_; (case hd => rfl); (case hg => rfl); (case hr => first | (go_simp; done) | (go_simp; rfl)); intro gb248 hg w14 hbox hb; have n0_ := Aside0.mk (blk_below (g := gb247) (o := .cells #[.string (⟨#[]⟩ : ByteArray), .string (⟨#[]⟩ : ByteArray)] 42 (0, 0)) (by (with_reducible repeat (first | refine blk_drewN ?_ _ | refine blk_drew ?_ | refine blk_alloc ?_ _)); exact BK247.out) hb); have n1_ := Aside0.mk (below_step (by repeat (first | (with_reducible first | exact HB.out | apply below_alloc | apply pw_below_drewN | apply below_drew1 | refine below_set ?_ GE247.out) | exact HB.out)) hb); have n2_ := Aside0.mk (hbox); have n3_ := Aside0.mk ((by rw [hg]; exact (below_size (by repeat (first | (with_reducible first | exact HB.out | apply below_alloc | apply pw_below_drewN | apply below_drew1 | refine below_set ?_ GE247.out) | exact HB.out))) : w.heap.size ≤ gb248)); have n4_ := Aside0.mk ((by rw [hg]; exact (below_size (by repeat (first | (with_reducible first | exact HB.out | apply below_alloc | apply pw_below_drewN | apply below_drew1 | refine below_set ?_ GE247.out) | exact HB.out))) : w.heap.size ≤ gb248)); have n5_ := Aside0.mk ((by rw [hg]; exact Nat.ne_of_lt (blk_lt (g := gb247) (o := .cells #[.string (⟨#[]⟩ : ByteArray), .string (⟨#[]⟩ : ByteArray)] 42 (0, 0)) (by (with_reducible repeat (first | refine blk_drewN ?_ _ | refine blk_drew ?_ | refine blk_alloc ?_ _)); exact BK247.out)) : gb247 ≠ gb248)); have n6_ := Aside0.mk ((by rw [hg]; exact Nat.ne_of_gt (blk_lt (g := gb247) (o := .cells #[.string (⟨#[]⟩ : ByteArray), .string (⟨#[]⟩ : ByteArray)] 42 (0, 0)) (by (with_reducible repeat (first | refine blk_drewN ?_ _ | refine blk_drew ?_ | refine blk_alloc ?_ _)); exact BK247.out)) : gb248 ≠ gb247)); clear BK247; clear HB; have BK247 := n0_; have HB := n1_; have BK248 := n2_; have GW248 := n3_; have GE248 := n4_; have NB247_248 := n5_; have NB248_247 := n6_; clear n0_ n1_ n2_ n3_ n4_ n5_ n6_; clear hb hbox hg; have hnb15 := NB247_248.out; have hnc15 := NB248_247.out; have hcz16_0 : w14.cell? ⟨gb247, 0, none⟩ = some (.string (⟨#[]⟩ : ByteArray)) := (blk_cell BK247.out 0).trans rfl; have hcz16_1 : w14.cell? ⟨gb247, 1, none⟩ = some (.string (⟨#[]⟩ : ByteArray)) := (blk_cell BK247.out 1).trans rfl; have hfz16_0 := blk_frozen BK247.out 0; have hfz16_1 := blk_frozen BK247.out 1; have hcz17_0 : w14.cell? ⟨gb248, 0, none⟩ = some (.string (⟨#[]⟩ : ByteArray)) := (blk_cell BK248.out 0).trans rfl; have hcz17_1 : w14.cell? ⟨gb248, 1, none⟩ = some (.string (⟨#[]⟩ : ByteArray)) := (blk_cell BK248.out 1).trans rfl; have hfz17_0 := blk_frozen BK248.out 0; have hfz17_1 := blk_frozen BK248.out 1) | ((with_reducible refine gate_dst (N := 12) rfl ?_); (try (refine gate_guard (by rfl) ?_; dsimp only)); refine Kd.R_lit k42 _ 42 ?hg (N := 12) ?hd (xs := ([(⟨(⟨#[97]⟩ : ByteArray), (⟨#[118, 49, 46, 48, 46, 48]⟩ : ByteArray)⟩ : S42), (⟨(⟨#[98]⟩ : ByteArray), (⟨#[118, 49, 46, 48, 46, 48]⟩ : ByteArray)⟩ : S42)] : List (S42))) (inner := [.string (⟨#[97]⟩ : ByteArray), .string (⟨#[118, 49, 46, 48, 46, 48]⟩ : ByteArray), .string (⟨#[98]⟩ : ByteArray), .string (⟨#[118, 49, 46, 48, 46, 48]⟩ : ByteArray)]) (ok := fun _ => True) (okp := fun _ => True) ?hr ?hp (fun _ hk => hk) trivial (Below.refl _ _) (Nat.le_refl _) (by simp) ?_; (case hd => rfl); (case hg => rfl); (case hr => first | (go_simp; done) | (go_simp; rfl)); (case hp => exact (Reps.c2 (show Kd.M k42 _ _ _ (⟨(⟨#[97]⟩ : ByteArray), (⟨#[118, 49, 46, 48, 46, 48]⟩ : ByteArray)⟩ : S42) [.string (⟨#[97]⟩ : ByteArray), .string (⟨#[118, 49, 46, 48, 46, 48]⟩ : ByteArray)] from (k42_mkM _ _ _ (⟨(⟨#[97]⟩ : ByteArray), (⟨#[118, 49, 46, 48, 46, 48]⟩ : ByteArray)⟩ : S42) )) (Reps.c2 (show Kd.M k42 _ _ _ (⟨(⟨#[98]⟩ : ByteArray), (⟨#[118, 49, 46, 48, 46, 48]⟩ : ByteArray)⟩ : S42) [.string (⟨#[98]⟩ : ByteArray), .string (⟨#[118, 49, 46, 48, 46, 48]⟩ : ByteArray)] from (k42_mkM _ _ _ (⟨(⟨#[98]⟩ : ByteArray), (⟨#[118, 49, 46, 48, 46, 48]⟩ : ByteArray)⟩ : S42) )) (Reps.none _ _)))); intro v250 w18 ho19 hb hg_ hnew_; clear hg_ hnew_; (first | rw [← Ny249.out] at ho19 | (simp only [Int.reduceToNat] at ho19; rw [← Ny249.out] at ho19)); have n0_ := Aside0.mk (Kd.R_lower (Kd.R_newB (Kd.R_newB ho19 (g := gb247) (o := .cells #[.string (⟨#[97]⟩ : ByteArray), .string (⟨#[118, 49, 46, 48, 46, 48]⟩ : ByteArray)] 42 (0, 0)) (by (with_reducible repeat (first | refine blk_drewN ?_ _ | refine blk_drew ?_ | refine blk_alloc ?_ _)); refine blk_far ?_ NB247_248.out _; (with_reducible repeat (first | refine blk_drewN ?_ _ | refine blk_drew ?_ | refine blk_alloc ?_ _)); refine blk_far ?_ NB247_248.out _; (with_reducible repeat (first | refine blk_drewN ?_ _ | refine blk_drew ?_ | refine blk_alloc ?_ _)); refine blk_put (cs := #[.string (⟨#[97]⟩ : ByteArray), .string (⟨#[]⟩ : ByteArray)]) ?_ 1 _ rfl; (with_reducible repeat (first | refine blk_drewN ?_ _ | refine blk_drew ?_ | refine blk_alloc ?_ _)); refine blk_put (cs := #[.string (⟨#[]⟩ : ByteArray), .string (⟨#[]⟩ : ByteArray)]) ?_ 0 _ rfl; (with_reducible repeat (first | refine blk_drewN ?_ _ | refine blk_drew ?_ | refine blk_alloc ?_ _)); exact BK247.out)) (g := gb248) (o := .cells #[.string (⟨#[98]⟩ : ByteArray), .string (⟨#[118, 49, 46, 48, 46, 48]⟩ : ByteArray)] 42 (0, 0)) (by (with_reducible repeat (first | refine blk_drewN ?_ _ | refine blk_drew ?_ | refine blk_alloc ?_ _)); refine blk_put (cs := #[.string (⟨#[98]⟩ : ByteArray), .string (⟨#[]⟩ : ByteArray)]) ?_ 1 _ rfl; (with_reducible repeat (first | refine blk_drewN ?_ _ | refine blk_drew ?_ | refine blk_alloc ?_ _)); refine blk_put (cs := #[.string (⟨#[]⟩ : ByteArray), .string (⟨#[]⟩ : ByteArray)]) ?_ 0 _ rfl; (with_reducible repeat (first | refine blk_drewN ?_ _ | refine blk_drew ?_ | refine blk_alloc ?_ _)); refine blk_far ?_ NB248_247.out _; (with_reducible repeat (first | refine blk_drewN ?_ _ | refine blk_drew ?_ | refine blk_alloc ?_ _)); refine blk_far ?_ NB248_247.out _; (with_reducible repeat (first | refine blk_drewN ?_ _ | refine blk_drew ?_ | refine blk_alloc ?_ _)); exact BK248.out)) (below_size (by repeat (first | (with_reducible first | exact HB.out | apply below_alloc | apply pw_below_drewN | apply below_drew1 | refine below_set ?_ GE247.out | refine below_set ?_ GE248.out) | exact HB.out)))); have n1_ := Aside0.mk (blk_below (g := gb247) (o := .cells #[.string (⟨#[97]⟩ : ByteArray), .string (⟨#[118, 49, 46, 48, 46, 48]⟩ : ByteArray)] 42 (0, 0)) (by (with_reducible repeat (first | refine blk_drewN ?_ _ | refine blk_drew ?_ | refine blk_alloc ?_ _)); refine blk_far ?_ NB247_248.out _; (with_reducible repeat (first | refine blk_drewN ?_ _ | refine blk_drew ?_ | refine blk_alloc ?_ _)); refine blk_far ?_ NB247_248.out _; (with_reducible repeat (first | refine blk_drewN ?_ _ | refine blk_drew ?_ | refine blk_alloc ?_ _)); refine blk_put (cs := #[.string (⟨#[97]⟩ : ByteArray), .string (⟨#[]⟩ : ByteArray)]) ?_ 1 _ rfl; (with_reducible repeat (first | refine blk_drewN ?_ _ | refine blk_drew ?_ | refine blk_alloc ?_ _)); refine blk_put (cs := #[.string (⟨#[]⟩ : ByteArray), .string (⟨#[]⟩ : ByteArray)]) ?_ 0 _ rfl; (with_reducible repeat (first | refine blk_drewN ?_ _ | refine blk_drew ?_ | refine blk_alloc ?_ _)); exact BK247.out) hb); have n2_ := Aside0.mk (blk_below (g := gb248) (o := .cells #[.string (⟨#[98]⟩ : ByteArray), .string (⟨#[118, 49, 46, 48, 46, 48]⟩ : ByteArray)] 42 (0, 0)) (by (with_reducible repeat (first | refine blk_drewN ?_ _ | refine blk_drew ?_ | refine blk_alloc ?_ _)); refine blk_put (cs := #[.string (⟨#[98]⟩ : ByteArray), .string (⟨#[]⟩ : ByteArray)]) ?_ 1 _ rfl; (with_reducible repeat (first | refine blk_drewN ?_ _ | refine blk_drew ?_ | refine blk_alloc ?_ _)); refine blk_put (cs := #[.string (⟨#[]⟩ : ByteArray), .string (⟨#[]⟩ : ByteArray)]) ?_ 0 _ rfl; (with_reducible repeat (first | refine blk_drewN ?_ _ | refine blk_drew ?_ | refine blk_alloc ?_ _)); refine blk_far ?_ NB248_247.out _; (with_reducible repeat (first | refine blk_drewN ?_ _ | refine blk_drew ?_ | refine blk_alloc ?_ _)); refine blk_far ?_ NB248_247.out _; (with_reducible repeat (first | refine blk_drewN ?_ _ | refine blk_drew ?_ | refine blk_alloc ?_ _)); exact BK248.out) hb); have n3_ := Aside0.mk (below_step (by repeat (first | (with_reducible first | exact HB.out | apply below_alloc | apply pw_below_drewN | apply below_drew1 | refine below_set ?_ GE247.out | refine below_set ?_ GE248.out) | exact HB.out)) hb); clear BK247; clear BK248; clear HB; have HO251 := n0_; have BK247 := n1_; have BK248 := n2_; have HB := n3_; clear n0_ n1_ n2_ n3_; clear hb ho19; have hcz20_0 : w18.cell? ⟨gb248, 0, none⟩ = some (.string (⟨#[98]⟩ : ByteArray)) := (blk_cell BK248.out 0).trans rfl; have hcz20_1 : w18.cell? ⟨gb248, 1, none⟩ = some (.string (⟨#[118, 49, 46, 48, 46, 48]⟩ : ByteArray)) := (blk_cell BK248.out 1).trans rfl; have hfz20_0 := blk_frozen BK248.out 0; have hfz20_1 := blk_frozen BK248.out 1) | ((with_reducible refine gate_dst (N := 14) rfl ?_); (try (refine gate_guard (by rfl) ?_; dsimp only)); refine Kd.R_lit k42 _ 42 ?hg (N := 14) ?hd (xs := ([(⟨(⟨#[98]⟩ : ByteArray), (⟨#[118, 49, 46, 48, 46, 48]⟩ : ByteArray)⟩ : S42)] : List (S42))) (inner := [.string (⟨#[98]⟩ : ByteArray), .string (⟨#[118, 49, 46, 48, 46, 48]⟩ : ByteArray)]) (ok := fun _ => True) (okp := fun _ => True) ?hr ?hp (fun _ hk => hk) trivial (Below.refl _ _) (Nat.le_refl _) (by simp) ?_; (case hd => rfl); (case hg => rfl); (case hr => first | (go_simp; done) | (go_simp; rfl)); (case hp => exact (Reps.c2 (show Kd.M k42 _ _ _ (⟨(⟨#[98]⟩ : ByteArray), (⟨#[118, 49, 46, 48, 46, 48]⟩ : ByteArray)⟩ : S42) [.string (⟨#[98]⟩ : ByteArray), .string (⟨#[118, 49, 46, 48, 46, 48]⟩ : ByteArray)] from (k42_mkM _ _ _ (⟨(⟨#[98]⟩ : ByteArray), (⟨#[118, 49, 46, 48, 46, 48]⟩ : ByteArray)⟩ : S42) )) (Reps.none _ _))); intro v253 w21 ho22 hb hg_ hnew_; clear hg_ hnew_; (first | rw [← Ny252.out] at ho22 | (simp only [Int.reduceToNat] at ho22; rw [← Ny252.out] at ho22)); have n0_ := Aside0.mk (Kd.R_elder' (by (with_reducible repeat (first | apply Kd.R_alloc | apply Kd.R_drewN | apply Kd.R_drew)); exact HO251.out) (Kd.R_base ho22) hb); have n1_ := Aside0.mk (Kd.R_lower (Kd.R_newB (Kd.R_newB (Kd.R_new' ho22 (Kd.R_lt (by (with_reducible repeat (first | apply Kd.R_alloc | apply Kd.R_drewN | apply Kd.R_drew)); exact HO251.out))) (g := gb247) (o := .cells #[.string (⟨#[97]⟩ : ByteArray), .string (⟨#[118, 49, 46, 48, 46, 48]⟩ : ByteArray)] 42 (0, 0)) (by (with_reducible repeat (first | refine blk_drewN ?_ _ | refine blk_drew ?_ | refine blk_alloc ?_ _)); exact BK247.out)) (g := gb248) (o := .cells #[.string (⟨#[98]⟩ : ByteArray), .string (⟨#[118, 49, 46, 48, 46, 48]⟩ : ByteArray)] 42 (0, 0)) (by (with_reducible repeat (first | refine blk_drewN ?_ _ | refine blk_drew ?_ | refine blk_alloc ?_ _)); exact BK248.out)) (below_size (by repeat (first | (with_reducible first | exact HB.out | apply below_alloc | apply pw_below_drewN | apply below_drew1 | refine below_set ?_ GE247.out | refine below_set ?_ GE248.out) | exact HB.out)))); have n2_ := Aside0.mk (blk_below (g := gb247) (o := .cells #[.string (⟨#[97]⟩ : ByteArray), .string (⟨#[118, 49, 46, 48, 46, 48]⟩ : ByteArray)] 42 (0, 0)) (by (with_reducible repeat (first | refine blk_drewN ?_ _ | refine blk_drew ?_ | refine blk_alloc ?_ _)); exact BK247.out) hb); have n3_ := Aside0.mk (blk_below (g := gb248) (o := .cells #[.string (⟨#[98]⟩ : ByteArray), .string (⟨#[118, 49, 46, 48, 46, 48]⟩ : ByteArray)] 42 (0, 0)) (by (with_reducible repeat (first | refine blk_drewN ?_ _ | refine blk_drew ?_ | refine blk_alloc ?_ _)); exact BK248.out) hb); have n4_ := Aside0.mk (below_step (by repeat (first | (with_reducible first | exact HB.out | apply below_alloc | apply pw_below_drewN | apply below_drew1 | refine below_set ?_ GE247.out | refine below_set ?_ GE248.out) | exact HB.out)) hb); clear HO251; clear BK247; clear BK248; clear HB; have HO251 := n0_; have HO254 := n1_; have BK247 := n2_; have BK248 := n3_; have HB := n4_; clear n0_ n1_ n2_ n3_ n4_; clear hb ho22; have hcz23_0 : w21.cell? ⟨gb248, 0, none⟩ = some (.string (⟨#[98]⟩ : ByteArray)) := (blk_cell BK248.out 0).trans rfl; have hcz23_1 : w21.cell? ⟨gb248, 1, none⟩ = some (.string (⟨#[118, 49, 46, 48, 46, 48]⟩ : ByteArray)) := (blk_cell BK248.out 1).trans rfl; have hfz23_0 := blk_frozen BK248.out 0; have hfz23_1 := blk_frozen BK248.out 1; have hcz24_0 : w21.cell? ⟨gb247, 0, none⟩ = some (.string (⟨#[97]⟩ : ByteArray)) := (blk_cell BK247.out 0).trans rfl; have hcz24_1 : w21.cell? ⟨gb247, 1, none⟩ = some (.string (⟨#[118, 49, 46, 48, 46, 48]⟩ : ByteArray)) := (blk_cell BK247.out 1).trans rfl; have hfz24_0 := blk_frozen BK247.out 0; have hfz24_1 := blk_frozen BK247.out 1) | ((with_reducible refine gate_dst (N := 20) rfl ?_); (try (refine gate_guard (by rfl) ?_; dsimp only)); refine Kd.R_lit k51 _ 51 ?hg (N := 20) ?hd (xs := ([(⟨(⟨(⟨#[98]⟩ : ByteArray), (⟨#[118, 49, 46, 48, 46, 48]⟩ : ByteArray)⟩ : S42), (⟨(⟨#[97]⟩ : ByteArray), (⟨#[118, 49, 46, 48, 46, 48]⟩ : ByteArray)⟩ : S42)⟩ : S51), (⟨(⟨(⟨#[]⟩ : ByteArray), (⟨#[]⟩ : ByteArray)⟩ : S42), (⟨(⟨#[98]⟩ : ByteArray), (⟨#[118, 49, 46, 48, 46, 48]⟩ : ByteArray)⟩ : S42)⟩ : S51)] : List (S51))) (inner := [.string (⟨#[98]⟩ : ByteArray), .string (⟨#[118, 49, 46, 48, 46, 48]⟩ : ByteArray), .string (⟨#[97]⟩ : ByteArray), .string (⟨#[118, 49, 46, 48, 46, 48]⟩ : ByteArray), .string (⟨#[]⟩ : ByteArray), .string (⟨#[]⟩ : ByteArray), .string (⟨#[98]⟩ : ByteArray), .string (⟨#[118, 49, 46, 48, 46, 48]⟩ : ByteArray)]) (ok := fun _ => True) (okp := fun _ => True) ?hr ?hp (fun _ hk => hk) trivial (Below.refl _ _) (Nat.le_refl _) (by simp) ?_; (case hd => rfl); (case hg => rfl); (case hr => first | (go_simp; done) | (go_simp; rfl)); (case hp => exact (Reps.c4 (show Kd.M k51 _ _ _ (⟨(⟨(⟨#[98]⟩ : ByteArray), (⟨#[118, 49, 46, 48, 46, 48]⟩ : ByteArray)⟩ : S42), (⟨(⟨#[97]⟩ : ByteArray), (⟨#[118, 49, 46, 48, 46, 48]⟩ : ByteArray)⟩ : S42)⟩ : S51) [.string (⟨#[98]⟩ : ByteArray), .string (⟨#[118, 49, 46, 48, 46, 48]⟩ : ByteArray), .string (⟨#[97]⟩ : ByteArray), .string (⟨#[118, 49, 46, 48, 46, 48]⟩ : ByteArray)] from (k51_mkM _ _ _ (⟨(⟨(⟨#[98]⟩ : ByteArray), (⟨#[118, 49, 46, 48, 46, 48]⟩ : ByteArray)⟩ : S42), (⟨(⟨#[97]⟩ : ByteArray), (⟨#[118, 49, 46, 48, 46, 48]⟩ : ByteArray)⟩ : S42)⟩ : S51) )) (Reps.c4 (show Kd.M k51 _ _ _ (⟨(⟨(⟨#[]⟩ : ByteArray), (⟨#[]⟩ : ByteArray)⟩ : S42), (⟨(⟨#[98]⟩ : ByteArray), (⟨#[118, 49, 46, 48, 46, 48]⟩ : ByteArray)⟩ : S42)⟩ : S51) [.string (⟨#[]⟩ : ByteArray), .string (⟨#[]⟩ : ByteArray), .string (⟨#[98]⟩ : ByteArray), .string (⟨#[118, 49, 46, 48, 46, 48]⟩ : ByteArray)] from (k51_mkM _ _ _ (⟨(⟨(⟨#[]⟩ : ByteArray), (⟨#[]⟩ : ByteArray)⟩ : S42), (⟨(⟨#[98]⟩ : ByteArray), (⟨#[118, 49, 46, 48, 46, 48]⟩ : ByteArray)⟩ : S42)⟩ : S51) )) (Reps.none _ _)))); intro v256 w25 ho26 hb hg_ hnew_; clear hg_ hnew_; (first | rw [← Ny255.out] at ho26 | (simp only [Int.reduceToNat] at ho26; rw [← Ny255.out] at ho26)); have n0_ := Aside0.mk (Kd.R_below (by (with_reducible repeat (first | apply Kd.R_alloc | apply Kd.R_drewN | apply Kd.R_drew)); exact HO251.out) hb); have n1_ := Aside0.mk (Kd.R_below (by (with_reducible repeat (first | apply Kd.R_alloc | apply Kd.R_drewN | apply Kd.R_drew)); exact HO254.out) hb); have n2_ := Aside0.mk (Kd.R_lower ho26 (below_size (by repeat (first | (with_reducible first | exact HB.out | apply below_alloc | apply pw_below_drewN | apply below_drew1 | refine below_set ?_ GE247.out | refine below_set ?_ GE248.out) | exact HB.out)))); have n3_ := Aside0.mk (blk_below (g := gb247) (o := .cells #[.string (⟨#[97]⟩ : ByteArray), .string (⟨#[118, 49, 46, 48, 46, 48]⟩ : ByteArray)] 42 (0, 0)) (by (with_reducible repeat (first | refine blk_drewN ?_ _ | refine blk_drew ?_ | refine blk_alloc ?_ _)); exact BK247.out) hb); have n4_ := Aside0.mk (blk_below (g := gb248) (o := .cells #[.string (⟨#[98]⟩ : ByteArray), .string (⟨#[118, 49, 46, 48, 46, 48]⟩ : ByteArray)] 42 (0, 0)) (by (with_reducible repeat (first | refine blk_drewN ?_ _ | refine blk_drew ?_ | refine blk_alloc ?_ _)); exact BK248.out) hb); have n5_ := Aside0.mk (below_step (by repeat (first | (with_reducible first | exact HB.out | apply below_alloc | apply pw_below_drewN | apply below_drew1 | refine below_set ?_ GE247.out | refine below_set ?_ GE248.out) | exact HB.out)) hb); clear HO251; clear HO254; clear BK247; clear BK248; clear HB; have HO251 := n0_; have HO254 := n1_; have HO257 := n2_; have BK247 := n3_; have BK248 := n4_; have HB := n5_; clear n0_ n1_ n2_ n3_ n4_ n5_; clear hb ho26; obtain ⟨Ao27, co27, eo27⟩ := Kd.R_slice HO251.out; subst eo27; obtain ⟨Ao28, co28, eo28⟩ := Kd.R_slice HO254.out; subst eo28; obtain ⟨Ao29, co29, eo29⟩ := Kd.R_slice HO257.out; subst eo29) | (go_at_call 8; (with_reducible refine (lack_Of.calls _ _ y249 _ _ y252 _ _ y255 t258 t259 _ ?side1 ?side2 ?side3 ?side4 ?side5 ?side6 A1.out).mono ?_); (case side1 => repeat (first | exact (Kd.R_reads' HO251.out).2.2 | (with_reducible refine Kd.C_alloc ?_ _) | (with_reducible refine Kd.C_drewN ?_ _) | (with_reducible refine Kd.C_drew ?_))); (case side2 => exact (Kd.R_reads' HO251.out).2.1); (case side3 => repeat (first | exact (Kd.R_reads' HO254.out).2.2 | (with_reducible refine Kd.C_alloc ?_ _) | (with_reducible refine Kd.C_drewN ?_ _) | (with_reducible refine Kd.C_drew ?_))); (case side4 => exact (Kd.R_reads' HO254.out).2.1); (case side5 => repeat (first | exact (Kd.R_reads' HO257.out).2.2 | (with_reducible refine Kd.C_alloc ?_ _) | (with_reducible refine Kd.C_drewN ?_ _) | (with_reducible refine Kd.C_drew ?_))); (case side6 => exact (Kd.R_reads' HO257.out).2.1); rintro e w30 ⟨v260, rfl, ho0, hb⟩; have n0_ := Aside0.mk (Kd.R_below (by (with_reducible repeat (first | apply Kd.R_alloc | apply Kd.R_drewN | apply Kd.R_drew)); exact HO251.out) hb); have n1_ := Aside0.mk (Kd.R_below (by (with_reducible repeat (first | apply Kd.R_alloc | apply Kd.R_drewN | apply Kd.R_drew)); exact HO254.out) hb); have n2_ := Aside0.mk (Kd.R_below (by (with_reducible repeat (first | apply Kd.R_alloc | apply Kd.R_drewN | apply Kd.R_drew)); exact HO257.out) hb); have n3_ := Aside0.mk (Kd.S_lower (Kd.S_newB (Kd.S_newB (Kd.S_new' (Kd.S_new' ho0 (Kd.R_lt (by (with_reducible repeat (first | apply Kd.R_alloc | apply Kd.R_drewN | apply Kd.R_drew)); exact HO251.out))) (Kd.R_lt (by (with_reducible repeat (first | apply Kd.R_alloc | apply Kd.R_drewN | apply Kd.R_drew)); exact HO254.out))) (g := gb247) (o := .cells #[.string (⟨#[97]⟩ : ByteArray), .string (⟨#[118, 49, 46, 48, 46, 48]⟩ : ByteArray)] 42 (0, 0)) (by (with_reducible repeat (first | refine blk_drewN ?_ _ | refine blk_drew ?_ | refine blk_alloc ?_ _)); exact BK247.out)) (g := gb248) (o := .cells #[.string (⟨#[98]⟩ : ByteArray), .string (⟨#[118, 49, 46, 48, 46, 48]⟩ : ByteArray)] 42 (0, 0)) (by (with_reducible repeat (first | refine blk_drewN ?_ _ | refine blk_drew ?_ | refine blk_alloc ?_ _)); exact BK248.out)) (below_size (by repeat (first | (with_reducible first | exact HB.out | apply below_alloc | apply pw_below_drewN | apply below_drew1 | refine below_set ?_ GE247.out | refine below_set ?_ GE248.out) | exact HB.out)))); have n4_ := Aside0.mk (blk_below (g := gb247) (o := .cells #[.string (⟨#[97]⟩ : ByteArray), .string (⟨#[118, 49, 46, 48, 46, 48]⟩ : ByteArray)] 42 (0, 0)) (by (with_reducible repeat (first | refine blk_drewN ?_ _ | refine blk_drew ?_ | refine blk_alloc ?_ _)); exact BK247.out) hb); have n5_ := Aside0.mk (blk_below (g := gb248) (o := .cells #[.string (⟨#[98]⟩ : ByteArray), .string (⟨#[118, 49, 46, 48, 46, 48]⟩ : ByteArray)] 42 (0, 0)) (by (with_reducible repeat (first | refine blk_drewN ?_ _ | refine blk_drew ?_ | refine blk_alloc ?_ _)); exact BK248.out) hb); have n6_ := Aside0.mk (below_step (by repeat (first | (with_reducible first | exact HB.out | apply below_alloc | apply pw_below_drewN | apply below_drew1 | refine below_set ?_ GE247.out | refine below_set ?_ GE248.out) | exact HB.out)) hb); clear HO251; clear HO254; clear HO257; clear BK247; clear BK248; clear HB; have HO251 := n0_; have HO254 := n1_; have HO257 := n2_; have HO261 := n3_; have BK247 := n4_; have BK248 := n5_; have HB := n6_; clear n0_ n1_ n2_ n3_ n4_ n5_ n6_; (try clear hb); (try clear hb2); (try clear hk); (try clear hi); (try clear ho0); have hcz31_0 : w30.cell? ⟨gb247, 0, none⟩ = some (.string (⟨#[97]⟩ : ByteArray)) := (blk_cell BK247.out 0).trans rfl; have hcz31_1 : w30.cell? ⟨gb247, 1, none⟩ = some (.string (⟨#[118, 49, 46, 48, 46, 48]⟩ : ByteArray)) := (blk_cell BK247.out 1).trans rfl; have hfz31_0 := blk_frozen BK247.out 0; have hfz31_1 := blk_frozen BK247.out 1) | ((with_reducible refine gate_dst (N := 26) rfl ?_); (try (refine gate_guard (by rfl) ?_; dsimp only)); refine Kd.R_lit k42 _ 42 ?hg (N := 26) ?hd (xs := ([(⟨(⟨#[97]⟩ : ByteArray), (⟨#[118, 49, 46, 48, 46, 48]⟩ : ByteArray)⟩ : S42)] : List (S42))) (inner := [.string (⟨#[97]⟩ : ByteArray), .string (⟨#[118, 49, 46, 48, 46, 48]⟩ : ByteArray)]) (ok := fun _ => True) (okp := fun _ => True) ?hr ?hp (fun _ hk => hk) trivial (Below.refl _ _) (Nat.le_refl _) (by simp) ?_; (case hd => rfl); (case hg => rfl); (case hr => first | (go_simp; done) | (go_simp; rfl)); (case hp => exact (Reps.c2 (show Kd.M k42 _ _ _ (⟨(⟨#[97]⟩ : ByteArray), (⟨#[118, 49, 46, 48, 46, 48]⟩ : ByteArray)⟩ : S42) [.string (⟨#[97]⟩ : ByteArray), .string (⟨#[118, 49, 46, 48, 46, 48]⟩ : ByteArray)] from (k42_mkM _ _ _ (⟨(⟨#[97]⟩ : ByteArray), (⟨#[118, 49, 46, 48, 46, 48]⟩ : ByteArray)⟩ : S42) )) (Reps.none _ _))); intro v263 w32 ho33 hb hg_ hnew_; clear hg_ hnew_; (first | rw [← Ny262.out] at ho33 | (simp only [Int.reduceToNat] at ho33; rw [← Ny262.out] at ho33)); have n0_ := Aside0.mk (Kd.R_elder' (by (with_reducible repeat (first | apply Kd.R_alloc | apply Kd.R_drewN | apply Kd.R_drew)); exact HO251.out) (Kd.R_base ho33) hb); have n1_ := Aside0.mk (Kd.R_elder' (by (with_reducible repeat (first | apply Kd.R_alloc | apply Kd.R_drewN | apply Kd.R_drew)); exact HO254.out) (Kd.R_base ho33) hb); have n2_ := Aside0.mk (Kd.R_below (by (with_reducible repeat (first | apply Kd.R_alloc | apply Kd.R_drewN | apply Kd.R_drew)); exact HO257.out) hb); have n3_ := Aside0.mk (Kd.S_elder' (by (with_reducible repeat (first | apply Kd.S_alloc | apply Kd.S_drewN | apply Kd.S_drew)); exact HO261.out) (Kd.R_base ho33) hb); have n4_ := Aside0.mk (Kd.R_lower (Kd.R_newB (Kd.R_newB (Kd.R_new' (Kd.R_new' ho33 (Kd.R_lt (by (with_reducible repeat (first | apply Kd.R_alloc | apply Kd.R_drewN | apply Kd.R_drew)); exact HO251.out))) (Kd.R_lt (by (with_reducible repeat (first | apply Kd.R_alloc | apply Kd.R_drewN | apply Kd.R_drew)); exact HO254.out))) (g := gb247) (o := .cells #[.string (⟨#[97]⟩ : ByteArray), .string (⟨#[118, 49, 46, 48, 46, 48]⟩ : ByteArray)] 42 (0, 0)) (by (with_reducible repeat (first | refine blk_drewN ?_ _ | refine blk_drew ?_ | refine blk_alloc ?_ _)); exact BK247.out)) (g := gb248) (o := .cells #[.string (⟨#[98]⟩ : ByteArray), .string (⟨#[118, 49, 46, 48, 46, 48]⟩ : ByteArray)] 42 (0, 0)) (by (with_reducible repeat (first | refine blk_drewN ?_ _ | refine blk_drew ?_ | refine blk_alloc ?_ _)); exact BK248.out)) (below_size (by repeat (first | (with_reducible first | exact HB.out | apply below_alloc | apply pw_below_drewN | apply below_drew1 | refine below_set ?_ GE247.out | refine below_set ?_ GE248.out) | exact HB.out)))); have n5_ := Aside0.mk (blk_below (g := gb247) (o := .cells #[.string (⟨#[97]⟩ : ByteArray), .string (⟨#[118, 49, 46, 48, 46, 48]⟩ : ByteArray)] 42 (0, 0)) (by (with_reducible repeat (first | refine blk_drewN ?_ _ | refine blk_drew ?_ | refine blk_alloc ?_ _)); exact BK247.out) hb); have n6_ := Aside0.mk (blk_below (g := gb248) (o := .cells #[.string (⟨#[98]⟩ : ByteArray), .string (⟨#[118, 49, 46, 48, 46, 48]⟩ : ByteArray)] 42 (0, 0)) (by (with_reducible repeat (first | refine blk_drewN ?_ _ | refine blk_drew ?_ | refine blk_alloc ?_ _)); exact BK248.out) hb); have n7_ := Aside0.mk (below_step (by repeat (first | (with_reducible first | exact HB.out | apply below_alloc | apply pw_below_drewN | apply below_drew1 | refine below_set ?_ GE247.out | refine below_set ?_ GE248.out) | exact HB.out)) hb); clear HO251; clear HO254; clear HO257; clear HO261; clear BK247; clear BK248; clear HB; have HO251 := n0_; have HO254 := n1_; have HO257 := n2_; have HO261 := n3_; have HO264 := n4_; have BK247 := n5_; have BK248 := n6_; have HB := n7_; clear n0_ n1_ n2_ n3_ n4_ n5_ n6_ n7_; clear hb ho33; have hcz34_0 : w32.cell? ⟨gb247, 0, none⟩ = some (.string (⟨#[97]⟩ : ByteArray)) := (blk_cell BK247.out 0).trans rfl; have hcz34_1 : w32.cell? ⟨gb247, 1, none⟩ = some (.string (⟨#[118, 49, 46, 48, 46, 48]⟩ : ByteArray)) := (blk_cell BK247.out 1).trans rfl; have hfz34_0 := blk_frozen BK247.out 0; have hfz34_1 := blk_frozen BK247.out 1) | ((with_reducible refine gate_dst (N := 28) rfl ?_); (try (refine gate_guard (by rfl) ?_; dsimp only)); refine Kd.R_lit k42 _ 42 ?hg (N := 28) ?hd (xs := ([(⟨(⟨#[97]⟩ : ByteArray), (⟨#[118, 49, 46, 48, 46, 48]⟩ : ByteArray)⟩ : S42)] : List (S42))) (inner := [.string (⟨#[97]⟩ : ByteArray), .string (⟨#[118, 49, 46, 48, 46, 48]⟩ : ByteArray)]) (ok := fun _ => True) (okp := fun _ => True) ?hr ?hp (fun _ hk => hk) trivial (Below.refl _ _) (Nat.le_refl _) (by simp) ?_; (case hd => rfl); (case hg => rfl); (case hr => first | (go_simp; done) | (go_simp; rfl)); (case hp => exact (Reps.c2 (show Kd.M k42 _ _ _ (⟨(⟨#[97]⟩ : ByteArray), (⟨#[118, 49, 46, 48, 46, 48]⟩ : ByteArray)⟩ : S42) [.string (⟨#[97]⟩ : ByteArray), .string (⟨#[118, 49, 46, 48, 46, 48]⟩ : ByteArray)] from (k42_mkM _ _ _ (⟨(⟨#[97]⟩ : ByteArray), (⟨#[118, 49, 46, 48, 46, 48]⟩ : ByteArray)⟩ : S42) )) (Reps.none _ _))); intro v266 w35 ho36 hb hg_ hnew_; clear hg_ hnew_; (first | rw [← Ny265.out] at ho36 | (simp only [Int.reduceToNat] at ho36; rw [← Ny265.out] at ho36)); have n0_ := Aside0.mk (Kd.R_elder' (by (with_reducible repeat (first | apply Kd.R_alloc | apply Kd.R_drewN | apply Kd.R_drew)); exact HO251.out) (Kd.R_base ho36) hb); have n1_ := Aside0.mk (Kd.R_elder' (by (with_reducible repeat (first | apply Kd.R_alloc | apply Kd.R_drewN | apply Kd.R_drew)); exact HO254.out) (Kd.R_base ho36) hb); have n2_ := Aside0.mk (Kd.R_below (by (with_reducible repeat (first | apply Kd.R_alloc | apply Kd.R_drewN | apply Kd.R_drew)); exact HO257.out) hb); have n3_ := Aside0.mk (Kd.S_elder' (by (with_reducible repeat (first | apply Kd.S_alloc | apply Kd.S_drewN | apply Kd.S_drew)); exact HO261.out) (Kd.R_base ho36) hb); have n4_ := Aside0.mk (Kd.R_elder' (by (with_reducible repeat (first | apply Kd.R_alloc | apply Kd.R_drewN | apply Kd.R_drew)); exact HO264.out) (Kd.R_base ho36) hb); have n5_ := Aside0.mk (Kd.R_lower (Kd.R_newB (Kd.R_newB (Kd.R_new' (Kd.R_new' (Kd.R_new' ho36 (Kd.R_lt (by (with_reducible repeat (first | apply Kd.R_alloc | apply Kd.R_drewN | apply Kd.R_drew)); exact HO251.out))) (Kd.R_lt (by (with_reducible repeat (first | apply Kd.R_alloc | apply Kd.R_drewN | apply Kd.R_drew)); exact HO254.out))) (Kd.R_lt (by (with_reducible repeat (first | apply Kd.R_alloc | apply Kd.R_drewN | apply Kd.R_drew)); exact HO264.out))) (g := gb247) (o := .cells #[.string (⟨#[97]⟩ : ByteArray), .string (⟨#[118, 49, 46, 48, 46, 48]⟩ : ByteArray)] 42 (0, 0)) (by (with_reducible repeat (first | refine blk_drewN ?_ _ | refine blk_drew ?_ | refine blk_alloc ?_ _)); exact BK247.out)) (g := gb248) (o := .cells #[.string (⟨#[98]⟩ : ByteArray), .string (⟨#[118, 49, 46, 48, 46, 48]⟩ : ByteArray)] 42 (0, 0)) (by (with_reducible repeat (first | refine blk_drewN ?_ _ | refine blk_drew ?_ | refine blk_alloc ?_ _)); exact BK248.out)) (below_size (by repeat (first | (with_reducible first | exact HB.out | apply below_alloc | apply pw_below_drewN | apply below_drew1 | refine below_set ?_ GE247.out | refine below_set ?_ GE248.out) | exact HB.out)))); have n6_ := Aside0.mk (blk_below (g := gb247) (o := .cells #[.string (⟨#[97]⟩ : ByteArray), .string (⟨#[118, 49, 46, 48, 46, 48]⟩ : ByteArray)] 42 (0, 0)) (by (with_reducible repeat (first | refine blk_drewN ?_ _ | refine blk_drew ?_ | refine blk_alloc ?_ _)); exact BK247.out) hb); have n7_ := Aside0.mk (blk_below (g := gb248) (o := .cells #[.string (⟨#[98]⟩ : ByteArray), .string (⟨#[118, 49, 46, 48, 46, 48]⟩ : ByteArray)] 42 (0, 0)) (by (with_reducible repeat (first | refine blk_drewN ?_ _ | refine blk_drew ?_ | refine blk_alloc ?_ _)); exact BK248.out) hb); have n8_ := Aside0.mk (below_step (by repeat (first | (with_reducible first | exact HB.out | apply below_alloc | apply pw_below_drewN | apply below_drew1 | refine below_set ?_ GE247.out | refine below_set ?_ GE248.out) | exact HB.out)) hb); clear HO251; clear HO254; clear HO257; clear HO261; clear HO264; clear BK247; clear BK248; clear HB; have HO251 := n0_; have HO254 := n1_; have HO257 := n2_; have HO261 := n3_; have HO264 := n4_; have HO267 := n5_; have BK247 := n6_; have BK248 := n7_; have HB := n8_; clear n0_ n1_ n2_ n3_ n4_ n5_ n6_ n7_ n8_; clear hb ho36; obtain ⟨Ao37, co37, eo37⟩ := Kd.R_slice HO264.out; subst eo37; obtain ⟨Ao38, co38, eo38⟩ := Kd.R_slice HO267.out; subst eo38) | (go_at_call 7; (with_reducible refine (lack_Missing.calls _ _ y262 _ _ y265 t268 t269 _ ?side1 ?side2 ?side3 ?side4 A2.out).mono ?_); (case side1 => repeat (first | exact (Kd.R_reads' HO264.out).2.2 | (with_reducible refine Kd.C_alloc ?_ _) | (with_reducible refine Kd.C_drewN ?_ _) | (with_reducible refine Kd.C_drew ?_))); (case side2 => exact (Kd.R_reads' HO264.out).2.1); (case side3 => repeat (first | exact (Kd.R_reads' HO267.out).2.2 | (with_reducible refine Kd.C_alloc ?_ _) | (with_reducible refine Kd.C_drewN ?_ _) | (with_reducible refine Kd.C_drew ?_))); (case side4 => exact (Kd.R_reads' HO267.out).2.1); rintro e w39 ⟨v270, rfl, ho0, hb⟩; have n0_ := Aside0.mk (Kd.R_elder' (by (with_reducible repeat (first | apply Kd.R_alloc | apply Kd.R_drewN | apply Kd.R_drew)); exact HO251.out) (Kd.R_base ho0) hb); have n1_ := Aside0.mk (Kd.R_elder' (by (with_reducible repeat (first | apply Kd.R_alloc | apply Kd.R_drewN | apply Kd.R_drew)); exact HO254.out) (Kd.R_base ho0) hb); have n2_ := Aside0.mk (Kd.R_below (by (with_reducible repeat (first | apply Kd.R_alloc | apply Kd.R_drewN | apply Kd.R_drew)); exact HO257.out) hb); have n3_ := Aside0.mk (Kd.S_elder' (by (with_reducible repeat (first | apply Kd.S_alloc | apply Kd.S_drewN | apply Kd.S_drew)); exact HO261.out) (Kd.R_base ho0) hb); have n4_ := Aside0.mk (Kd.R_elder' (by (with_reducible repeat (first | apply Kd.R_alloc | apply Kd.R_drewN | apply Kd.R_drew)); exact HO264.out) (Kd.R_base ho0) hb); have n5_ := Aside0.mk (Kd.R_elder' (by (with_reducible repeat (first | apply Kd.R_alloc | apply Kd.R_drewN | apply Kd.R_drew)); exact HO267.out) (Kd.R_base ho0) hb); have n6_ := Aside0.mk (Kd.R_lower (Kd.R_newB (Kd.R_newB (Kd.R_new' (Kd.R_new' (Kd.R_new' (Kd.R_new' ho0 (Kd.R_lt (by (with_reducible repeat (first | apply Kd.R_alloc | apply Kd.R_drewN | apply Kd.R_drew)); exact HO251.out))) (Kd.R_lt (by (with_reducible repeat (first | apply Kd.R_alloc | apply Kd.R_drewN | apply Kd.R_drew)); exact HO254.out))) (Kd.R_lt (by (with_reducible repeat (first | apply Kd.R_alloc | apply Kd.R_drewN | apply Kd.R_drew)); exact HO264.out))) (Kd.R_lt (by (with_reducible repeat (first | apply Kd.R_alloc | apply Kd.R_drewN | apply Kd.R_drew)); exact HO267.out))) (g := gb247) (o := .cells #[.string (⟨#[97]⟩ : ByteArray), .string (⟨#[118, 49, 46, 48, 46, 48]⟩ : ByteArray)] 42 (0, 0)) (by (with_reducible repeat (first | refine blk_drewN ?_ _ | refine blk_drew ?_ | refine blk_alloc ?_ _)); exact BK247.out)) (g := gb248) (o := .cells #[.string (⟨#[98]⟩ : ByteArray), .string (⟨#[118, 49, 46, 48, 46, 48]⟩ : ByteArray)] 42 (0, 0)) (by (with_reducible repeat (first | refine blk_drewN ?_ _ | refine blk_drew ?_ | refine blk_alloc ?_ _)); exact BK248.out)) (below_size (by repeat (first | (with_reducible first | exact HB.out | apply below_alloc | apply pw_below_drewN | apply below_drew1 | refine below_set ?_ GE247.out | refine below_set ?_ GE248.out) | exact HB.out)))); have n7_ := Aside0.mk (blk_below (g := gb247) (o := .cells #[.string (⟨#[97]⟩ : ByteArray), .string (⟨#[118, 49, 46, 48, 46, 48]⟩ : ByteArray)] 42 (0, 0)) (by (with_reducible repeat (first | refine blk_drewN ?_ _ | refine blk_drew ?_ | refine blk_alloc ?_ _)); exact BK247.out) hb); have n8_ := Aside0.mk (blk_below (g := gb248) (o := .cells #[.string (⟨#[98]⟩ : ByteArray), .string (⟨#[118, 49, 46, 48, 46, 48]⟩ : ByteArray)] 42 (0, 0)) (by (with_reducible repeat (first | refine blk_drewN ?_ _ | refine blk_drew ?_ | refine blk_alloc ?_ _)); exact BK248.out) hb); have n9_ := Aside0.mk (below_step (by repeat (first | (with_reducible first | exact HB.out | apply below_alloc | apply pw_below_drewN | apply below_drew1 | refine below_set ?_ GE247.out | refine below_set ?_ GE248.out) | exact HB.out)) hb); clear HO251; clear HO254; clear HO257; clear HO261; clear HO264; clear HO267; clear BK247; clear BK248; clear HB; have HO251 := n0_; have HO254 := n1_; have HO257 := n2_; have HO261 := n3_; have HO264 := n4_; have HO267 := n5_; have HO271 := n6_; have BK247 := n7_; have BK248 := n8_; have HB := n9_; clear n0_ n1_ n2_ n3_ n4_ n5_ n6_ n7_ n8_ n9_; (try clear hb); (try clear hb2); (try clear hk); (try clear hi); (try clear ho0); obtain ⟨Ao40, co40, eo40⟩ := Kd.S_slice HO261.out; subst eo40; have p272 : 0 ≤ (0 : Int) := (by omega); have q272 : 0 < (t258.length : Int) := of_decide_eq_true (by first | (with_reducible assumption) | assumption); obtain ⟨ad272, A272_2, c272_2, e272, hx272_0, hx272_1, hx272_2, hx272_3, hl272_2, hi272_2⟩ := at_T55 (Kd.S_reads' HO261.out).2.2 0 p272 q272; (try rw [← Nbq9.out] at hx272_3); cases e272; obtain ⟨ce272, hce272, hMe272, hcc272⟩ := Kd.S_get HO261.out z55 0 p272 (by first | exact q272 | exact of_decide_eq_true (by first | (with_reducible assumption) | assumption) | (have e_ := (Kd.S_reads' HO261.out).1; omega)); obtain ⟨ve272_2, rfl, ge272_2⟩ := k55_openM hMe272; have hv272_2 := hcc272 2 _ rfl; rw [add_field _ _ 2 (by omega)] at hv272_2; replace hv272_2 := Option.some.inj (hv272_2.symm.trans hx272_2); rw [hv272_2] at ge272_2; have HL272_2 := Aside0.mk (show Kd.R k42 42 _ _ _ _ ((rd_T55 t258 0).f1) from ge272_2); clear hv272_2 ge272_2; clear hcc272 hce272; have qi272 : (0 < t258.length) = True := eq_true (by omega); (try rw [show ((0 : Int)).toNat = 0 from rfl] at hx272_0); (try rw [show 0 * 4 = 0 from rfl] at hx272_0); (try rw [Addr.add_zero'] at hx272_0); (try rw [show ((0 : Int)).toNat = 0 from rfl] at hx272_1); (try rw [show 0 * 4 = 0 from rfl] at hx272_1); (try rw [Addr.add_zero'] at hx272_1); (try rw [show ((0 : Int)).toNat = 0 from rfl] at hx272_2); (try rw [show 0 * 4 = 0 from rfl] at hx272_2); (try rw [Addr.add_zero'] at hx272_2); (try rw [show ((0 : Int)).toNat = 0 from rfl] at hx272_3); (try rw [show 0 * 4 = 0 from rfl] at hx272_3); (try rw [Addr.add_zero'] at hx272_3); have HR272_2 := Aside0.mk hi272_2; have HC272_2 := Aside0.mk hl272_2; clear hi272_2 hl272_2; replace p272 := eq_true p272; replace q272 := eq_true q272; have hcz41_0 : w39.cell? ⟨gb247, 0, none⟩ = some (.string (⟨#[97]⟩ : ByteArray)) := (blk_cell BK247.out 0).trans rfl; have hcz41_1 : w39.cell? ⟨gb247, 1, none⟩ = some (.string (⟨#[118, 49, 46, 48, 46, 48]⟩ : ByteArray)) := (blk_cell BK247.out 1).trans rfl; have hfz41_0 := blk_frozen BK247.out 0; have hfz41_1 := blk_frozen BK247.out 1; have p273 : 0 ≤ (0 : Int) := (by omega); have q273 : 0 < (t258.length : Int) := of_decide_eq_true (by first | (with_reducible assumption) | assumption); obtain ⟨ad273, A273_2, c273_2, e273, hx273_0, hx273_1, hx273_2, hx273_3, hl273_2, hi273_2⟩ := at_T55 (Kd.S_reads' HO261.out).2.2 0 p273 q273; (try rw [← Nbq9.out] at hx273_3); obtain rfl : ad272 = ad273 := (by injection e273); obtain ⟨ce273, hce273, hMe273, hcc273⟩ := Kd.S_get HO261.out z55 0 p273 (by first | exact q273 | exact of_decide_eq_true (by first | (with_reducible assumption) | assumption) | (have e_ := (Kd.S_reads' HO261.out).1; omega)); obtain ⟨ve273_2, rfl, ge273_2⟩ := k55_openM hMe273; have hv273_2 := hcc273 2 _ rfl; rw [add_field _ _ 2 (by omega)] at hv273_2; replace hv273_2 := Option.some.inj (hv273_2.symm.trans hx273_2); rw [hv273_2] at ge273_2; have HL273_2 := Aside0.mk (show Kd.R k42 42 _ _ _ _ ((rd_T55 t258 0).f1) from ge273_2); clear hv273_2 ge273_2; clear hcc273 hce273; have qi273 : (0 < t258.length) = True := eq_true (by omega); (try rw [show ((0 : Int)).toNat = 0 from rfl] at hx273_0); (try rw [show 0 * 4 = 0 from rfl] at hx273_0); (try rw [Addr.add_zero'] at hx273_0); (try rw [show ((0 : Int)).toNat = 0 from rfl] at hx273_1); (try rw [show 0 * 4 = 0 from rfl] at hx273_1); (try rw [Addr.add_zero'] at hx273_1); (try rw [show ((0 : Int)).toNat = 0 from rfl] at hx273_2); (try rw [show 0 * 4 = 0 from rfl] at hx273_2); (try rw [Addr.add_zero'] at hx273_2); (try rw [show ((0 : Int)).toNat = 0 from rfl] at hx273_3); (try rw [show 0 * 4 = 0 from rfl] at hx273_3); (try rw [Addr.add_zero'] at hx273_3); have HR273_2 := Aside0.mk hi273_2; have HC273_2 := Aside0.mk hl273_2; clear hi273_2 hl273_2; replace p273 := eq_true p273; replace q273 := eq_true q273; have ea_ := Option.some.inj (hx272_2.symm.trans hx273_2); injection ea_ with ea_ en_ ec_; subst ea_; subst ec_; clear en_; have p274 : 0 ≤ (0 : Int) := (by omega); have q274 : 0 < (t258.length : Int) := of_decide_eq_true (by first | (with_reducible assumption) | assumption); obtain ⟨ad274, A274_2, c274_2, e274, hx274_0, hx274_1, hx274_2, hx274_3, hl274_2, hi274_2⟩ := at_T55 (Kd.S_reads' HO261.out).2.2 0 p274 q274; (try rw [← Nbq9.out] at hx274_3); obtain rfl : ad272 = ad274 := (by injection e274); obtain ⟨ce274, hce274, hMe274, hcc274⟩ := Kd.S_get HO261.out z55 0 p274 (by first | exact q274 | exact of_decide_eq_true (by first | (with_reducible assumption) | assumption) | (have e_ := (Kd.S_reads' HO261.out).1; omega)); obtain ⟨ve274_2, rfl, ge274_2⟩ := k55_openM hMe274; have hv274_2 := hcc274 2 _ rfl; rw [add_field _ _ 2 (by omega)] at hv274_2; replace hv274_2 := Option.some.inj (hv274_2.symm.trans hx274_2); rw [hv274_2] at ge274_2; have HL274_2 := Aside0.mk (show Kd.R k42 42 _ _ _ _ ((rd_T55 t258 0).f1) from ge274_2); clear hv274_2 ge274_2; clear hcc274 hce274; have qi274 : (0 < t258.length) = True := eq_true (by omega); (try rw [show ((0 : Int)).toNat = 0 from rfl] at hx274_0); (try rw [show 0 * 4 = 0 from rfl] at hx274_0); (try rw [Addr.add_zero'] at hx274_0); (try rw [show ((0 : Int)).toNat = 0 from rfl] at hx274_1); (try rw [show 0 * 4 = 0 from rfl] at hx274_1); (try rw [Addr.add_zero'] at hx274_1); (try rw [show ((0 : Int)).toNat = 0 from rfl] at hx274_2); (try rw [show 0 * 4 = 0 from rfl] at hx274_2); (try rw [Addr.add_zero'] at hx274_2); (try rw [show ((0 : Int)).toNat = 0 from rfl] at hx274_3); (try rw [show 0 * 4 = 0 from rfl] at hx274_3); (try rw [Addr.add_zero'] at hx274_3); have HR274_2 := Aside0.mk hi274_2; have HC274_2 := Aside0.mk hl274_2; clear hi274_2 hl274_2; replace p274 := eq_true p274; replace q274 := eq_true q274; have ea_ := Option.some.inj (hx272_2.symm.trans hx274_2); injection ea_ with ea_ en_ ec_; subst ea_; subst ec_; clear en_; have p275 : 0 ≤ (0 : Int) := (by omega); have q275 : 0 < (((rd_T55 t258 0).f1).length : Int) := of_decide_eq_true (by first | (with_reducible assumption) | assumption); obtain ⟨ad275, e275, hx275_0, hx275_1⟩ := at_T42 (by repeat (first | (with_reducible exact HR274_2.out) | (with_reducible refine Kd.C_alloc ?_ _) | (with_reducible refine Kd.C_drewN ?_ _) | (with_reducible refine Kd.C_drew ?_) | exact HR274_2.out)) 0 p275 q275; cases e275; have qi275 : (0 < ((rd_T55 t258 0).f1).length) = True := eq_true (by omega); (try rw [show ((0 : Int)).toNat = 0 from rfl] at hx275_0); (try rw [show 0 * 2 = 0 from rfl] at hx275_0); (try rw [Addr.add_zero'] at hx275_0); (try rw [show ((0 : Int)).toNat = 0 from rfl] at hx275_1); (try rw [show 0 * 2 = 0 from rfl] at hx275_1); (try rw [Addr.add_zero'] at hx275_1); replace p275 := eq_true p275; replace q275 := eq_true q275; have hcz42_0 : w39.cell? ⟨gb248, 0, none⟩ = some (.string (⟨#[98]⟩ : ByteArray)) := (blk_cell BK248.out 0).trans rfl; have hcz42_1 : w39.cell? ⟨gb248, 1, none⟩ = some (.string (⟨#[118, 49, 46, 48, 46, 48]⟩ : ByteArray)) := (blk_cell BK248.out 1).trans rfl; have hfz42_0 := blk_frozen BK248.out 0; have hfz42_1 := blk_frozen BK248.out 1; have p276 : 0 ≤ (0 : Int) := (by omega); have q276 : 0 < (t258.length : Int) := of_decide_eq_true (by first | (with_reducible assumption) | assumption); obtain ⟨ad276, A276_2, c276_2, e276, hx276_0, hx276_1, hx276_2, hx276_3, hl276_2, hi276_2⟩ := at_T55 (Kd.S_reads' HO261.out).2.2 0 p276 q276; (try rw [← Nbq9.out] at hx276_3); obtain rfl : ad272 = ad276 := (by injection e276); obtain ⟨ce276, hce276, hMe276, hcc276⟩ := Kd.S_get HO261.out z55 0 p276 (by first | exact q276 | exact of_decide_eq_true (by first | (with_reducible assumption) | assumption) | (have e_ := (Kd.S_reads' HO261.out).1; omega)); obtain ⟨ve276_2, rfl, ge276_2⟩ := k55_openM hMe276; have hv276_2 := hcc276 2 _ rfl; rw [add_field _ _ 2 (by omega)] at hv276_2; replace hv276_2 := Option.some.inj (hv276_2.symm.trans hx276_2); rw [hv276_2] at ge276_2; have HL276_2 := Aside0.mk (show Kd.R k42 42 _ _ _ _ ((rd_T55 t258 0).f1) from ge276_2); clear hv276_2 ge276_2; clear hcc276 hce276; have qi276 : (0 < t258.length) = True := eq_true (by omega); (try rw [show ((0 : Int)).toNat = 0 from rfl] at hx276_0); (try rw [show 0 * 4 = 0 from rfl] at hx276_0); (try rw [Addr.add_zero'] at hx276_0); (try rw [show ((0 : Int)).toNat = 0 from rfl] at hx276_1); (try rw [show 0 * 4 = 0 from rfl] at hx276_1); (try rw [Addr.add_zero'] at hx276_1); (try rw [show ((0 : Int)).toNat = 0 from rfl] at hx276_2); (try rw [show 0 * 4 = 0 from rfl] at hx276_2); (try rw [Addr.add_zero'] at hx276_2); (try rw [show ((0 : Int)).toNat = 0 from rfl] at hx276_3); (try rw [show 0 * 4 = 0 from rfl] at hx276_3); (try rw [Addr.add_zero'] at hx276_3); have HR276_2 := Aside0.mk hi276_2; have HC276_2 := Aside0.mk hl276_2; clear hi276_2 hl276_2; replace p276 := eq_true p276; replace q276 := eq_true q276; have ea_ := Option.some.inj (hx272_2.symm.trans hx276_2); injection ea_ with ea_ en_ ec_; subst ea_; subst ec_; clear en_; obtain ⟨Ao43, co43, eo43⟩ := Kd.R_slice HO271.out; subst eo43))
          repeat (go_quiet (fail); try go_wp2)
          go_ret
          exact ⟨by first | rfl | (simp [errW_none, errW_some] <;> rfl) | (simp [*, errW_none, errW_some] <;> rfl), by repeat (first | (with_reducible first | exact HB.out | apply below_alloc | apply pw_below_drewN | apply below_drew1 | refine below_set ?_ GE247.out | refine below_set ?_ GE248.out) | exact HB.out)⟩
         ·rw [if_neg c12] at H
          have c12b0 : ((t268.length : Int) == 0) = false := beq_eq_false_iff_ne.mpr c12
          have c12b1 : ((t268.length : Int) != 0) = true := bne_iff_ne.mpr c12
          have c12b2 : ¬ (t268 = []) := fun h_ => c12 (by rw [h_]; rfl)
          exact absurd ((Option.some.inj H).trans HR_.out) (by decide)
        ·rw [if_neg c11] at H
         have c11b0 : (t259 == 0) = false := beq_eq_false_iff_ne.mpr c11
         have c11b1 : (t259 != 0) = true := bne_iff_ne.mpr c11
         exact absurd ((Option.some.inj H).trans HR_.out) (by decide)
      ·rw [if_neg c8] at H
       have c8b0 : ((((rd_T42 ((rd_T55 t258 0).f1) 0).f0).toList) == ([98] : List UInt8) && ((((rd_T42 ((rd_T55 t258 0).f1) 0).f1).toList) == ([118, 49, 46, 48, 46, 48] : List UInt8))) = false := by simpa using c8
       (try (have c8b1 : decide ((((rd_T42 ((rd_T55 t258 0).f1) 0).f0).toList) = ([98] : List UInt8) && ((((rd_T42 ((rd_T55 t258 0).f1) 0).f1).toList) == ([118, 49, 46, 48, 46, 48] : List UInt8))) = false := by simpa using c8))
       (try (have c8b2 : ((((rd_T42 ((rd_T55 t258 0).f1) 0).f0).toList) == ([98] : List UInt8) && ((((rd_T42 ((rd_T55 t258 0).f1) 0).f1).toList) == ([118, 49, 46, 48, 46, 48] : List UInt8))) = false := by simpa using c8))
       (try (have c8b3 : ¬ ((((rd_T42 ((rd_T55 t258 0).f1) 0).f0).toList) = ([98] : List UInt8) && ((((rd_T42 ((rd_T55 t258 0).f1) 0).f1).toList) == ([118, 49, 46, 48, 46, 48] : List UInt8))) := by simpa using c8))
       clear c8
       exact absurd ((Option.some.inj H).trans HR_.out) (by decide)
     ·rw [if_neg c7] at H
      exact absurd H (by simp)
    ·rw [if_neg c6] at H
     have c6b0 : ((((rd_T55 t258 0).f1).length : Int) == 1) = false := beq_eq_false_iff_ne.mpr c6
     have c6b1 : ((((rd_T55 t258 0).f1).length : Int) != 1) = true := bne_iff_ne.mpr c6
     exact absurd ((Option.some.inj H).trans HR_.out) (by decide)
   ·rw [if_neg c5] at H
    have c5b0 : ((((rd_T55 t258 0).f0.f0).toList) == ([97] : List UInt8) && ((((rd_T55 t258 0).f0.f1).toList) == ([118, 49, 46, 48, 46, 48] : List UInt8))) = false := by simpa using c5
    (try (have c5b1 : decide ((((rd_T55 t258 0).f0.f0).toList) = ([97] : List UInt8) && ((((rd_T55 t258 0).f0.f1).toList) == ([118, 49, 46, 48, 46, 48] : List UInt8))) = false := by simpa using c5))
    (try (have c5b2 : ((((rd_T55 t258 0).f0.f0).toList) == ([97] : List UInt8) && ((((rd_T55 t258 0).f0.f1).toList) == ([118, 49, 46, 48, 46, 48] : List UInt8))) = false := by simpa using c5))
    (try (have c5b3 : ¬ ((((rd_T55 t258 0).f0.f0).toList) = ([97] : List UInt8) && ((((rd_T55 t258 0).f0.f1).toList) == ([118, 49, 46, 48, 46, 48] : List UInt8))) := by simpa using c5))
    clear c5
    exact absurd ((Option.some.inj H).trans HR_.out) (by decide)
  ·rw [if_neg c4] at H
   exact absurd H (by simp)
 ·rw [if_neg c3] at H
  have c3b0 : ((t258.length : Int) == 1) = false := beq_eq_false_iff_ne.mpr c3
  have c3b1 : ((t258.length : Int) != 1) = true := bne_iff_ne.mpr c3
  exact absurd ((Option.some.inj H).trans HR_.out) (by decide)
end Go.Proofs.YtffcbfclpfchnaaGreatDoor.Q
end

section
namespace Go.Proofs.YtffcbfclpfchnaaGreatDoor.Q
open Go.Proofs.YtffcbfclpfchnaaGreatDoor.QB.D
open Go Go.RowKit Go.Lib Go.Proofs.YtffcbfclpfchnaaGreatDoorW.PrintWords Go.Proofs.YtffcbfclpfchnaaGreatDoorW.PrintLast Go.Proofs.YtffcbfclpfchnaaGreatDoorW.PrintMore Gw
set_option linter.unusedVariables false
set_option linter.unusedSimpArgs false
def nW (c : UInt8) : S42 := ⟨⟨#[c]⟩, ⟨#[118, 49, 46, 48, 46, 48]⟩⟩
set_option maxRecDepth 100000 in
theorem awake18_val : graftwoodlaw18_awake.f = some true := by
  have b : ∀ c, Brief (nW c) := fun c => ⟨show (1 : Nat) ≤ 400 by decide, show (6 : Nat) ≤ 400 by decide⟩
  have bz : Brief z42 := by unfold Brief; decide +kernel
  have h1 := lackOf_val [nW 97, nW 98] [nW 98] [⟨nW 98, nW 97⟩, ⟨z42, nW 98⟩] (by decide) (by decide) (by decide) (fun x hx => by simp only [List.mem_cons, List.not_mem_nil, or_false] at hx; rcases hx with rfl | rfl <;> exact b _) (fun x hx => by simp only [List.mem_cons, List.not_mem_nil, or_false] at hx; subst hx; exact b _) (fun x hx => by
    simp only [List.mem_cons, List.not_mem_nil, or_false] at hx
    rcases hx with rfl | rfl
    · exact ⟨b _, b _⟩
    · exact ⟨bz, b _⟩)
  have h2 := missing_val [nW 97] [nW 97] (by decide) (by decide) (fun x hx => by simp only [List.mem_cons, List.not_mem_nil, or_false] at hx; subst hx; exact b _) (fun x hx => by simp only [List.mem_cons, List.not_mem_nil, or_false] at hx; subst hx; exact b _)
  have c1 : checkN [nW 97, nW 98] = true := by decide +kernel
  have c2 : checkN [nW 98] = true := by decide +kernel
  have c3 : okE [⟨nW 98, nW 97⟩, ⟨z42, nW 98⟩] = true := by decide +kernel
  have c4 : ofF [nW 97, nW 98] [nW 98] [⟨nW 98, nW 97⟩, ⟨z42, nW 98⟩] = [⟨nW 97, [nW 98], false⟩] := by
    have e1 : goneF [nW 97, nW 98] [nW 98] = [nW 97] := by decide +kernel
    have e2 : byF [⟨nW 98, nW 97⟩, ⟨z42, nW 98⟩] (nW 97) = [nW 98] := by decide +kernel
    have e3 : rootF [⟨nW 98, nW 97⟩, ⟨z42, nW 98⟩] (nW 97) = false := by decide +kernel
    unfold ofF lackOf
    rw [e1, List.map_cons, List.map_nil, e2, e3]
    rfl
  have c5 : checkN [nW 97] = true := by decide +kernel
  rw [if_pos ⟨c1, c2, c3⟩, c4] at h1
  rw [if_pos ⟨c5, c5⟩, goneF_self] at h2
  unfold graftwoodlaw18_awake.f
  unfold nW z42 at h1
  unfold nW at h2
  rw [h1, Option.bind_some, h2, Option.bind_some]
  simp [rd_T42, rd_T55, ByteArray.toList_eq]
end Go.Proofs.YtffcbfclpfchnaaGreatDoor.Q
end

section
namespace Go.Proofs.YtffcbfclpfchnaaGreatDoor.Q
open Go.Proofs.YtffcbfclpfchnaaGreatDoor.QB.D
open Go Go.RowKit Go.Lib Go.Proofs.YtffcbfclpfchnaaGreatDoorW.PrintWords Go.Proofs.YtffcbfclpfchnaaGreatDoorW.PrintLast Go.Proofs.YtffcbfclpfchnaaGreatDoorW.PrintMore Gw
set_option linter.unusedVariables false
set_option linter.unusedSimpArgs false
attribute [local go_sem high] eqA42
instance : DecidableEq S55 := fun a b => if h : a.f0 = b.f0 ∧ a.f1 = b.f1 ∧ a.f2 = b.f2 then isTrue (by cases a; cases b; simp at h; rw [h.1, h.2.1, h.2.2]) else isFalse (fun e => h (by subst e; exact ⟨rfl, rfl, rfl⟩))
set_option maxHeartbeats 4000000 in
set_option maxRecDepth 100000 in
theorem same18_go (A0 : Option Addr) (c0 : Nat) (A1 : Option Addr) (c1 : Nat) (l : List S55) (w : World) (hr0 : Kd.C k55 w A0 l.length l) (hr1 : Kd.C k55 w A1 l.length l) (hl : l.length ≤ 65536) (hb : ∀ x ∈ l, x.f1.length ≤ 65536) :
    Calls Tryz.prog 15 #[.slice A0 l.length c0, .slice A1 l.length c1] w fun e w' => e = .returned (.bool true) ∧ Below w.heap.size w w' := by
  have hu42 := Tryz.underlying42
  have hu55 := Tryz.underlying55
  have HR0 := Aside0.mk hr0
  have HR1 := Aside0.mk hr1
  have HBY := Aside0.mk hb
  have hl1 : (l.length : Int) ≤ 65536 := by omega
  clear hr0 hr1 hb
  go_enter Tryz.func15, Tryz.ntmps15
  go_wp2_with fail
  go_loopw [5] (fun v5 wr => ∃ i : Nat, i ≤ l.length ∧ v5 = .int .i64 (i : Int) ∧ Aside0 (Below w.heap.size w wr)) (fun v5 _ => l.length - (RowKit.intOf v5).toNat)
  case atStart => exact ⟨0, Nat.zero_le _, rfl, ⟨Below.refl _ _⟩⟩
  case round =>
    obtain ⟨i, hi, rfl, HB⟩ := hrel
    by_cases hil : i < l.length
    · have j1 : (i : Int) < (l.length : Int) := by omega
      have j0 : (0 : Int) ≤ (i : Int) := by omega
      have hdi : decide ((i : Int) < (l.length : Int)) = true := decide_eq_true j1
      obtain ⟨x, hx⟩ : ∃ x, x = l[i] := ⟨_, rfl⟩
      have hbx : x.f1.length ≤ 65536 := HBY.out x (by rw [hx]; exact List.getElem_mem hil)
      have hrd : rd_T55 l (i : Int) = x := by rw [hx]; simp [rd_T55, List.getD_eq_getElem?_getD, List.getElem?_eq_getElem hil]
      obtain ⟨ad, P2, p2, e0, hx0, hx1, hx2, hx3, lx, gx⟩ := at_T55 HR0.out (i : Int) (by omega) (by omega)
      obtain ⟨bd, Q2, q2, e1, hy0, hy1, hy2, hy3, ly, gy⟩ := at_T55 HR1.out (i : Int) (by omega) (by omega)
      rw [hrd, Int.toNat_natCast] at hx0 hx1 hx2 hx3 hy0 hy1 hy2 hy3
      rw [hrd] at lx gx ly gy
      cases e0
      cases e1
      replace hx0 := (HB.out.cell (World.block_lt_of_cell? w _ hx0)).trans hx0
      replace hx1 := (HB.out.cell (World.block_lt_of_cell? w _ hx1)).trans hx1
      replace hx2 := (HB.out.cell (World.block_lt_of_cell? w _ hx2)).trans hx2
      replace hx3 := (HB.out.cell (World.block_lt_of_cell? w _ hx3)).trans hx3
      replace hy0 := (HB.out.cell (World.block_lt_of_cell? w _ hy0)).trans hy0
      replace hy1 := (HB.out.cell (World.block_lt_of_cell? w _ hy1)).trans hy1
      replace hy2 := (HB.out.cell (World.block_lt_of_cell? w _ hy2)).trans hy2
      replace hy3 := (HB.out.cell (World.block_lt_of_cell? w _ hy3)).trans hy3
      have hs := same_val x.f1 x.f1 (by omega) 65540 (by omega)
      rw [decide_eq_true rfl] at hs
      have GX := Aside0.mk (Kd.C_below gx HB.out)
      have GY := Aside0.mk (Kd.C_below gy HB.out)
      have LX := Aside0.mk lx
      have LY := Aside0.mk ly
      have CS : ∀ n, Calls Tryz.prog 13 #[.slice P2 x.f1.length p2, .slice Q2 x.f1.length q2] (wr.drewN n) fun e w' => e = .returned (.bool true) ∧ ∃ m, w' = wr.drewN m := fun n =>
        (graftwoodref05_Same.calls 65540 P2 p2 x.f1 Q2 q2 x.f1 true _ (Kd.C_drewN GX.out n) LX.out (Kd.C_drewN GY.out n) LY.out hs).mono fun e w' h => ⟨h.1, by obtain ⟨m, hm⟩ := h.2.out; exact ⟨n + m, by rw [hm, World.drewN_drewN]⟩⟩
      clear hx hrd hs gx gy lx ly
      go_wp2_with fail
      go_quiet (first | (go_at_call 13; exact (CS _)))
      go_wp2
      go_roundw
      case rel => exact ⟨i + 1, by omega, by go_num, ⟨by first | exact HB.out | exact pw_below_drewN HB.out _ | exact (pw_below_drewN (pw_below_drewN HB.out _) _)⟩⟩
      case measure => simp [RowKit.intOf]; omega
    · obtain rfl : i = l.length := by omega
      have hdi : decide ((l.length : Int) < (l.length : Int)) = false := decide_eq_false (by omega)
      go_wp2
      go_ret
      exact ⟨rfl, HB.out⟩
def graftwoodref18_Same.f (k : Nat) (a b : List S55) : Option Bool := if a = b ∧ a.length ≤ 65536 ∧ (∀ x ∈ a, x.f1.length ≤ 65536) then some true else none
theorem graftwoodref18_Same.calls (k : Nat) (A0 : Option Addr) (c0 : Nat) (l0 : List S55) (A1 : Option Addr) (c1 : Nat) (l1 : List S55) (r : Bool) (w : World) (hr0 : Kd.C k55 w A0 l0.length l0) (hc0 : l0.length ≤ c0) (hr1 : Kd.C k55 w A1 l1.length l1) (hc1 : l1.length ≤ c1) (h : graftwoodref18_Same.f k l0 l1 = some r) :
    Calls Tryz.prog 15 #[.slice A0 l0.length c0, .slice A1 l1.length c1] w fun e w' => e = .returned (.bool r) ∧ Below w.heap.size w w' := by
  unfold graftwoodref18_Same.f at h
  split at h
  case isFalse => cases h
  case isTrue hc =>
    injection h with h
    subst h
    obtain ⟨rfl, h1, h2⟩ := hc
    exact same18_go A0 c0 A1 c1 l0 w hr0 hr1 h1 h2
theorem same18_self (a : List S55) (ha : a.length ≤ 65536) (hb : ∀ x ∈ a, x.f1.length ≤ 65536) (k : Nat) (hk : 131080 ≤ k) : graftwoodref18_Same.f k a a = some true := if_pos ⟨rfl, ha, hb⟩
end Go.Proofs.YtffcbfclpfchnaaGreatDoor.Q
end
