/- Part 7 of this claim: several texts one behind the other: NCheck, NFind, NSets, NWith, NSetsW, NWout, NSetsO, RMinus5. What each shows stands in its theorems; conditions: sizes of texts and lists, as the functions' definitions say. -/
import Derived.Test.YtnknjhdpjjddeaaGreatDoorMNodeSets4
import Derived.Test.YtnknjhdpjjddeaaGreatDoorMNodeSets5
import Derived.Test.YtnknjhdpjjddeaaGreatDoorMNodeSets6
import Derived.Test.YtnknjhdpjjddeaaGreatDoorMNodeSets0
import Derived.RegionTactic
import Derived.BigRegion
import Derived.Deep.QuietTactic
import Derived.BigQuiet
import Derived.Deep.RegionHeld3
import Derived.Lib.LazyBuf
import Derived.ArgAppend
import Derived.Deep.RegionLawGrows
import Derived.Deep.Onto
import Derived.Test.YtnknjhdpjjddeaaGreatDoorMNodeSets2
section
namespace Go.Proofs.YtnknjhdpjjddeaaGreatDoor.Q
open Go.Proofs.YtnknjhdpjjddeaaGreatDoor.QB.D
open Go Go.RowKit Go.Lib Go.Proofs.YtnknjhdpjjddeaaGreatDoorW.PrintWords Go.Proofs.YtnknjhdpjjddeaaGreatDoorW.PrintLast Go.Proofs.YtnknjhdpjjddeaaGreatDoorW.PrintMore Gw
set_option linter.unusedVariables false
set_option linter.unusedSimpArgs false
/-- Nodes that may be, each behind the one ahead. -/
def chk : Option S32 → List S32 → Bool
  | _, [] => true
  | p, x :: r => mayN x && (match p with | none => true | some q => decide (ordN q x < 0)) && chk (some x) r
def okI : Bool → Int
  | true => 0
  | false => 1
def checkN (l : List S32) : Bool := chk none l
theorem check_l0 (l : List S32) (hl : l.length ≤ 4294967296) (ht : ∀ x ∈ l, TinyN x) : ∀ (n i k : Nat) (p : Option S32), l.length ≤ i + n → i ≤ l.length → n + 4294967300 ≤ k →
    (p = if i = 0 then none else l[i - 1]?) → (∀ q, p = some q → mayN q = true) →
    node_Check.l0 k l l (l.length : Int) (i : Int) = some (okI (chk p (l.drop i))) := by
  intro n
  induction n with
  | zero =>
    intro i k p h1 h2 hk hp hq
    obtain ⟨j, rfl⟩ : ∃ j, k = j + 1 := ⟨k - 1, by omega⟩
    have e : i = l.length := by omega
    subst e
    simp only [node_Check.l0]
    rw [if_neg (by omega), List.drop_length]
    cases p <;> rfl
  | succ n ih =>
    intro i k p h1 h2 hk hp hq
    obtain ⟨j, rfl⟩ : ∃ j, k = j + 1 := ⟨k - 1, by omega⟩
    by_cases hi : i < l.length
    · have hm := List.getElem_mem hi
      have htx := ht _ hm
      have hrd : rd_T32 l (i : Int) = l[i] := by simp [rd_T32, List.getD_eq_getElem?_getD, List.getElem?_eq_getElem hi]
      have hmv := node_May_val j l[i] htx (by have := htx.1; unfold Tiny at this; omega)
      simp only [node_Check.l0]
      rw [if_pos (by omega), if_pos (by omega), if_pos (by omega), hrd, hmv, List.drop_eq_getElem_cons hi]
      simp only [Option.bind_some, chk]
      by_cases hmx : mayN l[i] = true
      case neg =>
        rw [Bool.not_eq_true] at hmx
        rw [hmx]
        rfl
      case pos =>
        rw [hmx]
        simp only [if_true, Bool.true_and]
        have hw : wrap64 ((i : Int) + 1) = ((i + 1 : Nat) : Int) := by unfold wrap64; omega
        have ih' := ih (i + 1) j (some l[i]) (by omega) (by omega) (by omega) (by rw [if_neg (by omega)]; simp [List.getElem?_eq_getElem hi]) (fun q h => by injection h with h; rw [← h]; exact hmx)
        by_cases h0 : i = 0
        · subst h0
          rw [if_pos rfl] at hp
          subst hp
          rw [if_neg (by omega), hw, ih']
          rfl
        · rw [if_neg h0, List.getElem?_eq_getElem (by omega)] at hp
          subst hp
          have hi1 : i - 1 < l.length := by omega
          have hw1 : wrap64 ((i : Int) - 1) = ((i - 1 : Nat) : Int) := by unfold wrap64; omega
          have hrd1 : rd_T32 l ((i - 1 : Nat) : Int) = l[i - 1] := by simp [rd_T32, List.getD_eq_getElem?_getD, List.getElem?_eq_getElem hi1]
          have gx := mayN_good (ht _ (List.getElem_mem hi1)) (hq _ rfl)
          have gy := mayN_good htx hmx
          obtain ⟨j3, rfl⟩ : ∃ j3, j = j3 + 3 := ⟨j - 3, by omega⟩
          rw [if_pos (by omega), hw1, if_pos (by omega), if_pos (by omega), hrd1, order_val j3 _ _ gx gy]
          simp only [Option.bind_some]
          by_cases hc : ordN l[i - 1] l[i] < 0
          · rw [if_neg (by omega), hw, ih', decide_eq_true hc]
            rfl
          · rw [if_pos (by omega), decide_eq_false hc]
            rfl
    · exact ih i (j + 1) p (by omega) h2 (by omega) hp hq
theorem check_val (l : List S32) (hl : l.length ≤ 4294967296) (ht : ∀ x ∈ l, TinyN x) (k : Nat) (hk : 8589934600 ≤ k) : node_Check.f k l = some (okI (checkN l)) := by
  have h := check_l0 l hl ht l.length 0 k none (by omega) (Nat.zero_le _) (by omega) rfl (fun q h => by cases h)
  rw [List.drop_zero] at h
  exact h
theorem chk_facts : ∀ (l : List S32) (p : Option S32), chk p l = true → l.all mayN = true
  | [], _, _ => rfl
  | x :: r, p, h => by
    simp only [chk, Bool.and_eq_true] at h
    rw [List.all_cons, h.1.1, chk_facts r _ h.2]
    rfl
theorem bel_next {w : World} {o : Obj} {W W2 : World} {R : Prop} (h : Below (w.heap.size + 1) (w.alloc o) W ∧ R) (hb : Below W.heap.size W W2) : Below (w.heap.size + 1) (w.alloc o) W2 := h.1.trans (hb.mono (by have := h.1.size; simp at this; omega))
/-- How many are ahead of a node. -/
def ahead (l : List S32) (t : S32) : Nat := (l.filter (fun x => decide (ordN x t < 0))).length
theorem ahead_val (l : List S32) (t : S32) (i : Nat) (hi : i ≤ l.length) (h1 : ∀ a (ha : a < l.length), a < i → ordN l[a] t < 0) (h2 : ∀ a (ha : a < l.length), i ≤ a → 0 ≤ ordN l[a] t) : ahead l t = i := by
  unfold ahead
  have e : l = l.take i ++ l.drop i := (List.take_append_drop i l).symm
  have f1 : (l.take i).filter (fun x => decide (ordN x t < 0)) = l.take i := by
    rw [List.filter_eq_self]
    intro x hx
    obtain ⟨a, ha, rfl⟩ := List.getElem_of_mem hx
    rw [List.length_take] at ha
    rw [List.getElem_take, decide_eq_true_eq]
    exact h1 a (by omega) (by omega)
  have f2 : (l.drop i).filter (fun x => decide (ordN x t < 0)) = [] := by
    rw [List.filter_eq_nil_iff]
    intro x hx
    obtain ⟨a, ha, rfl⟩ := List.getElem_of_mem hx
    rw [List.length_drop] at ha
    rw [List.getElem_drop, decide_eq_true_eq]
    have := h2 (i + a) (by omega) (by omega)
    omega
  conv => lhs; rw [e]
  rw [List.filter_append, f1, f2, List.append_nil, List.length_take]
  omega
theorem found_val (l : List S32) (t : S32) (hg : ∀ x ∈ l, GoodN x) (gt : GoodN t) (hs : l.Pairwise (fun x y => ordN x y < 0)) (i : Nat) (h1 : ∀ a (ha : a < l.length), a < i → ordN l[a] t < 0) (h2 : ∀ a (ha : a < l.length), i ≤ a → 0 ≤ ordN l[a] t) :
    (t ∈ l) ↔ ∃ h : i < l.length, ordN l[i] t = 0 := by
  constructor
  · intro hm
    obtain ⟨a, ha, rfl⟩ := List.getElem_of_mem hm
    have h0 : ordN l[a] l[a] = 0 := (ordN_to.eq _ _ (hg _ (List.getElem_mem ha)) (hg _ (List.getElem_mem ha))).2 rfl
    rcases Nat.lt_trichotomy a i with h | h | h
    · have := h1 a ha h; omega
    · subst h; exact ⟨ha, h0⟩
    · have h3 := List.pairwise_iff_getElem.1 hs i a (by omega) ha h
      have h4 := h2 i (by omega) (Nat.le_refl _)
      omega
  · rintro ⟨h, h0⟩
    have := (ordN_to.eq _ _ (hg _ (List.getElem_mem h)) gt).1 h0
    rw [← this]
    exact List.getElem_mem h
set_option maxHeartbeats 4000000 in
set_option maxRecDepth 100000 in
theorem bsearch (A0 : Option Addr) (c0 : Nat) (l0 : List S32) (t : S32) (w : World) (hr0 : Kd.C k32 w A0 l0.length l0) (hl0 : l0.length ≤ 4294967296) (hg : ∀ x ∈ l0, GoodN x) (gt : GoodN t)
    (hs : l0.Pairwise (fun x y => ordN x y < 0)) :
    Calls Tryz.prog 46 #[.slice A0 l0.length c0, .agg #[.string t.f0, .string t.f1], .func (.func 29) #[] #[]] w fun e w' => e = .returned (.tuple #[.int .i64 (ahead l0 t : Nat), .bool (decide (t ∈ l0))]) ∧ Below w.heap.size w w' := by
  have hu23 := Tryz.underlying32
  have HR0 := Aside0.mk hr0
  have HG := Aside0.mk hg
  have HS := Aside0.mk hs
  have q0 : (l0.length : Int) ≤ 4294967296 := by omega
  clear hr0 hg hs
  go_enter Tryz.func46, Tryz.ntmps46
  go_wp2_with fail
  go_loopw [9, 10] (fun v9 v10 wr => ∃ i j : Nat, i ≤ j ∧ j ≤ l0.length ∧ v9 = .int .i64 (i : Int) ∧ v10 = .int .i64 (j : Int) ∧ Aside0 (Below (w.heap.size + 1) (w.alloc (.cells #[.string t.f0, .string t.f1] 32 (0, 0))) wr) ∧ Aside0 ((∀ a (ha : a < l0.length), a < i → ordN l0[a] t < 0) ∧ (∀ a (ha : a < l0.length), j ≤ a → 0 ≤ ordN l0[a] t))) (fun v9 v10 _ => (RowKit.intOf v10).toNat - (RowKit.intOf v9).toNat)
  case atStart => exact ⟨0, l0.length, Nat.zero_le _, Nat.le_refl _, rfl, rfl, ⟨by have := Below.refl (w.heap.size + 1) (w.alloc (.cells #[.string t.f0, .string t.f1] 32 (0, 0))); exact this⟩, ⟨fun a ha h => by omega, fun a ha h => by omega⟩⟩
  case round =>
    obtain ⟨i, j, hij, hj, rfl, rfl, HB, HI⟩ := hrel
    by_cases hlt : i < j
    · have hd : decide ((i : Int) < (j : Int)) = true := decide_eq_true (by omega)
      have hsum : wrap64 ((i : Int) + (j : Int)) = ((i + j : Nat) : Int) := by unfold wrap64; omega
      obtain ⟨m, hmq⟩ : ∃ m : Nat, ((i : Int) + (j : Int)) / 2 = (m : Int) := ⟨(i + j) / 2, by omega⟩
      have hml : m < l0.length := by omega
      have hml' : (m : Int) < (l0.length : Int) := by omega
      obtain ⟨ad, e0, hx0, hx1⟩ := at_T32 HR0.out (m : Int) (by omega) (by omega)
      have hrd : rd_T32 l0 (m : Int) = l0[m] := by simp [rd_T32, List.getD_eq_getElem?_getD, List.getElem?_eq_getElem hml]
      rw [hrd, Int.toNat_natCast] at hx0 hx1
      cases e0
      have hov := order_val 6 l0[m] t (HG.out _ (List.getElem_mem hml)) gt
      have CO := fun w => node_order.calls 9 l0[m].f0 l0[m].f1 t.f0 t.f1 _ w hov
      obtain ⟨cv, hcv⟩ : ∃ cv, cv = ordN l0[m] t := ⟨_, rfl⟩
      rw [← hcv] at CO
      have HCV := Aside0.mk hcv
      obtain ⟨x, hx⟩ : ∃ x, x = l0[m] := ⟨_, rfl⟩
      rw [← hx] at CO hx0 hx1
      have hb0 := World.block_lt_of_cell? w _ hx0
      have hb1 := World.block_lt_of_cell? w _ hx1
      have KS : ∀ w', Below (w.heap.size + 1) (w.alloc (.cells #[.string t.f0, .string t.f1] 32 (0, 0))) w' → (fun w' => Below (w.heap.size + 1) (w.alloc (.cells #[.string t.f0, .string t.f1] 32 (0, 0))) w' ∧ w'.cell? (ad.add (m * 2)) = some (.string x.f0) ∧ w'.cell? ⟨(ad.add (m * 2)).block, (ad.add (m * 2)).off + 1, none⟩ = some (.string x.f1) ∧ w'.cell? ⟨w.heap.size, 0, none⟩ = some (.string t.f0) ∧ w'.cell? ⟨w.heap.size, 1, none⟩ = some (.string t.f1)) w' := fun w' h =>
        ⟨h, (h.cell (Nat.lt_succ_of_lt hb0)).trans (Lib.cell?_alloc_some _ hx0), (h.cell (Nat.lt_succ_of_lt hb1)).trans (Lib.cell?_alloc_some _ hx1), (h.cell (p := ⟨w.heap.size, 0, none⟩) (Nat.lt_succ_self _)).trans (by simp [go_sem]), (h.cell (p := ⟨w.heap.size, 1, none⟩) (Nat.lt_succ_self _)).trans (by simp [go_sem])⟩
      have hwr : w.heap.size + 1 ≤ wr.heap.size := by have := HB.out.size; simp at this; omega
      clear hcv hx hrd hov hx0 hx1
      go_wp2_with fail
      go_region_held3 (fun w' => Below (w.heap.size + 1) (w.alloc (.cells #[.string t.f0, .string t.f1] 32 (0, 0))) w' ∧ w'.cell? (ad.add (m * 2)) = some (.string x.f0) ∧ w'.cell? ⟨(ad.add (m * 2)).block, (ad.add (m * 2)).off + 1, none⟩ = some (.string x.f1) ∧ w'.cell? ⟨w.heap.size, 0, none⟩ = some (.string t.f0) ∧ w'.cell? ⟨w.heap.size, 1, none⟩ = some (.string t.f1))
        (first
          | exact KS _ (below_drew HB.out)
          | exact KS _ (bel_next (by assumption) hb9)
          | exact KS _ (And.left ‹Below (w.heap.size + 1) _ _ ∧ _›))
        (first
          | (go_at_call 29; with_reducible refine (CO _).mono ?_; rintro e w'' ⟨rfl, hb9⟩))
      have HB9 := Aside0.mk (And.left ‹Below (w.heap.size + 1) _ w'' ∧ _›)
      rename_i hHeldZ
      clear hHeldZ hb9 KS
      have hir := HI.out
      have hpw := List.pairwise_iff_getElem.1 HS.out
      have hgg := fun a (ha : a < l0.length) => HG.out _ (List.getElem_mem ha)
      by_cases hc : cv < 0
      · have hcd : decide (cv < 0) = true := decide_eq_true hc
        have HI2 : Aside0 ((∀ a (ha : a < l0.length), a < m + 1 → ordN l0[a] t < 0) ∧ (∀ a (ha : a < l0.length), j ≤ a → 0 ≤ ordN l0[a] t)) := ⟨⟨fun a ha h => by
          by_cases e : a = m
          · subst e; rw [← HCV.out]; exact hc
          · exact ordN_to.tr _ _ _ (hgg a ha) (hgg m hml) gt (hpw a m ha hml (by omega)) (by rw [← HCV.out]; exact hc), hir.2⟩⟩
        clear hir hpw hgg
        go_wp2
        go_roundw
        case rel => exact ⟨m + 1, j, by omega, hj, by go_num, rfl, HB9, HI2⟩
        case measure => simp [RowKit.intOf]; omega
      · have hcd : decide (cv < 0) = false := decide_eq_false hc
        have HI2 : Aside0 ((∀ a (ha : a < l0.length), a < i → ordN l0[a] t < 0) ∧ (∀ a (ha : a < l0.length), m ≤ a → 0 ≤ ordN l0[a] t)) := ⟨⟨hir.1, fun a ha h => by
          by_cases e : a = m
          · subst e; rw [← HCV.out]; omega
          · have h1 := hpw m a hml ha (by omega)
            refine Int.not_lt.1 (fun h2 => hc ?_)
            rw [HCV.out]
            exact ordN_to.tr _ _ _ (hgg m hml) (hgg a ha) gt h1 h2⟩⟩
        clear hir hpw hgg
        go_wp2
        go_roundw
        case rel => exact ⟨i, m, by omega, by omega, rfl, by go_num, HB9, HI2⟩
        case measure => simp [RowKit.intOf]; omega
    · obtain rfl : i = j := by omega
      have hd : decide ((i : Int) < (i : Int)) = false := decide_eq_false (by omega)
      have hav := ahead_val l0 t i hj HI.out.1 HI.out.2
      have hfv := found_val l0 t HG.out gt HS.out i HI.out.1 HI.out.2
      have HAV := Aside0.mk hav
      have HFV := Aside0.mk hfv
      clear hav hfv
      by_cases hil : i < l0.length
      · have hjd : decide ((i : Int) < (l0.length : Int)) = true := decide_eq_true (by omega)
        have hml : i < l0.length := hil
        have hml' : (i : Int) < (l0.length : Int) := by omega
        obtain ⟨ad, e0, hx0, hx1⟩ := at_T32 HR0.out (i : Int) (by omega) (by omega)
        have hrd : rd_T32 l0 (i : Int) = l0[i] := by simp [rd_T32, List.getD_eq_getElem?_getD, List.getElem?_eq_getElem hml]
        rw [hrd, Int.toNat_natCast] at hx0 hx1
        cases e0
        have hov := order_val 6 l0[i] t (HG.out _ (List.getElem_mem hml)) gt
        have CO := fun w => node_order.calls 9 l0[i].f0 l0[i].f1 t.f0 t.f1 _ w hov
        obtain ⟨cv, hcv⟩ : ∃ cv, cv = ordN l0[i] t := ⟨_, rfl⟩
        rw [← hcv] at CO
        have HCV := Aside0.mk hcv
        obtain ⟨x, hx⟩ : ∃ x, x = l0[i] := ⟨_, rfl⟩
        rw [← hx] at CO hx0 hx1
        have hb0 := World.block_lt_of_cell? w _ hx0
        have hb1 := World.block_lt_of_cell? w _ hx1
        have KS : ∀ w', Below (w.heap.size + 1) (w.alloc (.cells #[.string t.f0, .string t.f1] 32 (0, 0))) w' → (fun w' => Below (w.heap.size + 1) (w.alloc (.cells #[.string t.f0, .string t.f1] 32 (0, 0))) w' ∧ w'.cell? (ad.add (i * 2)) = some (.string x.f0) ∧ w'.cell? ⟨(ad.add (i * 2)).block, (ad.add (i * 2)).off + 1, none⟩ = some (.string x.f1) ∧ w'.cell? ⟨w.heap.size, 0, none⟩ = some (.string t.f0) ∧ w'.cell? ⟨w.heap.size, 1, none⟩ = some (.string t.f1)) w' := fun w' h =>
          ⟨h, (h.cell (Nat.lt_succ_of_lt hb0)).trans (Lib.cell?_alloc_some _ hx0), (h.cell (Nat.lt_succ_of_lt hb1)).trans (Lib.cell?_alloc_some _ hx1), (h.cell (p := ⟨w.heap.size, 0, none⟩) (Nat.lt_succ_self _)).trans (by simp [go_sem]), (h.cell (p := ⟨w.heap.size, 1, none⟩) (Nat.lt_succ_self _)).trans (by simp [go_sem])⟩
        have hwr : w.heap.size + 1 ≤ wr.heap.size := by have := HB.out.size; simp at this; omega
        clear hcv hx hrd hov hx0 hx1
        go_wp2_with fail
        go_region_held3 (fun w' => Below (w.heap.size + 1) (w.alloc (.cells #[.string t.f0, .string t.f1] 32 (0, 0))) w' ∧ w'.cell? (ad.add (i * 2)) = some (.string x.f0) ∧ w'.cell? ⟨(ad.add (i * 2)).block, (ad.add (i * 2)).off + 1, none⟩ = some (.string x.f1) ∧ w'.cell? ⟨w.heap.size, 0, none⟩ = some (.string t.f0) ∧ w'.cell? ⟨w.heap.size, 1, none⟩ = some (.string t.f1))
          (first
            | exact KS _ (below_drew HB.out)
            | exact KS _ (bel_next (by assumption) hb9)
            | exact KS _ (And.left ‹Below (w.heap.size + 1) _ _ ∧ _›))
          (first
            | (go_at_call 29; with_reducible refine (CO _).mono ?_; rintro e w'' ⟨rfl, hb9⟩))
        have HB9 := Aside0.mk (And.left ‹Below (w.heap.size + 1) _ w'' ∧ _›)
        rename_i hHeldZ
        clear hHeldZ hb9 KS
        have hbel : Aside0 (Below w.heap.size w w'') := ⟨(below_alloc (Below.refl _ _) _).trans (HB9.out.mono (Nat.le_succ _))⟩
        cases hc : (cv == 0)
        · have hz : ¬ (t ∈ l0) := fun h => by
            obtain ⟨h3, h4⟩ := HFV.out.1 h
            rw [← HCV.out] at h4
            rw [h4] at hc
            exact absurd hc (by decide)
          have HZ := Aside0.mk hz
          clear hz
          go_wp2
          go_ret2
          exact ⟨by rw [HAV.out, decide_eq_false HZ.out]; rfl, hbel.out⟩
        · have hz : t ∈ l0 := HFV.out.2 ⟨hml, by rw [← HCV.out]; simpa using hc⟩
          have HZ := Aside0.mk hz
          clear hz
          go_wp2
          go_ret2
          exact ⟨by rw [HAV.out, decide_eq_true HZ.out]; rfl, hbel.out⟩
      · have hjd : decide ((i : Int) < (l0.length : Int)) = false := decide_eq_false (by omega)
        have HZ : Aside0 (¬ (t ∈ l0)) := ⟨fun h => by obtain ⟨h3, _⟩ := HFV.out.1 h; omega⟩
        have hbel : Aside0 (Below w.heap.size w wr) := ⟨(below_alloc (Below.refl _ _) _).trans (HB.out.mono (Nat.le_succ _))⟩
        have mixed : Tryz.prog.follows Departure.mixedOrders = true := by kernel_rfl
        go_wp2_with fail
        go_quiet (fail)
        go_wp2
        go_ret2
        exact ⟨by rw [HAV.out, decide_eq_false HZ.out]; rfl, by repeat (with_reducible first | exact hbel.out | refine pw_below_drewN ?_ _ | refine below_drew ?_)⟩
theorem chk_sorted : ∀ (l : List S32) (p : Option S32), (∀ x ∈ l, TinyN x) → (∀ q, p = some q → GoodN q) → chk p l = true → l.Pairwise (fun x y => ordN x y < 0) ∧ (∀ q, p = some q → ∀ x ∈ l, ordN q x < 0)
  | [], _, _, _, _ => ⟨List.Pairwise.nil, fun _ _ x hx => by cases hx⟩
  | x :: r, p, ht, hp, h => by
    simp only [chk, Bool.and_eq_true] at h
    have gx := mayN_good (ht x List.mem_cons_self) h.1.1
    have ih := chk_sorted r (some x) (fun y hy => ht y (List.mem_cons_of_mem _ hy)) (fun q e => by injection e with e; rw [← e]; exact gx) h.2
    have hxr := ih.2 x rfl
    refine ⟨List.pairwise_cons.2 ⟨hxr, ih.1⟩, fun q e y hy => ?_⟩
    subst e
    have h1 : ordN q x < 0 := of_decide_eq_true h.1.2
    rcases List.mem_cons.1 hy with rfl | hy
    · exact h1
    · have gy : GoodN y := mayN_good (ht y (List.mem_cons_of_mem _ hy)) (List.all_eq_true.1 (chk_facts r _ h.2) y hy)
      exact ordN_to.tr _ _ _ (hp q rfl) gx gy h1 (hxr y hy)
theorem check_good {l : List S32} (ht : ∀ x ∈ l, TinyN x) (h : checkN l = true) : (∀ x ∈ l, GoodN x) ∧ l.Pairwise (fun x y => ordN x y < 0) :=
  ⟨fun x hx => mayN_good (ht x hx) (List.all_eq_true.1 (chk_facts l _ h) x hx), (chk_sorted l none ht (fun q e => by cases e) h).1⟩
def node_find.f (l : List S32) (a b : ByteArray) : Option (Int × Bool × Int) := if l.length ≤ 4294967296 ∧ (∀ x ∈ l, TinyN x) ∧ TinyN ⟨a, b⟩ then some (if checkN l = true ∧ mayN ⟨a, b⟩ = true then ((ahead l ⟨a, b⟩ : Nat), decide ((⟨a, b⟩ : S32) ∈ l), 0) else (0, false, 1)) else none
set_option maxHeartbeats 4000000 in
set_option maxRecDepth 100000 in
theorem node_find.calls (A0 : Option Addr) (c0 : Nat) (l0 : List S32) (a1_0 a1_1 : ByteArray) (r1 : Int) (r2 : Bool) (r3 : Int) (w : World) (hr0 : Kd.C k32 w A0 l0.length l0) (hc0 : l0.length ≤ c0) (h : node_find.f l0 a1_0 a1_1 = some (r1, r2, r3)) :
    Calls Tryz.prog 30 #[.slice A0 l0.length c0, .agg #[.string a1_0, .string a1_1]] w fun e w' => e = .returned (.tuple #[.int .i64 r1, .bool r2, .int .i64 r3]) ∧ Below w.heap.size w w' := by
  unfold node_find.f at h
  split at h
  case isFalse => cases h
  case isTrue hc =>
    obtain ⟨hl0, ht0, htt⟩ := hc
    have HR0 := Aside0.mk hr0
    have hu23 := Tryz.underlying32
    have e0 := check_val l0 hl0 ht0 8589934600 (Nat.le_refl _)
    have m0 := node_May_val 8589934600 ⟨a1_0, a1_1⟩ htt (by have := htt.1; unfold Tiny at this; simp only [] at *; omega)
    simp only [] at m0
    by_cases hk : checkN l0 = true
    · rw [hk] at e0
      have CK0 := fun (W : World) (h : Kd.C k32 W A0 l0.length l0) => node_Check.calls 8589934600 A0 c0 l0 0 W h hc0 e0
      by_cases hm : mayN ⟨a1_0, a1_1⟩ = true
      · rw [if_pos ⟨hk, hm⟩, Option.some.injEq, Prod.mk.injEq, Prod.mk.injEq] at h
        obtain ⟨rfl, rfl, rfl⟩ := h
        rw [hm] at m0
        have CM := fun w => node_May.calls 8589934600 a1_0 a1_1 true w m0
        have hgd := check_good ht0 hk
        have CB := fun (W : World) (h : Kd.C k32 W A0 l0.length l0) => bsearch A0 c0 l0 ⟨a1_0, a1_1⟩ W h hl0 hgd.1 (mayN_good htt hm) hgd.2
        generalize (ahead l0 ⟨a1_0, a1_1⟩ : Nat) = r1 at CB ⊢
        generalize decide ((⟨a1_0, a1_1⟩ : S32) ∈ l0) = r2 at CB ⊢
        simp only [] at CB
        clear e0 m0 hgd ht0 htt hk hm hr0
        go_enter Tryz.func30, Tryz.ntmps30
        go_wp2_with fail
        refine (CK0 _ (Kd.C_alloc HR0.out _)).mono ?_
        rintro e w1 ⟨rfl, hb1⟩
        have HB1 : Aside0 (Below w.heap.size w w1) := ⟨(below_alloc (Below.refl _ _) _).trans (hb1.mono (by simp))⟩
        have n0 : w1.cell? ⟨w.heap.size, 0, none⟩ = some (.string a1_0) := (hb1.cell (p := ⟨w.heap.size, 0, none⟩) (by simp)).trans (by simp [go_sem])
        have n1 : w1.cell? ⟨w.heap.size, 1, none⟩ = some (.string a1_1) := (hb1.cell (p := ⟨w.heap.size, 1, none⟩) (by simp)).trans (by simp [go_sem])
        have hz1 : w.heap.size < w1.heap.size := by have := hb1.size; simp at this; omega
        clear hb1 CK0
        go_wp2_with fail
        refine (CM _).mono ?_
        rintro e w2 ⟨rfl, hb2⟩
        have HB2 : Aside0 (Below w.heap.size w w2) := ⟨HB1.out.trans (hb2.mono HB1.out.size)⟩
        have p0 : w2.cell? ⟨w.heap.size, 0, none⟩ = some (.string a1_0) := (hb2.cell (p := ⟨w.heap.size, 0, none⟩) hz1).trans n0
        have p1 : w2.cell? ⟨w.heap.size, 1, none⟩ = some (.string a1_1) := (hb2.cell (p := ⟨w.heap.size, 1, none⟩) hz1).trans n1
        clear hb2 CM
        go_wp2_with fail
        refine (CB _ (Kd.C_below HR0.out HB2.out)).mono ?_
        rintro e w3 ⟨rfl, hb3⟩
        have HB3 : Aside0 (Below w.heap.size w w3) := ⟨HB2.out.trans (hb3.mono HB2.out.size)⟩
        clear hb3 CB
        go_wp2
        go_ret3
        exact ⟨rfl, HB3.out⟩
      · rw [if_neg (fun h => hm h.2), Option.some.injEq, Prod.mk.injEq, Prod.mk.injEq] at h
        obtain ⟨rfl, rfl, rfl⟩ := h
        rw [Bool.not_eq_true] at hm
        rw [hm] at m0
        have CM := fun w => node_May.calls 8589934600 a1_0 a1_1 false w m0
        clear e0 m0 ht0 htt hk hm hr0
        go_enter Tryz.func30, Tryz.ntmps30
        go_wp2_with fail
        refine (CK0 _ (Kd.C_alloc HR0.out _)).mono ?_
        rintro e w1 ⟨rfl, hb1⟩
        have HB1 : Aside0 (Below w.heap.size w w1) := ⟨(below_alloc (Below.refl _ _) _).trans (hb1.mono (by simp))⟩
        have n0 : w1.cell? ⟨w.heap.size, 0, none⟩ = some (.string a1_0) := (hb1.cell (p := ⟨w.heap.size, 0, none⟩) (by simp)).trans (by simp [go_sem])
        have n1 : w1.cell? ⟨w.heap.size, 1, none⟩ = some (.string a1_1) := (hb1.cell (p := ⟨w.heap.size, 1, none⟩) (by simp)).trans (by simp [go_sem])
        have hz1 : w.heap.size < w1.heap.size := by have := hb1.size; simp at this; omega
        clear hb1 CK0
        go_wp2_with fail
        refine (CM _).mono ?_
        rintro e w2 ⟨rfl, hb2⟩
        have HB2 : Aside0 (Below w.heap.size w w2) := ⟨HB1.out.trans (hb2.mono HB1.out.size)⟩
        have p0 : w2.cell? ⟨w.heap.size, 0, none⟩ = some (.string a1_0) := (hb2.cell (p := ⟨w.heap.size, 0, none⟩) hz1).trans n0
        have p1 : w2.cell? ⟨w.heap.size, 1, none⟩ = some (.string a1_1) := (hb2.cell (p := ⟨w.heap.size, 1, none⟩) hz1).trans n1
        clear hb2 CM
        go_wp2
        go_ret3
        exact ⟨rfl, HB2.out⟩
    · rw [if_neg (fun h => hk h.1), Option.some.injEq, Prod.mk.injEq, Prod.mk.injEq] at h
      obtain ⟨rfl, rfl, rfl⟩ := h
      rw [Bool.not_eq_true] at hk
      rw [hk] at e0
      have CK0 := fun (W : World) (h : Kd.C k32 W A0 l0.length l0) => node_Check.calls 8589934600 A0 c0 l0 1 W h hc0 e0
      clear e0 m0 ht0 htt hk hr0
      go_enter Tryz.func30, Tryz.ntmps30
      go_wp2_with fail
      refine (CK0 _ (Kd.C_alloc HR0.out _)).mono ?_
      rintro e w1 ⟨rfl, hb1⟩
      have HB1 : Aside0 (Below w.heap.size w w1) := ⟨(below_alloc (Below.refl _ _) _).trans (hb1.mono (by simp))⟩
      have n0 : w1.cell? ⟨w.heap.size, 0, none⟩ = some (.string a1_0) := (hb1.cell (p := ⟨w.heap.size, 0, none⟩) (by simp)).trans (by simp [go_sem])
      have n1 : w1.cell? ⟨w.heap.size, 1, none⟩ = some (.string a1_1) := (hb1.cell (p := ⟨w.heap.size, 1, none⟩) (by simp)).trans (by simp [go_sem])
      have hz1 : w.heap.size < w1.heap.size := by have := hb1.size; simp at this; omega
      clear hb1 CK0
      go_wp2
      go_ret3
      exact ⟨rfl, HB1.out⟩
structure IsSet (l : List S32) : Prop where
  good : ∀ x ∈ l, GoodN x
  may : ∀ x ∈ l, mayN x = true
  lt : l.Pairwise (fun x y => ordN x y < 0)
theorem ordN_self {x : S32} (h : GoodN x) : ordN x x = 0 := (ordN_to.eq x x h h).2 rfl
theorem ordN_ne {x y : S32} (hx : GoodN x) (h : ordN x y < 0) : x ≠ y := fun e => by
  subst e
  rw [ordN_self hx] at h
  omega
theorem IsSet.nodup {l : List S32} (h : IsSet l) : l.Nodup := List.Pairwise.imp_of_mem (fun hx _ hxy => ordN_ne (h.good _ hx) hxy) h.lt
theorem IsSet.nil : IsSet [] := ⟨fun x h => by (cases h), fun x h => by (cases h), List.Pairwise.nil⟩
theorem IsSet.tail {x : S32} {l : List S32} (h : IsSet (x :: l)) : IsSet l := ⟨fun y hy => h.good y (List.mem_cons_of_mem _ hy), fun y hy => h.may y (List.mem_cons_of_mem _ hy), (List.pairwise_cons.1 h.lt).2⟩
/-- Two sets with the same nodes are the same list. -/
theorem IsSet.ext : ∀ {l m : List S32}, IsSet l → IsSet m → (∀ x, x ∈ l ↔ x ∈ m) → l = m
  | [], [], _, _, _ => rfl
  | [], y :: m, _, _, h => absurd ((h y).2 List.mem_cons_self) (by simp)
  | x :: l, [], _, _, h => absurd ((h x).1 List.mem_cons_self) (by simp)
  | x :: l, y :: m, hl, hm, h => by
    have gx := hl.good x List.mem_cons_self
    have gy := hm.good y List.mem_cons_self
    have e : x = y := by
      rcases List.mem_cons.1 ((h x).1 List.mem_cons_self) with e | e
      · exact e
      · rcases List.mem_cons.1 ((h y).2 List.mem_cons_self) with e2 | e2
        · exact e2.symm
        · have h1 := (List.pairwise_cons.1 hm.lt).1 x e
          have h2 := (List.pairwise_cons.1 hl.lt).1 y e2
          have := ordN_to.sym x y gx gy
          omega
    subst e
    have hx1 : x ∉ l := (List.nodup_cons.1 hl.nodup).1
    have hx2 : x ∉ m := (List.nodup_cons.1 hm.nodup).1
    rw [IsSet.ext hl.tail hm.tail (fun z => ⟨fun hz => by
      rcases List.mem_cons.1 ((h z).1 (List.mem_cons_of_mem _ hz)) with e | e
      · subst e; exact absurd hz hx1
      · exact e, fun hz => by
      rcases List.mem_cons.1 ((h z).2 (List.mem_cons_of_mem _ hz)) with e | e
      · subst e; exact absurd hz hx2
      · exact e⟩)]
theorem IsSet.filter {l : List S32} (h : IsSet l) (p : S32 → Bool) : IsSet (l.filter p) :=
  ⟨fun x hx => h.good x (List.mem_filter.1 hx).1, fun x hx => h.may x (List.mem_filter.1 hx).1, h.lt.filter p⟩
theorem chk_of : ∀ (l : List S32) (p : Option S32), (∀ x ∈ l, mayN x = true) → l.Pairwise (fun x y => ordN x y < 0) → (∀ q, p = some q → ∀ x ∈ l, ordN q x < 0) → chk p l = true
  | [], p, _, _, _ => by cases p <;> rfl
  | x :: r, p, hm, hs, hp => by
    rw [List.pairwise_cons] at hs
    simp only [chk, Bool.and_eq_true]
    refine ⟨⟨hm x List.mem_cons_self, ?_⟩, chk_of r (some x) (fun y hy => hm y (List.mem_cons_of_mem _ hy)) hs.2 (fun q e y hy => by injection e with e; rw [← e]; exact hs.1 y hy)⟩
    cases p with
    | none => rfl
    | some q => exact decide_eq_true (hp q rfl x List.mem_cons_self)
theorem check_set {l : List S32} (ht : ∀ x ∈ l, TinyN x) : checkN l = true ↔ IsSet l :=
  ⟨fun h => ⟨(check_good ht h).1, fun x hx => List.all_eq_true.1 (chk_facts l _ h) x hx, (check_good ht h).2⟩, fun h => chk_of l none h.may h.lt (fun q e => by cases e)⟩
theorem IsSet.check {l : List S32} (h : IsSet l) : checkN l = true := chk_of l none h.may h.lt (fun q e => by cases e)
theorem mem_ded (l : List S32) (x : S32) : x ∈ ded l ↔ x ∈ l := by
  have h := ded_mem l x l.length (Nat.le_refl _)
  rwa [List.take_length] at h
theorem mem_setN (l : List S32) (x : S32) : x ∈ setN l ↔ x ∈ l := (sortN_perm _).mem_iff.trans (mem_ded l x)
theorem ded_nodup : ∀ (l : List S32), (ded l).Nodup := by
  intro l
  have h : ∀ (l acc : List S32), acc.Nodup → (l.foldl (fun acc x => if x ∈ acc then acc else acc ++ [x]) acc).Nodup := by
    intro l
    induction l with
    | nil => intro acc h; exact h
    | cons x r ih =>
      intro acc h
      rw [List.foldl_cons]
      refine ih _ ?_
      split
      · exact h
      · rename_i hx
        refine List.nodup_append.2 ⟨h, List.nodup_cons.2 ⟨by simp, List.nodup_nil⟩, fun a ha b hb => ?_⟩
        simp at hb
        subst hb
        intro e
        subst e
        exact hx ha
  exact h l [] List.nodup_nil
theorem setN_set {l : List S32} (ht : ∀ x ∈ l, TinyN x) (hm : ∀ x ∈ l, mayN x = true) : IsSet (setN l) := by
  have hg : ∀ x ∈ setN l, GoodN x := fun x hx => mayN_good (ht x ((mem_setN l x).1 hx)) (hm x ((mem_setN l x).1 hx))
  refine ⟨hg, fun x hx => hm x ((mem_setN l x).1 hx), ?_⟩
  have hnd : (setN l).Nodup := (sortN_perm _).nodup_iff.2 (ded_nodup l)
  have hs := sortN_sorted (ded l) (fun y hy => mayN_good (ht y ((mem_ded l y).1 hy)) (hm y ((mem_ded l y).1 hy)))
  refine List.Pairwise.imp_of_mem (fun hx hy h => ?_) (List.Pairwise.and hs hnd)
  have := ordN_to.eq _ _ (hg _ hx) (hg _ hy)
  rcases Int.lt_or_eq_of_le h.1 with h1 | h1
  · exact h1
  · exact absurd (this.1 h1) h.2
theorem split_ahead (t : S32) (gt : GoodN t) : ∀ (l : List S32), (∀ x ∈ l, GoodN x) → l.Pairwise (fun x y => ordN x y < 0) →
    l.take (ahead l t) = l.filter (fun x => decide (ordN x t < 0)) ∧ l.drop (ahead l t) = l.filter (fun x => !decide (ordN x t < 0))
  | [], _, _ => ⟨by simp, by simp⟩
  | x :: r, hg, hs => by
    rw [List.pairwise_cons] at hs
    have ih := split_ahead t gt r (fun y hy => hg y (List.mem_cons_of_mem _ hy)) hs.2
    by_cases h : ordN x t < 0
    · have e : ahead (x :: r) t = ahead r t + 1 := by unfold ahead; rw [List.filter_cons_of_pos (by simp [h])]; rfl
      rw [e, List.take_succ_cons, List.drop_succ_cons, ih.1, ih.2, List.filter_cons_of_pos (by simp [h]), List.filter_cons_of_neg (by simp [h])]
      exact ⟨rfl, rfl⟩
    · have hn : ∀ y ∈ r, ¬ ordN y t < 0 := fun y hy h2 => h (ordN_to.tr x y t (hg x List.mem_cons_self) (hg y (List.mem_cons_of_mem _ hy)) gt (hs.1 y hy) h2)
      have f0 : (x :: r).filter (fun x => decide (ordN x t < 0)) = [] := by
        rw [List.filter_eq_nil_iff]
        intro y hy
        rcases List.mem_cons.1 hy with rfl | hy
        · simp only [decide_eq_true_eq]; exact h
        · simp only [decide_eq_true_eq]; exact hn y hy
      have e : ahead (x :: r) t = 0 := by unfold ahead; rw [f0]; rfl
      rw [e, f0]
      refine ⟨rfl, ?_⟩
      rw [List.drop_zero]
      refine (List.filter_eq_self.2 fun y hy => ?_).symm
      rcases List.mem_cons.1 hy with rfl | hy
      · simp [h]
      · simp [hn y hy]
/-- The reference's set with a node. -/
def rwithN (l : List S32) (t : S32) : List S32 := l.filter (fun x => decide (ordN x t < 0)) ++ [t] ++ l.filter (fun x => decide (ordN t x < 0))
theorem mem_rwithN {l : List S32} {t : S32} (hg : ∀ x ∈ l, GoodN x) (gt : GoodN t) (x : S32) : x ∈ rwithN l t ↔ x ∈ l ∨ x = t := by
  unfold rwithN
  simp only [List.mem_append, List.mem_filter, List.mem_singleton, decide_eq_true_eq]
  constructor
  · rintro ((h | h) | h)
    · exact Or.inl h.1
    · exact Or.inr h
    · exact Or.inl h.1
  · rintro (h | h)
    · have h1 := ordN_to.sym x t (hg x h) gt
      have h2 := ordN_to.eq x t (hg x h) gt
      rcases ordN_to.tri x t with e | e | e
      · exact Or.inl (Or.inl ⟨h, by omega⟩)
      · exact Or.inl (Or.inr (h2.1 e))
      · exact Or.inr ⟨h, by omega⟩
    · exact Or.inl (Or.inr h)
theorem rwithN_set {l : List S32} {t : S32} (h : IsSet l) (gt : GoodN t) (mt : mayN t = true) : IsSet (rwithN l t) := by
  refine ⟨fun x hx => ?_, fun x hx => ?_, ?_⟩
  · rcases (mem_rwithN h.good gt x).1 hx with e | e
    · exact h.good x e
    · subst e; exact gt
  · rcases (mem_rwithN h.good gt x).1 hx with e | e
    · exact h.may x e
    · subst e; exact mt
  · unfold rwithN
    rw [List.pairwise_append, List.pairwise_append]
    refine ⟨⟨h.lt.filter _, List.pairwise_singleton _ _, fun a ha b hb => ?_⟩, h.lt.filter _, fun a ha b hb => ?_⟩
    · simp only [List.mem_singleton] at hb
      subst hb
      exact of_decide_eq_true (List.mem_filter.1 ha).2
    · have hb1 := List.mem_filter.1 hb
      have hb2 : ordN t b < 0 := of_decide_eq_true hb1.2
      rcases List.mem_append.1 ha with ha | ha
      · have ha1 := List.mem_filter.1 ha
        exact ordN_to.tr a t b (h.good a ha1.1) gt (h.good b hb1.1) (of_decide_eq_true ha1.2) hb2
      · simp only [List.mem_singleton] at ha
        subst ha
        exact hb2
/-- The reference's set of a list. -/
def rsetN (l : List S32) : List S32 := l.foldl rwithN []
theorem rsetN_facts (l : List S32) (ht : ∀ x ∈ l, TinyN x) (hm : ∀ x ∈ l, mayN x = true) : ∀ (acc : List S32), IsSet acc → IsSet (l.foldl rwithN acc) ∧ ∀ x, x ∈ l.foldl rwithN acc ↔ x ∈ acc ∨ x ∈ l := by
  induction l with
  | nil => intro acc h; exact ⟨h, fun x => by simp⟩
  | cons y r ih =>
    intro acc h
    have my := hm y List.mem_cons_self
    have gy := mayN_good (ht y List.mem_cons_self) my
    rw [List.foldl_cons]
    have h2 := ih (fun x hx => ht x (List.mem_cons_of_mem _ hx)) (fun x hx => hm x (List.mem_cons_of_mem _ hx)) _ (rwithN_set h gy my)
    refine ⟨h2.1, fun x => (h2.2 x).trans ?_⟩
    rw [mem_rwithN h.good gy, List.mem_cons, or_assoc]
theorem setN_ref {l : List S32} (ht : ∀ x ∈ l, TinyN x) (hm : ∀ x ∈ l, mayN x = true) : setN l = rsetN l := by
  have h2 := rsetN_facts l ht hm [] IsSet.nil
  exact (setN_set ht hm).ext h2.1 (fun x => (mem_setN l x).trans (by rw [show rsetN l = l.foldl rwithN [] from rfl, h2.2 x]; simp))
set_option maxRecDepth 100000 in
theorem step_with {ops : Array Oper} {o : Oper} {ac : Act} {w W : World} {K : Act → World → Prop} {Q : Exit → Act → World → Prop} {E : Prop} (hg : o.guard = none) (s x : Operand) (hop : o.op = Op.call { callee := Callee.builtin Builtin.append, args := #[s, x], argTypes := #[22, 22] })
    {A0 : Option Addr} {l0 : List S32} {i : Nat} {B : Nat} {a b : ByteArray} (hr : Kd.C k32 w A0 l0.length l0) (hB : Below w.heap.size w W) (h0 : W.cell? ⟨B, 0, none⟩ = some (.string a)) (h1 : W.cell? ⟨B, 1, none⟩ = some (.string b))
    (hs : ac.eval s = .slice A0 i i) (hx : ac.eval x = .slice (some ⟨B, 0, none⟩) 1 1) (hi : i ≤ l0.length) (hl0 : l0.length ≤ 4294967296)
    (hK : ∀ v' w', Kd.R k32 32 w' w.heap.size (fun _ => True) v' (l0.take i ++ [⟨a, b⟩]) → Below w.heap.size w w' → K (ac.put o.dst v') w') :
    if Region.wanted o (yielded ops ac.tmps) = true then Oper.wp Tryz.prog o ac W K Q else E := by
  obtain ⟨i0, hi0, hzz⟩ := Option.map_eq_some_iff.1 info32
  simp only [Prod.mk.injEq] at hzz
  obtain ⟨hz0, hz1, hz2⟩ := hzz
  have ht := C_cells (Kd.C_take (Kd.C_below hr hB) hi)
  have hlt : (l0.take i).length = i := by rw [List.length_take]; omega
  refine step_append_grows hg s x 22 hop 32 i0 (.agg #[(.string ⟨#[]⟩), (.string ⟨#[]⟩)]) 2 32 Tryz.underlying22 hi0 hz0 hz1 hz2 rfl (by decide) A0 i i (cellsN (l0.take i)) hs ?_ (by rw [cellsN_len, hlt]) ht ⟨B, 0, none⟩ 1 1 [.string a, .string b] hx rfl ?_ ?_ (by omega) (by simp only [maxLen]; omega) (by omega) ?_
  · intro e
    have : ¬ 0 < i := fun hp => by obtain ⟨ad, e2, _⟩ := hr.2.2 (by omega); rw [e] at e2; cases e2
    omega
  · intro j u hu
    have hadd : (⟨B, 0, none⟩ : Addr).add j = ⟨B, j, none⟩ := by unfold Addr.add; split <;> simp_all
    rw [hadd]
    rcases j with _ | _ | j
    · injection hu with hu; subst hu; exact h0
    · injection hu with hu; subst hu; exact h1
    · simp at hu
  · intro u hu
    simp only [List.mem_cons, List.not_mem_nil, or_false] at hu
    rcases hu with rfl | rfl <;> rfl
  · intro v' w' hown hgrow
    refine hK v' w' (R_of_cells ?_ (fun _ _ => trivial)) (hB.grown hgrow hB.size (fun k hk => by cases hk))
    have h9 := hown.mono hB.size
    rw [show [Value.string a, Value.string b] = [.string (⟨a, b⟩ : S32).f0, .string (⟨a, b⟩ : S32).f1] from rfl, cellsN_snoc] at h9
    rw [List.length_append, hlt]
    exact h9
set_option maxRecDepth 100000 in
theorem step_rest {ops : Array Oper} {o : Oper} {ac : Act} {w W : World} {K : Act → World → Prop} {Q : Exit → Act → World → Prop} (hg : o.guard = none) (s x : Operand) (hop : o.op = Op.call { callee := Callee.builtin Builtin.append, args := #[s, x], argTypes := #[22, 22] })
    {A0 : Option Addr} {l0 xs : List S32} {i c0 : Nat} {v : Value} (hr : Kd.C k32 w A0 l0.length l0) (hc0 : l0.length ≤ c0) (hB : Below w.heap.size w W) (HO : Kd.R k32 32 W w.heap.size (fun _ => True) v xs)
    (hs : ac.eval s = v) (hx : ac.eval x = .slice (if c0 = i then A0 else A0.map (fun x => x.add (i * 2))) (l0.length - i) (c0 - i)) (hi : i ≤ l0.length) (hl0 : l0.length ≤ 4294967296) (hxs : xs.length ≤ 4294967297)
    (hK : ∀ v' w', Kd.R k32 32 w' w.heap.size (fun _ => True) v' (xs ++ l0.drop i) → Below w.heap.size w w' → K (ac.put o.dst v') w') :
    if Region.wanted o (yielded ops ac.tmps) = true then Oper.wp Tryz.prog o ac W K Q else K (ac.put o.dst undef) W := by
  have hw : Region.wanted o (yielded ops ac.tmps) = true := by simp [Region.wanted, hg]
  have hd := Kd.C_drop (c := c0) (Kd.C_below hr hB) hi hc0
  rw [List.length_drop] at hd
  exact Kd.R_append_rows_step k32 (w0 := w) w.heap.size hw s x 22 32 (.agg #[(.string ⟨#[]⟩), (.string ⟨#[]⟩)]) 32 hop Tryz.underlying22 info32 rfl (by decide) (by omega) v xs (l0.drop i) _ _ _ (fun _ => True) (fun _ => False) hs hx HO hd (fun _ _ h => h) (fun _ h => h.elim) (fun _ _ => trivial) hB hB.size (by omega) (fun v1 w1 h1 h2 _ _ => hK v1 w1 h1 h2)
set_option maxHeartbeats 4000000 in
set_option maxRecDepth 100000 in
theorem with_go (A0 : Option Addr) (c0 : Nat) (l0 : List S32) (a b : ByteArray) (r1 : Int) (r2 : Bool) (r3 : Int) (w : World) (hr0 : Kd.C k32 w A0 l0.length l0) (hc0 : l0.length ≤ c0) (hl0 : l0.length ≤ 4294967296)
    (hf : node_find.f l0 a b = some (r1, r2, r3)) (i : Nat) (hi : i ≤ l0.length) (h1 : r1 = (i : Int)) (h2 : r2 = false) (h3 : r3 = 0) :
    Calls Tryz.prog 17 #[.slice A0 l0.length c0, .agg #[.string a, .string b]] w fun e w' => ∃ v, e = .returned (.tuple #[v, .int .i64 0]) ∧ Kd.R k32 32 w' w.heap.size (fun _ => True) v (l0.take i ++ [⟨a, b⟩] ++ l0.drop i) ∧ Below w.heap.size w w' := by
  subst h1 h2 h3
  have HR0 := Aside0.mk hr0
  have hu23 := Tryz.underlying32
  have CF := fun (W : World) (h : Kd.C k32 W A0 l0.length l0) => node_find.calls A0 c0 l0 a b _ _ _ W h hc0 hf
  clear hr0 hf
  go_enter Tryz.func17, Tryz.ntmps17
  go_wp2_with fail
  refine (CF _ (Kd.C_alloc HR0.out _)).mono ?_
  rintro e w1 ⟨rfl, hb1⟩
  have HB1 : Aside0 (Below w.heap.size w w1) := ⟨(below_alloc (Below.refl _ _) _).trans (hb1.mono (by simp))⟩
  have n0 : w1.cell? ⟨w.heap.size, 0, none⟩ = some (.string a) := (hb1.cell (p := ⟨w.heap.size, 0, none⟩) (by simp)).trans (by simp [go_sem])
  have n1 : w1.cell? ⟨w.heap.size, 1, none⟩ = some (.string b) := (hb1.cell (p := ⟨w.heap.size, 1, none⟩) (by simp)).trans (by simp [go_sem])
  have hz1 : w.heap.size < w1.heap.size := by have := hb1.size; simp at this; omega
  have i1 : (i : Int) ≤ (l0.length : Int) := by omega
  have i2 : (i : Int) ≤ (c0 : Int) := by omega
  clear hb1 CF
  have mixed : Tryz.prog.follows Departure.mixedOrders = true := by kernel_rfl
  have hi0 : i ≤ l0.length := hi
  go_wp2_with fail
  go_region_law (first
    | (refine step_with rfl (.tmp 25) (.tmp 27) rfl (i := i) (B := w1.heap.size) (a := a) (b := b) HR0.out ?b1 ?b2 ?b3 (by simp [Act.eval, Act.put]) (by simp [Act.eval, Act.put]) hi0 hl0 ?bk; (case b1 => exact below_drew (below_alloc HB1.out _)); (case b2 => simp [go_sem]); (case b3 => simp [go_sem]); intro v28 w28 ho28 hb28; have HO28 := Aside0.mk ho28; have HB28 := Aside0.mk hb28; clear ho28 hb28)
    | (refine step_rest rfl (.tmp 28) (.tmp 31) rfl (A0 := A0) (i := i) (c0 := c0) (v := v28) (l0 := l0) (w := w) (xs := l0.take i ++ [⟨a, b⟩]) ?b6 ?b7 ?b8 ?b9 ?b10 ?b4 ?b11 ?b12 ?b5 ?bz; (case b6 => exact HR0.out); (case b7 => exact hc0); (case b8 => exact HB28.out); (case b9 => exact HO28.out); (case b10 => simp [Act.eval, Act.put]); (case b4 => simp [Act.eval, Act.put]); (case b11 => exact hi0); (case b12 => exact hl0); (case b5 => rw [List.length_append, List.length_take]; show _ + 1 ≤ _; omega); intro v32 w32 ho32 hb32; have HO32 := Aside0.mk ho32; have HB32 := Aside0.mk hb32; clear ho32 hb32))
  go_wp2
  all_goals
    go_ret2
    exact ⟨v32, rfl, by have h9 := HO32.out; rw [List.append_assoc] at h9; exact h9, HB32.out⟩
set_option maxHeartbeats 4000000 in
set_option maxRecDepth 100000 in
theorem with_is (A0 : Option Addr) (c0 : Nat) (l0 : List S32) (a b : ByteArray) (r1 : Int) (r2 : Bool) (r3 : Int) (w : World) (hr0 : Kd.C k32 w A0 l0.length l0) (hc0 : l0.length ≤ c0) (hl0 : l0.length ≤ 4294967296)
    (hf : node_find.f l0 a b = some (r1, r2, r3)) (h2 : r2 = true) (h3 : r3 = 0) :
    Calls Tryz.prog 17 #[.slice A0 l0.length c0, .agg #[.string a, .string b]] w fun e w' => ∃ v, e = .returned (.tuple #[v, .int .i64 0]) ∧ Kd.R k32 32 w' w.heap.size (fun _ => True) v l0 ∧ Below w.heap.size w w' := by
  subst h2 h3
  have HR0 := Aside0.mk hr0
  have hu23 := Tryz.underlying32
  have CF := fun (W : World) (h : Kd.C k32 W A0 l0.length l0) => node_find.calls A0 c0 l0 a b _ _ _ W h hc0 hf
  have CL := fun (W : World) (h : Kd.C k32 W A0 l0.length l0) => clone_calls A0 c0 l0 W h hl0
  clear hr0 hf
  go_enter Tryz.func17, Tryz.ntmps17
  go_wp2_with fail
  refine (CF _ (Kd.C_alloc HR0.out _)).mono ?_
  rintro e w1 ⟨rfl, hb1⟩
  have HB1 : Aside0 (Below w.heap.size w w1) := ⟨(below_alloc (Below.refl _ _) _).trans (hb1.mono (by simp))⟩
  clear hb1 CF
  go_wp2_with fail
  refine (CL _ (Kd.C_below HR0.out HB1.out)).mono ?_
  rintro e w2 ⟨v2, rfl, ho2, hb2⟩
  have HO2 : Aside0 (Kd.R k32 32 w2 w.heap.size (fun _ => True) v2 l0) := ⟨Kd.R_lower ho2 HB1.out.size⟩
  have HB2 : Aside0 (Below w.heap.size w w2) := ⟨HB1.out.trans (hb2.mono HB1.out.size)⟩
  clear ho2 hb2 CL
  go_wp2
  go_ret2
  exact ⟨v2, rfl, HO2.out, HB2.out⟩
set_option maxHeartbeats 4000000 in
set_option maxRecDepth 100000 in
theorem with_err (A0 : Option Addr) (c0 : Nat) (l0 : List S32) (a b : ByteArray) (r1 : Int) (r2 : Bool) (r3 : Int) (w : World) (hr0 : Kd.C k32 w A0 l0.length l0) (hc0 : l0.length ≤ c0)
    (hf : node_find.f l0 a b = some (r1, r2, r3)) (h3 : r3 = 1) :
    Calls Tryz.prog 17 #[.slice A0 l0.length c0, .agg #[.string a, .string b]] w fun e w' => ∃ v, e = .returned (.tuple #[v, .int .i64 1]) ∧ Kd.R k32 32 w' w.heap.size (fun _ => True) v [] ∧ Below w.heap.size w w' := by
  subst h3
  have HR0 := Aside0.mk hr0
  have hu23 := Tryz.underlying32
  have CF := fun (W : World) (h : Kd.C k32 W A0 l0.length l0) => node_find.calls A0 c0 l0 a b _ _ _ W h hc0 hf
  clear hr0 hf
  go_enter Tryz.func17, Tryz.ntmps17
  go_wp2_with fail
  refine (CF _ (Kd.C_alloc HR0.out _)).mono ?_
  rintro e w1 ⟨rfl, hb1⟩
  have HB1 : Aside0 (Below w.heap.size w w1) := ⟨(below_alloc (Below.refl _ _) _).trans (hb1.mono (by simp))⟩
  clear hb1 CF
  go_wp2
  go_ret2
  exact ⟨_, rfl, Kd.R_nil _ _ _ _ _, HB1.out⟩
/-- A set with a node. -/
def withN (l : List S32) (t : S32) : List S32 := if t ∈ l then l else l.take (ahead l t) ++ [t] ++ l.drop (ahead l t)
theorem ahead_le (l : List S32) (t : S32) : ahead l t ≤ l.length := List.length_filter_le _ _
def node_With.f (l : List S32) (a b : ByteArray) : Option (List S32 × Int) := if l.length ≤ 4294967296 ∧ (∀ x ∈ l, TinyN x) ∧ TinyN ⟨a, b⟩ then some (if checkN l = true ∧ mayN ⟨a, b⟩ = true then (withN l ⟨a, b⟩, 0) else ([], 1)) else none
theorem node_With.calls (A0 : Option Addr) (c0 : Nat) (l0 : List S32) (a1_0 a1_1 : ByteArray) (r1 : List S32) (r2 : Int) (w : World) (hr0 : Kd.C k32 w A0 l0.length l0) (hc0 : l0.length ≤ c0) (h : node_With.f l0 a1_0 a1_1 = some (r1, r2)) :
    Calls Tryz.prog 17 #[.slice A0 l0.length c0, .agg #[.string a1_0, .string a1_1]] w fun e w' => ∃ v, e = .returned (.tuple #[v, .int .i64 r2]) ∧ Kd.R k32 32 w' w.heap.size (fun _ => True) v r1 ∧ Below w.heap.size w w' := by
  unfold node_With.f at h
  split at h
  case isFalse => cases h
  case isTrue hc =>
    have hf := show node_find.f l0 a1_0 a1_1 = some (if checkN l0 = true ∧ mayN ⟨a1_0, a1_1⟩ = true then (((ahead l0 ⟨a1_0, a1_1⟩ : Nat) : Int), decide ((⟨a1_0, a1_1⟩ : S32) ∈ l0), (0 : Int)) else (0, false, 1)) from if_pos hc
    by_cases hk : checkN l0 = true ∧ mayN ⟨a1_0, a1_1⟩ = true
    · rw [if_pos hk] at hf h
      simp only [Option.some.injEq, Prod.mk.injEq] at h
      obtain ⟨rfl, rfl⟩ := h
      unfold withN
      by_cases hm : (⟨a1_0, a1_1⟩ : S32) ∈ l0
      · rw [if_pos hm]
        exact with_is A0 c0 l0 a1_0 a1_1 _ _ _ w hr0 hc0 hc.1 hf (decide_eq_true hm) rfl
      · rw [if_neg hm]
        exact with_go A0 c0 l0 a1_0 a1_1 _ _ _ w hr0 hc0 hc.1 hf _ (ahead_le _ _) rfl (decide_eq_false hm) rfl
    · rw [if_neg hk] at hf h
      simp only [Option.some.injEq, Prod.mk.injEq] at h
      obtain ⟨rfl, rfl⟩ := h
      exact with_err A0 c0 l0 a1_0 a1_1 _ _ _ w hr0 hc0 hf rfl
theorem withN_ref {l : List S32} {t : S32} (h : IsSet l) (gt : GoodN t) (mt : mayN t = true) : withN l t = rwithN l t := by
  unfold withN
  split
  · rename_i hm
    exact h.ext (rwithN_set h gt mt) (fun x => by
      rw [mem_rwithN h.good gt]
      exact ⟨Or.inl, fun e => e.elim id (fun e => by rw [e]; exact hm)⟩)
  · rename_i hm
    have hs := split_ahead t gt l h.good h.lt
    rw [hs.1, hs.2]
    unfold rwithN
    congr 1
    refine List.filter_congr fun x hx => ?_
    have h1 := ordN_to.sym x t (h.good x hx) gt
    have h2 := ordN_to.eq x t (h.good x hx) gt
    have h3 : x ≠ t := fun e => hm (by rw [← e]; exact hx)
    rcases ordN_to.tri x t with e | e | e
    · rw [decide_eq_true (by omega : ordN x t < 0), decide_eq_false (by omega : ¬ ordN t x < 0)]; rfl
    · exact absurd (h2.1 e) h3
    · rw [decide_eq_false (by omega : ¬ ordN x t < 0), decide_eq_true (by omega : ordN t x < 0)]; rfl
theorem withN_set {l : List S32} {t : S32} (h : IsSet l) (gt : GoodN t) (mt : mayN t = true) : IsSet (withN l t) := by
  rw [withN_ref h gt mt]; exact rwithN_set h gt mt
theorem mem_withN {l : List S32} {t : S32} (h : IsSet l) (gt : GoodN t) (mt : mayN t = true) (x : S32) : x ∈ withN l t ↔ x ∈ l ∨ x = t := by
  rw [withN_ref h gt mt]; exact mem_rwithN h.good gt x
set_option maxHeartbeats 4000000 in
set_option maxRecDepth 100000 in
theorem wout_is (A0 : Option Addr) (c0 : Nat) (l0 : List S32) (a b : ByteArray) (r1 : Int) (r2 : Bool) (r3 : Int) (w : World) (hr0 : Kd.C k32 w A0 l0.length l0) (hc0 : l0.length ≤ c0) (hl0 : l0.length ≤ 4294967296)
    (hf : node_find.f l0 a b = some (r1, r2, r3)) (i : Nat) (hi : i < l0.length) (h1 : r1 = (i : Int)) (h2 : r2 = true) (h3 : r3 = 0) :
    Calls Tryz.prog 18 #[.slice A0 l0.length c0, .agg #[.string a, .string b]] w fun e w' => ∃ v, e = .returned (.tuple #[v, .int .i64 0]) ∧ Kd.R k32 32 w' w.heap.size (fun _ => True) v (l0.take i ++ l0.drop (i + 1)) ∧ Below w.heap.size w w' := by
  subst h1 h2 h3
  have HR0 := Aside0.mk hr0
  have hu23 := Tryz.underlying32
  have CF := fun (W : World) (h : Kd.C k32 W A0 l0.length l0) => node_find.calls A0 c0 l0 a b _ _ _ W h hc0 hf
  have CL := fun (W : World) (h : Kd.C k32 W A0 l0.length l0) => clone_calls A0 c0 l0 W h hl0
  have CD := fun (W : World) (base : Nat) (v : Value) (h : Kd.R k32 32 W base (fun _ => True) v l0) (hs : base ≤ W.heap.size) => delete_calls l0 i hi hl0 W base v h hs
  have hwr : IntKind.i64.wrap ((i : Int) + 1) = (i : Int) + 1 := by rw [IntKind.wrap_i64]; omega
  clear hr0 hf
  go_enter Tryz.func18, Tryz.ntmps18
  go_wp2_with fail
  refine (CF _ (Kd.C_alloc HR0.out _)).mono ?_
  rintro e w1 ⟨rfl, hb1⟩
  have HB1 : Aside0 (Below w.heap.size w w1) := ⟨(below_alloc (Below.refl _ _) _).trans (hb1.mono (by simp))⟩
  clear hb1 CF
  go_wp2_with fail
  refine (CL _ (Kd.C_below HR0.out HB1.out)).mono ?_
  rintro e w2 ⟨v2, rfl, ho2, hb2⟩
  have HO2 : Aside0 (Kd.R k32 32 w2 w.heap.size (fun _ => True) v2 l0) := ⟨Kd.R_lower ho2 HB1.out.size⟩
  have HB2 : Aside0 (Below w.heap.size w w2) := ⟨HB1.out.trans (hb2.mono HB1.out.size)⟩
  clear ho2 hb2 CL
  go_wp2_with fail
  refine (CD _ w.heap.size v2 HO2.out HB2.out.size).mono ?_
  rintro e w3 ⟨v3, rfl, ho3, hb3⟩
  have HO3 := Aside0.mk ho3
  have HB3 : Aside0 (Below w.heap.size w w3) := ⟨HB2.out.trans hb3⟩
  clear ho3 hb3 CD
  go_wp2
  go_ret2
  exact ⟨v3, rfl, HO3.out, HB3.out⟩
set_option maxHeartbeats 4000000 in
set_option maxRecDepth 100000 in
theorem wout_not (A0 : Option Addr) (c0 : Nat) (l0 : List S32) (a b : ByteArray) (r1 : Int) (r2 : Bool) (r3 : Int) (w : World) (hr0 : Kd.C k32 w A0 l0.length l0) (hc0 : l0.length ≤ c0) (hl0 : l0.length ≤ 4294967296)
    (hf : node_find.f l0 a b = some (r1, r2, r3)) (h2 : r2 = false) (h3 : r3 = 0) :
    Calls Tryz.prog 18 #[.slice A0 l0.length c0, .agg #[.string a, .string b]] w fun e w' => ∃ v, e = .returned (.tuple #[v, .int .i64 0]) ∧ Kd.R k32 32 w' w.heap.size (fun _ => True) v l0 ∧ Below w.heap.size w w' := by
  subst h2 h3
  have HR0 := Aside0.mk hr0
  have hu23 := Tryz.underlying32
  have CF := fun (W : World) (h : Kd.C k32 W A0 l0.length l0) => node_find.calls A0 c0 l0 a b _ _ _ W h hc0 hf
  have CL := fun (W : World) (h : Kd.C k32 W A0 l0.length l0) => clone_calls A0 c0 l0 W h hl0
  clear hr0 hf
  go_enter Tryz.func18, Tryz.ntmps18
  go_wp2_with fail
  refine (CF _ (Kd.C_alloc HR0.out _)).mono ?_
  rintro e w1 ⟨rfl, hb1⟩
  have HB1 : Aside0 (Below w.heap.size w w1) := ⟨(below_alloc (Below.refl _ _) _).trans (hb1.mono (by simp))⟩
  clear hb1 CF
  go_wp2_with fail
  refine (CL _ (Kd.C_below HR0.out HB1.out)).mono ?_
  rintro e w2 ⟨v2, rfl, ho2, hb2⟩
  have HO2 : Aside0 (Kd.R k32 32 w2 w.heap.size (fun _ => True) v2 l0) := ⟨Kd.R_lower ho2 HB1.out.size⟩
  have HB2 : Aside0 (Below w.heap.size w w2) := ⟨HB1.out.trans (hb2.mono HB1.out.size)⟩
  clear ho2 hb2 CL
  go_wp2
  go_ret2
  exact ⟨v2, rfl, HO2.out, HB2.out⟩
set_option maxHeartbeats 4000000 in
set_option maxRecDepth 100000 in
theorem wout_err (A0 : Option Addr) (c0 : Nat) (l0 : List S32) (a b : ByteArray) (r1 : Int) (r2 : Bool) (r3 : Int) (w : World) (hr0 : Kd.C k32 w A0 l0.length l0) (hc0 : l0.length ≤ c0)
    (hf : node_find.f l0 a b = some (r1, r2, r3)) (h3 : r3 = 1) :
    Calls Tryz.prog 18 #[.slice A0 l0.length c0, .agg #[.string a, .string b]] w fun e w' => ∃ v, e = .returned (.tuple #[v, .int .i64 1]) ∧ Kd.R k32 32 w' w.heap.size (fun _ => True) v [] ∧ Below w.heap.size w w' := by
  subst h3
  have HR0 := Aside0.mk hr0
  have hu23 := Tryz.underlying32
  have CF := fun (W : World) (h : Kd.C k32 W A0 l0.length l0) => node_find.calls A0 c0 l0 a b _ _ _ W h hc0 hf
  clear hr0 hf
  go_enter Tryz.func18, Tryz.ntmps18
  go_wp2_with fail
  refine (CF _ (Kd.C_alloc HR0.out _)).mono ?_
  rintro e w1 ⟨rfl, hb1⟩
  have HB1 : Aside0 (Below w.heap.size w w1) := ⟨(below_alloc (Below.refl _ _) _).trans (hb1.mono (by simp))⟩
  clear hb1 CF
  go_wp2
  go_ret2
  exact ⟨_, rfl, Kd.R_nil _ _ _ _ _, HB1.out⟩
/-- A set without a node. -/
def woutN (l : List S32) (t : S32) : List S32 := if t ∈ l then l.take (ahead l t) ++ l.drop (ahead l t + 1) else l
theorem ahead_lt {l : List S32} {t : S32} (hm : t ∈ l) (ht : GoodN t) : ahead l t < l.length := by
  refine Nat.lt_of_le_of_ne (List.length_filter_le _ _) (fun e => ?_)
  have h := (List.length_filter_eq_length_iff.1 e) t hm
  rw [(ordN_to.eq t t ht ht).2 rfl] at h
  exact absurd h (by decide)
def node_Without.f (l : List S32) (a b : ByteArray) : Option (List S32 × Int) := if l.length ≤ 4294967296 ∧ (∀ x ∈ l, TinyN x) ∧ TinyN ⟨a, b⟩ then some (if checkN l = true ∧ mayN ⟨a, b⟩ = true then (woutN l ⟨a, b⟩, 0) else ([], 1)) else none
theorem node_Without.calls (A0 : Option Addr) (c0 : Nat) (l0 : List S32) (a1_0 a1_1 : ByteArray) (r1 : List S32) (r2 : Int) (w : World) (hr0 : Kd.C k32 w A0 l0.length l0) (hc0 : l0.length ≤ c0) (h : node_Without.f l0 a1_0 a1_1 = some (r1, r2)) :
    Calls Tryz.prog 18 #[.slice A0 l0.length c0, .agg #[.string a1_0, .string a1_1]] w fun e w' => ∃ v, e = .returned (.tuple #[v, .int .i64 r2]) ∧ Kd.R k32 32 w' w.heap.size (fun _ => True) v r1 ∧ Below w.heap.size w w' := by
  unfold node_Without.f at h
  split at h
  case isFalse => cases h
  case isTrue hc =>
    have hf := show node_find.f l0 a1_0 a1_1 = some (if checkN l0 = true ∧ mayN ⟨a1_0, a1_1⟩ = true then (((ahead l0 ⟨a1_0, a1_1⟩ : Nat) : Int), decide ((⟨a1_0, a1_1⟩ : S32) ∈ l0), (0 : Int)) else (0, false, 1)) from if_pos hc
    by_cases hk : checkN l0 = true ∧ mayN ⟨a1_0, a1_1⟩ = true
    · rw [if_pos hk] at hf h
      simp only [Option.some.injEq, Prod.mk.injEq] at h
      obtain ⟨rfl, rfl⟩ := h
      unfold woutN
      by_cases hm : (⟨a1_0, a1_1⟩ : S32) ∈ l0
      · rw [if_pos hm]
        exact wout_is A0 c0 l0 a1_0 a1_1 _ _ _ w hr0 hc0 hc.1 hf _ (ahead_lt hm (mayN_good hc.2.2 hk.2)) rfl (decide_eq_true hm) rfl
      · rw [if_neg hm]
        exact wout_not A0 c0 l0 a1_0 a1_1 _ _ _ w hr0 hc0 hc.1 hf (decide_eq_false hm) rfl
    · rw [if_neg hk] at hf h
      simp only [Option.some.injEq, Prod.mk.injEq] at h
      obtain ⟨rfl, rfl⟩ := h
      exact wout_err A0 c0 l0 a1_0 a1_1 _ _ _ w hr0 hc0 hf rfl
theorem at_ahead {l : List S32} {t : S32} (h : IsSet l) (gt : GoodN t) (hm : t ∈ l) (hl : ahead l t < l.length) : l[ahead l t] = t := by
  have hs := split_ahead t gt l h.good h.lt
  have hd := List.drop_eq_getElem_cons hl
  have hin : t ∈ l.drop (ahead l t) := by
    rw [hs.2, List.mem_filter]
    exact ⟨hm, by rw [ordN_self gt]; rfl⟩
  have hh : l[ahead l t] ∈ l.filter (fun x => !decide (ordN x t < 0)) := by rw [← hs.2, hd]; exact List.mem_cons_self
  have h1 := (List.mem_filter.1 hh).2
  have h1' : ¬ ordN l[ahead l t] t < 0 := fun e => by rw [decide_eq_true e] at h1; cases h1
  rw [hd] at hin
  rcases List.mem_cons.1 hin with e | e
  · exact e.symm
  · have hp := h.lt.sublist (List.drop_sublist (ahead l t) l)
    rw [hd, List.pairwise_cons] at hp
    exact absurd (hp.1 t e) h1'
theorem woutN_eq {l : List S32} {t : S32} (h : IsSet l) (gt : GoodN t) : woutN l t = l.filter (fun x => !decide (x ∈ [t])) := by
  unfold woutN
  split
  · rename_i hm
    have hl := ahead_lt hm gt
    have ha := at_ahead h gt hm hl
    have e : l = l.take (ahead l t) ++ t :: l.drop (ahead l t + 1) := by
      conv => lhs; rw [← List.take_append_drop (ahead l t) l, List.drop_eq_getElem_cons hl, ha]
    have hnd := h.nodup
    rw [e] at hnd
    have hnd2 := List.nodup_append.1 hnd
    have n1 : ∀ x ∈ l.take (ahead l t), x ≠ t := fun x hx => hnd2.2.2 x hx t List.mem_cons_self
    have n2 : t ∉ l.drop (ahead l t + 1) := (List.nodup_cons.1 hnd2.2.1).1
    conv => rhs; rw [e]
    rw [List.filter_append, List.filter_cons_of_neg (by simp), List.filter_eq_self.2 (fun x hx => by simp [n1 x hx]), List.filter_eq_self.2 (fun x hx => by
      have : x ≠ t := fun e2 => by subst e2; exact n2 hx
      simp [this])]
  · rename_i hm
    refine (List.filter_eq_self.2 fun x hx => ?_).symm
    have : x ≠ t := fun e2 => by subst e2; exact hm hx
    simp [this]
theorem woutN_set {l : List S32} {t : S32} (h : IsSet l) (gt : GoodN t) : IsSet (woutN l t) := by rw [woutN_eq h gt]; exact h.filter _
theorem mem_woutN {l : List S32} {t : S32} (h : IsSet l) (gt : GoodN t) (x : S32) : x ∈ woutN l t ↔ x ∈ l ∧ x ≠ t := by
  rw [woutN_eq h gt, List.mem_filter]
  simp
theorem rminus_l0 (l m : List S32) (hl : l.length ≤ 4294967296) (hm : m.length ≤ 4294967296) : ∀ (n i k : Nat), l.length ≤ i + n → i ≤ l.length → n + m.length + 2 ≤ k →
    graftwoodref05_Minus.l0 k l m ((l.take i).filter (fun x => !decide (x ∈ m))) (i : Int) = some (l.filter (fun x => !decide (x ∈ m))) := by
  intro n
  induction n with
  | zero =>
    intro i k h1 h2 hk
    obtain ⟨j, rfl⟩ : ∃ j, k = j + 1 := ⟨k - 1, by omega⟩
    simp only [graftwoodref05_Minus.l0]
    rw [if_neg (by omega), List.take_of_length_le (by omega)]
  | succ n ih =>
    intro i k h1 h2 hk
    obtain ⟨j, rfl⟩ : ∃ j, k = j + 1 := ⟨k - 1, by omega⟩
    by_cases hi : i < l.length
    · have hwr : wrap64 ((i : Int) + 1) = ((i + 1 : Nat) : Int) := by unfold wrap64; omega
      have hlen : ((l.take i).filter (fun x => !decide (x ∈ m))).length ≤ i := Nat.le_trans (List.length_filter_le _ _) (by rw [List.length_take]; omega)
      simp only [graftwoodref05_Minus.l0]
      rw [if_pos (by omega), if_pos (by omega), rd_nat hi, has_val m l[i] hm j (by omega)]
      simp only [Option.bind_some]
      have h9 := ih (i + 1) j (by omega) (by omega) (by omega)
      rw [List.take_succ_eq_append_getElem hi, List.filter_append] at h9
      rw [hwr]
      by_cases e : l[i] ∈ m
      · rw [decide_eq_true e, if_pos rfl]
        rw [List.filter_cons_of_neg (by simp [e]), List.filter_nil, List.append_nil] at h9
        exact h9
      · rw [decide_eq_false e, if_neg (by decide), if_pos (by omega)]
        rw [List.filter_cons_of_pos (by simp [e]), List.filter_nil] at h9
        exact h9
    · exact ih i (j + 1) (by omega) h2 (by omega)
theorem rminus_val (l m : List S32) (hl : l.length ≤ 4294967296) (hm : m.length ≤ 4294967296) (k : Nat) (hk : l.length + m.length + 2 ≤ k) : graftwoodref05_Minus.f k l m = some (l.filter (fun x => !decide (x ∈ m))) :=
  rminus_l0 l m hl hm l.length 0 k (by omega) (Nat.zero_le _) hk
end Go.Proofs.YtnknjhdpjjddeaaGreatDoor.Q
end
