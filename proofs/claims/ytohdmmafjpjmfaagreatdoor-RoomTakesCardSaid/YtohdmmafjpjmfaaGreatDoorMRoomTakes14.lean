/- Part 14 of this claim: several texts one behind the other: EvU1, EvU2, EvR14, EvRFits, EvRRoots, EvRTakes. What each shows stands in its theorems; conditions: sizes of texts and lists, as the functions' definitions say. -/
import Derived.Test.YtohdmmafjpjmfaaGreatDoorMRoomTakes13
import Derived.Test.YtohdmmafjpjmfaaGreatDoorMRoomTakes6
import Derived.Test.YtohdmmafjpjmfaaGreatDoorMRoomTakes11
import Derived.Test.YtohdmmafjpjmfaaGreatDoorMRoomTakes2
section
namespace Go.Proofs.YtohdmmafjpjmfaaGreatDoor.Q
open Go.Proofs.YtohdmmafjpjmfaaGreatDoor.QB.D
open Go Go.RowKit Go.Lib Go.Proofs.YtohdmmafjpjmfaaGreatDoorW.PrintWords Go.Ev
set_option linter.unusedVariables false
set_option maxRecDepth 100000
def fewU (u : UV) : UV := ⟨u.m, u.e, fewE u.s⟩
def fitsU (lm ln le : Int) (u : UV) : Int := if u.m > lm then 8 else if (u.s.length : Int) > ln then 9 else if u.e > le then 10 else 0
theorem okU_eq (u : UV) : okU u = (decide (0 ≤ u.m ∧ u.m ≤ 1099511627776) && (decide (0 ≤ u.e ∧ u.e ≤ 1099511627776) && (checkE u.s && !u.s.any (fun x => decide (x.f1 < 0))))) := by
  unfold okU
  rw [Bool.eq_iff_iff]
  simp only [Bool.and_eq_true, decide_eq_true_eq, List.all_eq_true, Bool.not_eq_true', List.any_eq_false, decide_eq_false_iff_not]
  constructor
  · rintro ⟨⟨h1, h2, h3, h4⟩, h5, h6⟩; exact ⟨⟨h1, h2⟩, ⟨h3, h4⟩, h5, fun x hx => by simpa using h6 x hx⟩
  · rintro ⟨⟨h1, h2⟩, ⟨h3, h4⟩, h5, h6⟩; exact ⟨⟨h1, h2, h3, h4⟩, h5, fun x hx => by simpa using h6 x hx⟩
def evU (u : UV) : PV := .ag [.s (.int .i64 u.m), .s (.int .i64 u.e), .sl 0 3 (u.s.map evE)]
theorem few1_pc (s : ByteArray) : PC 34 [.s (.string s)] (.s (.string (few s))) := by
  refine pc_of tt_ok tt_follows Tryz.func34 rfl (by kernel_rfl) (by kernel_rfl) (Nat.le_of_ble_eq_true rfl) rfl ?_
  conv => whnf
  constructor
  · intro h
    have h' : (s.size : Int) > 400 := by simpa using h
    conv => whnf
    refine ⟨⟨by decide, by decide, by show (400 : Int) ≤ s.size; omega⟩, ?_⟩
    conv => whnf
    unfold few
    rw [if_pos h'] <;> rfl
  · intro h
    have h' : ¬ (s.size : Int) > 400 := by simpa using h
    conv => whnf
    unfold few
    rw [if_neg h']
theorem one5_pc (x : S34) : PC 14 [evN x] (evN (oneN x)) := by
  refine pc_of tt_ok tt_follows Tryz.func14 rfl (by kernel_rfl) (by kernel_rfl) (Nat.le_of_ble_eq_true rfl) rfl ?_
  conv => whnf
  refine ⟨_, few1_pc x.f0, ?_⟩
  conv => whnf
  refine ⟨_, few1_pc x.f1, ?_⟩
  conv => whnf
  refine ⟨by kernel_rfl, ?_⟩
  conv => whnf
  rfl
theorem len_le_of {n k : Nat} (h : n ≤ 100) (hk : k ≤ 100) : n + 1 ≤ maxLen ∧ (n + 1) * k ≤ 140737488355328 := by
  constructor
  · unfold maxLen; omega
  · have : (n + 1) * k ≤ 101 * 100 := Nat.mul_le_mul (by omega) hk
    omega
theorem few5_pc (l : List S34) : PC 22 [.sl 0 2 (l.map evN)] (.sl 4 2 ((fewN l).map evN)) := by
  refine pc_of tt_ok tt_follows Tryz.func22 rfl (by kernel_rfl) (by kernel_rfl) (Nat.le_of_ble_eq_true rfl) rfl ?_
  conv => whnf
  refine ⟨Nat, fun i => i ≤ l.length ∧ i ≤ 24, fun i => [(9, .sl 24 2 (((l.take i).map oneN).map evN)), (12, .s (.int .i64 i)), (68, .fr (((l.take i).map oneN).map evN).length 2)], [0, 6], fun i => l.length - i, 0, ⟨Nat.zero_le _, Nat.zero_le _⟩, ?_, fun i hi => ?_⟩
  · exact ⟨⟨⟨rfl, Or.inr rfl, Or.inr (Or.inr rfl)⟩, Nat.le_refl _, rfl, trivial, Or.inl rfl, trivial, trivial⟩, ⟨rfl, trivial, rfl, trivial, trivial⟩⟩
  · obtain ⟨h1, h2⟩ := hi
    conv => whnf
    constructor
    · intro h
      have hil := ltm h
      conv => whnf
      constructor
      · intro h
        have hi24 : i < 24 := by have := of_decide_eq_true h; omega
        conv => whnf
        refine ⟨_, idx_map evN l i hil, ?_⟩
        conv => whnf
        refine ⟨_, one5_pc l[i], ?_⟩
        conv => whnf
        refine ⟨by rw [List.length_map, List.length_map, List.length_take]; exact len_le_of (by omega) (by decide), ?_⟩
        conv => whnf
        refine ⟨rfl, ?_⟩
        conv => whnf
        refine ⟨i + 1, ⟨hil, hi24⟩, less1 hil, ⟨⟨⟨?_, Or.inl rfl, Or.inr (Or.inl rfl)⟩, Nat.le_refl _, incI hi24 (by decide), trivial, Or.inr ?_, trivial, trivial⟩, ⟨rfl, trivial, rfl, trivial, trivial⟩⟩⟩
        · rw [take_succ_map, List.map_append] <;> rfl
        · rw [take_succ_map _ _ _ hil, List.map_append] <;> rfl
      · intro h
        have hi24 : ¬ i < 24 := by have := of_decide_eq_false h; omega
        conv => whnf
        refine ⟨?_, Or.inl rfl, Or.inr rfl⟩
        unfold fewN
        obtain rfl : i = 24 := by omega
        rfl
    · intro h
      have hil := gem h h1
      conv => whnf
      refine ⟨?_, Or.inl rfl, Or.inr rfl⟩
      unfold fewN
      rw [List.take_of_length_le (by omega), List.take_of_length_le (by omega)]
theorem few13_pc (l : List S48) : PC 29 [.sl 0 3 (l.map evE)] (.sl 5 3 ((fewE l).map evE)) := by
  refine pc_of tt_ok tt_follows Tryz.func29 rfl (by kernel_rfl) (by kernel_rfl) (Nat.le_of_ble_eq_true rfl) rfl ?_
  conv => whnf
  refine ⟨Nat, fun i => i ≤ l.length ∧ i ≤ 20, fun i => [(9, .sl 31 3 (((l.take i).map oneE).map evE)), (12, .s (.int .i64 i)), (89, .fr (((l.take i).map oneE).map evE).length 3)], [0, 6], fun i => l.length - i, 0, ⟨Nat.zero_le _, Nat.zero_le _⟩, ?_, fun i hi => ?_⟩
  · exact ⟨⟨⟨rfl, Or.inr rfl, Or.inr (Or.inr rfl)⟩, Nat.le_refl _, rfl, trivial, Or.inl rfl, trivial, trivial⟩, ⟨rfl, trivial, rfl, trivial, trivial⟩⟩
  · obtain ⟨h1, h2⟩ := hi
    conv => whnf
    constructor
    · intro h
      have hil := ltm h
      conv => whnf
      constructor
      · intro h
        have hi24 : i < 20 := by have := of_decide_eq_true h; omega
        conv => whnf
        refine ⟨_, idx_map evE l i hil, ?_⟩
        conv => whnf
        refine ⟨_, one5_pc l[i].f0, ?_⟩
        conv => whnf
        refine ⟨_, idx_map evE l i hil, ?_⟩
        conv => whnf
        refine ⟨by rw [List.length_map, List.length_map, List.length_take]; exact len_le_of (by omega) (by decide), ?_⟩
        conv => whnf
        refine ⟨rfl, ?_⟩
        conv => whnf
        refine ⟨by kernel_rfl, ?_⟩
        conv => whnf
        refine ⟨i + 1, ⟨hil, hi24⟩, less1 hil, ⟨⟨⟨?_, Or.inl rfl, Or.inr (Or.inl rfl)⟩, Nat.le_refl _, incI hi24 (by decide), trivial, Or.inr ?_, trivial, trivial⟩, ⟨rfl, trivial, rfl, trivial, trivial⟩⟩⟩
        · rw [take_succ_map, List.map_append] <;> rfl
        · rw [take_succ_map _ _ _ hil, List.map_append] <;> rfl
      · intro h
        have hi24 : ¬ i < 20 := by have := of_decide_eq_false h; omega
        conv => whnf
        refine ⟨?_, Or.inl rfl, Or.inr rfl⟩
        unfold fewE
        obtain rfl : i = 20 := by omega
        rfl
    · intro h
      have hil := gem h h1
      conv => whnf
      refine ⟨?_, Or.inl rfl, Or.inr rfl⟩
      unfold fewE
      rw [List.take_of_length_le (by omega), List.take_of_length_le (by omega)]
theorem few14_pc (u : UV) : PC 10 [evU u] (evU (fewU u)) := by
  refine pc_of tt_ok tt_follows Tryz.func10 rfl (by kernel_rfl) (by kernel_rfl) (Nat.le_of_ble_eq_true rfl) rfl ?_
  conv => whnf
  refine ⟨_, few13_pc u.s, ?_⟩
  conv => whnf
  rfl
theorem within_pc (n : Int) : PC 31 [.s (.int .i64 n)] (.s (.bool (decide (0 ≤ n ∧ n ≤ 1099511627776)))) := by
  refine pc_of tt_ok tt_follows Tryz.func31 rfl (by kernel_rfl) (by kernel_rfl) (Nat.le_of_ble_eq_true rfl) rfl ?_
  conv => whnf
  constructor
  · intro h
    conv => whnf
    have : (decide (0 ≤ n ∧ n ≤ 1099511627776)) = decide (n ≤ 1099511627776) := by
      have h' : n ≥ 0 := by simpa using h
      rw [decide_eq_decide]; omega
    rw [this]
  · intro h
    conv => whnf
    have : (decide (0 ≤ n ∧ n ≤ 1099511627776)) = false := by
      have h' : ¬ n ≥ 0 := by simpa using h
      rw [decide_eq_false_iff_not]; omega
    rw [this] <;> rfl
theorem neg_pc (x : S48) : PC 30 [evE x] (.s (.bool (decide (x.f1 < 0)))) := by
  refine pc_of tt_ok tt_follows Tryz.func30 rfl (by kernel_rfl) (by kernel_rfl) (Nat.le_of_ble_eq_true rfl) rfl ?_
  conv => whnf
def idxI {α : Type} (p : α → Bool) (l : List α) : Int := if l.any p then ((l.findIdx p : Nat) : Int) else -1
theorem idxI_hit {α : Type} {p : α → Bool} {l : List α} {i : Nat} (h : i < l.length) (hp : p l[i] = true) (hn : ∀ j (hj : j < l.length), j < i → p l[j] = false) : idxI p l = i := by
  unfold idxI
  rw [if_pos (List.any_eq_true.2 ⟨_, List.getElem_mem h, hp⟩)]
  congr 1
  exact (List.findIdx_eq h).2 ⟨hp, fun j hj => hn j (by omega) hj⟩
theorem idxI_none {α : Type} {p : α → Bool} {l : List α} (hn : ∀ j (hj : j < l.length), p l[j] = false) : idxI p l = -1 := by
  unfold idxI
  rw [if_neg]
  rw [List.any_eq_true]
  rintro ⟨x, hx, hp⟩
  obtain ⟨j, hj, rfl⟩ := List.getElem_of_mem hx
  rw [hn j hj] at hp; cases hp
theorem idxI_ge {α : Type} (p : α → Bool) (l : List α) : decide (idxI p l ≥ 0) = l.any p := by
  unfold idxI
  split
  · rename_i h; rw [h]; exact decide_eq_true (Int.natCast_nonneg _)
  · rename_i h; rw [Bool.eq_false_iff.2 h]; decide
theorem indexE_pc (l : List S48) (hl : l.length ≤ 4294967296) (f : FuncId) (p : S48 → Bool) (hp : ∀ x ∈ l, PC f [evE x] (.s (.bool (p x)))) : PC 50 [.sl 0 3 (l.map evE), .s (.func (.func f) #[] #[])] (.s (.int .i64 (idxI p l))) := by
  refine pc_of tt_ok tt_follows Tryz.func50 rfl (by kernel_rfl) (by kernel_rfl) (Nat.le_of_ble_eq_true rfl) rfl ?_
  conv => whnf
  refine ⟨Nat, fun i => i ≤ l.length ∧ ∀ j (hj : j < l.length), j < i → p l[j] = false, fun i => [(24, .s (.int .i64 i))], [0, 3, 21], fun i => l.length - i, 0, ⟨Nat.zero_le _, fun j _ h => absurd h (Nat.not_lt_zero _)⟩, ?_, fun i hi => ?_⟩
  · exact ⟨⟨rfl, trivial, trivial⟩, ⟨rfl, trivial, rfl, trivial, rfl, trivial, trivial⟩⟩
  · obtain ⟨h1, h2⟩ := hi
    conv => whnf
    constructor
    · intro h
      have hil := ltm h
      conv => whnf
      refine ⟨_, idx_map evE l i hil, ?_⟩
      conv => whnf
      refine ⟨_, hp _ (List.getElem_mem hil), ?_⟩
      conv => whnf
      constructor
      · intro hq
        conv => whnf
        rw [idxI_hit hil hq h2] <;> rfl
      · intro hq
        conv => whnf
        refine ⟨i + 1, ⟨hil, fun j hj g => ?_⟩, less1 hil, ⟨⟨incI hil hl, trivial, trivial⟩, ⟨rfl, trivial, rfl, trivial, rfl, trivial, trivial⟩⟩⟩
        by_cases hji : j < i
        · exact h2 j hj hji
        · obtain rfl : j = i := by omega
          exact hq
    · intro h
      have hil := gem h h1
      conv => whnf
      rw [idxI_none (fun j hj => h2 j hj (by omega))] <;> rfl
theorem containsE_pc (l : List S48) (hl : l.length ≤ 4294967296) (f : FuncId) (p : S48 → Bool) (hp : ∀ x ∈ l, PC f [evE x] (.s (.bool (p x)))) : PC 33 [.sl 0 3 (l.map evE), .s (.func (.func f) #[] #[])] (.s (.bool (l.any p))) := by
  refine pc_of tt_ok tt_follows Tryz.func33 rfl (by kernel_rfl) (by kernel_rfl) (Nat.le_of_ble_eq_true rfl) rfl ?_
  conv => whnf
  refine ⟨_, indexE_pc l hl f p hp, ?_⟩
  conv => whnf
  rw [← idxI_ge] <;> rfl
theorem rcheck_pc (u : UV) (hl : u.s.length ≤ 4294967296) (ht : ∀ x ∈ u.s, TinyN x.f0) : PC 11 [evU u] (.s (.int .i64 (okV (okU u)))) := by
  have wA := within_pc u.m
  have wB := within_pc u.e
  have wC := check13_pc u.s hl ht
  have wD := containsE_pc u.s hl 30 (fun x => decide (x.f1 < 0)) (fun x _ => neg_pc x)
  rw [okU_eq]
  revert wA wB wC wD
  generalize decide (0 ≤ u.m ∧ u.m ≤ 1099511627776) = A
  generalize decide (0 ≤ u.e ∧ u.e ≤ 1099511627776) = B
  generalize checkE u.s = C
  generalize u.s.any (fun x => decide (x.f1 < 0)) = D
  intro wA wB wC wD
  refine pc_of tt_ok tt_follows Tryz.func11 rfl (by kernel_rfl) (by kernel_rfl) (Nat.le_of_ble_eq_true rfl) rfl ?_
  conv => whnf
  refine ⟨_, wA, ?_⟩
  conv => whnf
  constructor
  · intro h
    conv => whnf
    cases A
    · rfl
    · cases h
  · intro h
    obtain rfl : A = true := by simpa using h
    conv => whnf
    refine ⟨_, wB, ?_⟩
    conv => whnf
    constructor
    · intro h
      conv => whnf
      cases B
      · rfl
      · cases h
    · intro h
      obtain rfl : B = true := by simpa using h
      conv => whnf
      refine ⟨_, wC, ?_⟩
      conv => whnf
      constructor
      · intro h
        conv => whnf
        cases C
        · rfl
        · cases h
      · intro h
        obtain rfl : C = true := by cases C; cases h; rfl
        conv => whnf
        refine ⟨_, wD, ?_⟩
        conv => whnf
        constructor
        · intro h
          conv => whnf
          cases D
          · cases h
          · rfl
        · intro h
          conv => whnf
          cases D
          · rfl
          · cases h
theorem fits_pc (u : UV) (lt lm ln le : Int) (hl : u.s.length ≤ 4294967296) (ht : ∀ x ∈ u.s, TinyN x.f0) : PC 12 [.ag [.s (.int .i64 lt), .s (.int .i64 lm), .s (.int .i64 ln), .s (.int .i64 le)], evU u] (.s (.int .i64 (if okU u = true then fitsU lm ln le u else 1))) := by
  have wC := rcheck_pc u hl ht
  revert wC
  generalize okU u = C
  intro wC
  refine pc_of tt_ok tt_follows Tryz.func12 rfl (by kernel_rfl) (by kernel_rfl) (Nat.le_of_ble_eq_true rfl) rfl ?_
  conv => whnf
  refine ⟨_, wC, ?_⟩
  conv => whnf
  constructor
  · intro h
    conv => whnf
    cases C
    · rfl
    · cases h
  · intro h
    obtain rfl : C = true := by cases C; cases h; rfl
    conv => whnf
    rw [if_pos rfl]
    unfold fitsU
    constructor
    · intro h
      have h := of_decide_eq_true h
      conv => whnf
      rw [if_pos h]
    · intro h
      have h := of_decide_eq_false h
      conv => whnf
      rw [if_neg h]
      constructor
      · intro h
        have h := of_decide_eq_true h
        rw [List.length_map] at h
        conv => whnf
        rw [if_pos h]
      · intro h
        have h := of_decide_eq_false h
        rw [List.length_map] at h
        conv => whnf
        rw [if_neg h]
        constructor
        · intro h
          have h := of_decide_eq_true h
          conv => whnf
          rw [if_pos h]
        · intro h
          have h := of_decide_eq_false h
          conv => whnf
          rw [if_neg h]
theorem cloneN_pc (l : List S34) (hl : l.length ≤ 1000000) : PC 42 [.sl 0 2 (l.map evN)] (.sl 4 2 (l.map evN)) := by
  refine pc_of tt_ok tt_follows Tryz.func42 rfl (by kernel_rfl) (by kernel_rfl) (Nat.le_of_ble_eq_true rfl) rfl ?_
  conv => whnf
  constructor
  · intro h
    conv => whnf
    rw [h]
    exact ⟨rfl, Or.inr rfl, Or.inl rfl⟩
  · conv => whnf
    have e : (l.map evN).length = l.length := List.length_map ..
    refine ⟨⟨by show 0 + _ ≤ _; rw [e]; unfold maxLen; omega, by show (0 + _) * 32 ≤ _; rw [e]; omega⟩, ?_⟩
    conv => whnf
    exact ⟨rfl, Or.inl rfl, Or.inr rfl⟩
theorem okV_ne {b : Bool} (h : (okV b != (0 : Int)) = true) : b = false := by cases b; rfl; cases h
theorem okV_eq {b : Bool} (h : (okV b != (0 : Int)) = false) : b = true := by cases b; cases h; rfl
theorem change_pc (u : UV) (dm de nn : Int) (S : List S34) (hu : ∀ x ∈ u.s, TinyN x.f0) (hl : u.s.length + S.length ≤ 30000) (hS : ∀ x ∈ S, TinyN x)
    (hd : -1099511627776 ≤ dm ∧ dm ≤ 1099511627776 ∧ -1099511627776 ≤ de ∧ de ≤ 1099511627776) (hn : nn ≠ 0) (v : UV) (r : Int) (hv : changeU u dm de nn S = (v, r)) :
    PC 35 [evU u, .s (.int .i64 dm), .s (.int .i64 de), .s (.int .i64 nn), .sl 0 2 (S.map evN)] (.tu [evU v, .s (.int .i64 r)]) := by
  have wK := rcheck_pc u (by omega) hu
  have hneg : ¬ (okU u = true ∧ S.all mayN = true) → v = u ∧ r = 1 := fun h => by
    unfold changeU at hv
    rw [if_neg h] at hv
    injection hv with e1 e2
    exact ⟨e1.symm, e2.symm⟩
  refine pc_of tt_ok tt_follows Tryz.func35 rfl (by kernel_rfl) (by kernel_rfl) (Nat.le_of_ble_eq_true rfl) rfl ?_
  conv => whnf
  by_cases hm : S.all mayN = true
  case neg =>
    obtain ⟨rfl, rfl⟩ := hneg (fun h => hm h.2)
    refine ⟨_, count13_pc S (by omega) hS [] 1 (if_neg hm), ?_⟩
    conv => whnf
    refine ⟨_, wK, ?_⟩
    conv => whnf
    constructor
    · intro h
      conv => whnf
      exact ⟨rfl, rfl, trivial⟩
    · intro h
      conv => whnf
      refine ⟨fun _ => ?_, fun h => by cases h⟩
      conv => whnf
      exact ⟨rfl, rfl, trivial⟩
  case pos =>
    refine ⟨_, count13_pc S (by omega) hS (diffV [] S) 0 (if_pos hm), ?_⟩
    conv => whnf
    refine ⟨_, wK, ?_⟩
    conv => whnf
    constructor
    · intro h
      have hb := okV_ne h
      obtain ⟨rfl, rfl⟩ := hneg (fun h => by rw [hb] at h; cases h.1)
      conv => whnf
      exact ⟨rfl, rfl, trivial⟩
    · intro h
      have hb := okV_eq h
      conv => whnf
      refine ⟨(fun h => by cases h), fun _ => ?_⟩
      conv => whnf
      unfold changeU at hv
      rw [if_pos ⟨hb, hm⟩] at hv
      obtain ⟨⟨hm0, hm1, he0, he1⟩, hck, hps⟩ := (okU_iff u).1 hb
      have gS : GoodL S := ⟨by omega, fun x hx => ⟨hS x hx, List.all_eq_true.1 hm x hx⟩⟩
      have cu := check_can hu hck
      have oku : Oke u.s := ⟨cu.1, cu.2, (fun x hx => ⟨hu x hx, cu.1.set.may x.f0 (List.mem_map_of_mem hx)⟩), by omega⟩
      have oks := (goodL_nil.oke gS (by simp; omega)).1
      have wm : IntKind.wrap .i64 (u.m + dm) = u.m + dm := wrapI (by omega)
      have we : IntKind.wrap .i64 (u.e + de) = u.e + de := wrapI (by omega)
      constructor
      · intro h
        have h2 : nn = 2 := by simpa using h
        simp only [if_pos h2] at hv
        conv => whnf
        refine ⟨_, turn13_pc _ oks, ?_⟩
        conv => whnf
        refine ⟨(fun h => by cases h), fun _ => ?_⟩
        conv => whnf
        by_cases hB : checkE (bothV u.s ((diffV [] S).map turnE)) = true
        case neg =>
          refine ⟨_, both13_pc u.s ((diffV [] S).map turnE) oku oks.turn _ _ (if_neg hB), ?_⟩
          conv => whnf
          refine ⟨fun _ => ?_, fun h => by cases h⟩
          conv => whnf
          have : okU (addU u dm de ((diffV [] S).map turnE)) = false := Bool.eq_false_iff.2 (fun h => hB ((okU_iff _).1 h).2.1)
          rw [if_neg (by rw [this]; decide)] at hv
          injection hv with e1 e2
          subst e1; subst e2
          exact ⟨rfl, rfl, trivial⟩
        case pos =>
          refine ⟨_, both13_pc u.s ((diffV [] S).map turnE) oku oks.turn _ _ (if_pos hB), ?_⟩
          conv => whnf
          refine ⟨(fun h => by cases h), fun _ => ?_⟩
          conv => whnf
          have hbl := bothV_len2 u.s ((diffV [] S).map turnE)
          have wF : PC 11 [.ag [.s (.int .i64 (IntKind.wrap .i64 (u.m + dm))), .s (.int .i64 (IntKind.wrap .i64 (u.e + de))), .sl 0 3 ((bothV u.s ((diffV [] S).map turnE)).map evE)]] (.s (.int .i64 (okV (okU (addU u dm de ((diffV [] S).map turnE)))))) := by
            rw [wm, we]
            exact rcheck_pc (addU u dm de ((diffV [] S).map turnE)) (by show (bothV u.s ((diffV [] S).map turnE)).length ≤ _; have := oku.len; have := (oks.turn).len; omega) (fun x hx => (bothV_tinyE u.s ((diffV [] S).map turnE) oku.tiny (oks.turn).tiny x hx).1)
          refine ⟨_, wF, ?_⟩
          conv => whnf
          constructor
          · intro h
            have h := okV_ne h
            conv => whnf
            rw [if_neg (by rw [h]; decide)] at hv
            injection hv with e1 e2
            subst e1; subst e2
            exact ⟨rfl, rfl, trivial⟩
          · intro h
            have h := okV_eq h
            conv => whnf
            rw [if_pos h] at hv
            injection hv with e1 e2
            subst e1; subst e2
            refine ⟨?_, rfl, trivial⟩
            show PV.ag [.s (.int .i64 (IntKind.wrap .i64 (u.m + dm))), .s (.int .i64 (IntKind.wrap .i64 (u.e + de))), .sl 0 3 ((bothV u.s ((diffV [] S).map turnE)).map evE)] = evU (addU u dm de ((diffV [] S).map turnE))
            rw [wm, we]; rfl
      · intro h
        have h2 : nn ≠ 2 := by simpa using h
        simp only [if_neg h2] at hv
        conv => whnf
        by_cases hB : checkE (bothV u.s (diffV [] S)) = true
        case neg =>
          refine ⟨_, both13_pc u.s (diffV [] S) oku oks _ _ (if_neg hB), ?_⟩
          conv => whnf
          refine ⟨fun _ => ?_, fun h => by cases h⟩
          conv => whnf
          have : okU (addU u dm de (diffV [] S)) = false := Bool.eq_false_iff.2 (fun h => hB ((okU_iff _).1 h).2.1)
          rw [if_neg (by rw [this]; decide)] at hv
          injection hv with e1 e2
          subst e1; subst e2
          exact ⟨rfl, rfl, trivial⟩
        case pos =>
          refine ⟨_, both13_pc u.s (diffV [] S) oku oks _ _ (if_pos hB), ?_⟩
          conv => whnf
          refine ⟨(fun h => by cases h), fun _ => ?_⟩
          conv => whnf
          have hbl := bothV_len2 u.s (diffV [] S)
          have wF : PC 11 [.ag [.s (.int .i64 (IntKind.wrap .i64 (u.m + dm))), .s (.int .i64 (IntKind.wrap .i64 (u.e + de))), .sl 0 3 ((bothV u.s (diffV [] S)).map evE)]] (.s (.int .i64 (okV (okU (addU u dm de (diffV [] S)))))) := by
            rw [wm, we]
            exact rcheck_pc (addU u dm de (diffV [] S)) (by show (bothV u.s (diffV [] S)).length ≤ _; have := oku.len; have := (oks).len; omega) (fun x hx => (bothV_tinyE u.s (diffV [] S) oku.tiny (oks).tiny x hx).1)
          refine ⟨_, wF, ?_⟩
          conv => whnf
          constructor
          · intro h
            have h := okV_ne h
            conv => whnf
            rw [if_neg (by rw [h]; decide)] at hv
            injection hv with e1 e2
            subst e1; subst e2
            exact ⟨rfl, rfl, trivial⟩
          · intro h
            have h := okV_eq h
            conv => whnf
            rw [if_pos h] at hv
            injection hv with e1 e2
            subst e1; subst e2
            refine ⟨?_, rfl, trivial⟩
            show PV.ag [.s (.int .i64 (IntKind.wrap .i64 (u.m + dm))), .s (.int .i64 (IntKind.wrap .i64 (u.e + de))), .sl 0 3 ((bothV u.s (diffV [] S)).map evE)] = evU (addU u dm de (diffV [] S))
            rw [wm, we]; rfl
theorem appN_len {l : List S34} (h : l.length ≤ 1000000) (k : S34) : (l.map evN).length + [evN k].length ≤ maxLen ∧ ((l.map evN).length + [evN k].length) * 32 ≤ 140737488355328 := by
  rw [List.length_map]
  show l.length + 1 ≤ _ ∧ (l.length + 1) * 32 ≤ _
  constructor
  · unfold maxLen; omega
  · omega
theorem take_pc (u : UV) (key : S34) (l : List S34) (hu : ∀ x ∈ u.s, TinyN x.f0) (hl : u.s.length + l.length ≤ 29000) (hS : ∀ x ∈ l, TinyN x) (hk : TinyN key) (v : UV) (r : Int) (hv : changeU u 1 l.length 4 (l ++ [key]) = (v, r)) :
    PC 21 [evU u, evN key, .sl 0 2 (l.map evN)] (.tu [evU v, .s (.int .i64 r)]) := by
  have wC := change_pc u 1 l.length 4 (l ++ [key]) hu (by rw [List.length_append]; show _ + (_ + 1) ≤ _; omega) (fun x hx => (List.mem_append.1 hx).elim (hS x) (fun h => by rw [List.mem_singleton.1 h]; exact hk)) (by omega) (by decide) v r hv
  rw [List.map_append, show ((l.length : Int)) = (((l.map evN).length : Nat) : Int) by rw [List.length_map]] at wC
  refine pc_of tt_ok tt_follows Tryz.func21 rfl (by kernel_rfl) (by kernel_rfl) (Nat.le_of_ble_eq_true rfl) rfl ?_
  conv => whnf
  refine ⟨_, cloneN_pc l (by omega), ?_⟩
  conv => whnf
  refine ⟨appN_len (by omega) key, ?_⟩
  conv => whnf
  refine ⟨rfl, ?_⟩
  conv => whnf
  refine ⟨_, wC, ?_⟩
  conv => whnf
  refine ⟨by kernel_rfl, ?_⟩
  conv => whnf
  exact ⟨rfl, rfl, trivial⟩
theorem give_pc (u : UV) (key : S34) (l : List S34) (hu : ∀ x ∈ u.s, TinyN x.f0) (hl : u.s.length + l.length ≤ 29000) (hS : ∀ x ∈ l, TinyN x) (hk : TinyN key) (v : UV) (r : Int) (hv : changeU u (-1) (-l.length) 2 (l ++ [key]) = (v, r)) :
    PC 27 [evU u, evN key, .sl 0 2 (l.map evN)] (.tu [evU v, .s (.int .i64 r)]) := by
  have wC := change_pc u (-1) (-l.length) 2 (l ++ [key]) hu (by rw [List.length_append]; show _ + (_ + 1) ≤ _; omega) (fun x hx => (List.mem_append.1 hx).elim (hS x) (fun h => by rw [List.mem_singleton.1 h]; exact hk)) (by omega) (by decide) v r hv
  rw [List.map_append, show (-(l.length : Int)) = IntKind.wrap .i64 (0 - (((l.map evN).length : Nat) : Int)) by rw [List.length_map, wrapI (by omega)]; omega] at wC
  refine pc_of tt_ok tt_follows Tryz.func27 rfl (by kernel_rfl) (by kernel_rfl) (Nat.le_of_ble_eq_true rfl) rfl ?_
  conv => whnf
  refine ⟨_, cloneN_pc l (by omega), ?_⟩
  conv => whnf
  refine ⟨appN_len (by omega) key, ?_⟩
  conv => whnf
  refine ⟨rfl, ?_⟩
  conv => whnf
  refine ⟨_, wC, ?_⟩
  conv => whnf
  refine ⟨by kernel_rfl, ?_⟩
  conv => whnf
  exact ⟨rfl, rfl, trivial⟩
def eqU (a b : UV) : Bool := a.m == b.m && (a.e == b.e && eqL a.s b.s)
theorem eqU_iff {a b : UV} : eqU a b = true ↔ a = b := by
  unfold eqU
  rw [Bool.and_eq_true, Bool.and_eq_true, beq_iff_eq, beq_iff_eq, eqL_iff]
  cases a; cases b
  simp
theorem same14_pc (a b : UV) (hl : a.s.length ≤ 4294967296) : PC 28 [evU a, evU b] (.s (.bool (eqU a b))) := by
  unfold eqU
  refine pc_of tt_ok tt_follows Tryz.func28 rfl (by kernel_rfl) (by kernel_rfl) (Nat.le_of_ble_eq_true rfl) rfl ?_
  conv => whnf
  constructor
  · intro h
    conv => whnf
    constructor
    · intro h2
      conv => whnf
      refine ⟨_, equalE_pc a.s b.s hl, ?_⟩
      conv => whnf
      rw [show (a.m == b.m) = true from h, show (a.e == b.e) = true from h2] <;> rfl
    · intro h2
      conv => whnf
      rw [show (a.m == b.m) = true from h, show (a.e == b.e) = false from h2] <;> rfl
  · intro h
    conv => whnf
    rw [show (a.m == b.m) = false from h] <;> rfl
def nW (c : UInt8) : S34 := ⟨⟨#[c]⟩, ⟨#[118, 49, 46, 48, 46, 48]⟩⟩
theorem nW_tiny (c : UInt8) : TinyN (nW c) := Brief.tiny ⟨show (1 : Nat) ≤ 400 by decide, show (6 : Nat) ≤ 400 by decide⟩
theorem pairsE' {a b : List S48} (h : a.map (fun e => (e.f0, e.f1)) = b.map (fun e => (e.f0, e.f1))) : a = b :=
  (List.map_inj_right (fun x y h => by cases x; cases y; simp only [Prod.mk.injEq] at h; rw [h.1, h.2])).1 h
def uW : UV := ⟨1, 2, [⟨nW 97, 1⟩, ⟨nW 98, 2⟩]⟩
theorem aw_take : changeU noneU 1 2 4 [nW 98, nW 98, nW 97] = (uW, 0) := by
  unfold changeU
  rw [if_pos (by decide +kernel)]
  have : addU noneU 1 2 (diffV [] [nW 98, nW 98, nW 97]) = uW := by
    unfold addU uW noneU
    rw [show bothV [] (diffV [] [nW 98, nW 98, nW 97]) = [⟨nW 97, 1⟩, ⟨nW 98, 2⟩] from pairsE' (by decide +kernel)]
    rfl
  show (let v := addU noneU 1 2 (diffV [] [nW 98, nW 98, nW 97]); _) = _
  rw [this]
  show (if okU uW = true then (uW, (0 : Int)) else (noneU, 4)) = _
  rw [if_pos (by decide +kernel)]
theorem aw_give : changeU noneU (-1) 0 2 [nW 97] = (noneU, 2) := by
  unfold changeU
  rw [if_pos (by decide +kernel)]
  show (if okU (addU noneU (-1) 0 _) = true then _ else (noneU, (2 : Int))) = _
  rw [if_neg]
  intro h
  have := ((okU_iff _).1 h).1.1
  exact absurd this (by decide)
theorem nil_tiny : ∀ x ∈ ([] : List S48), TinyN x.f0 := fun x h => by cases h
theorem awake14_pc : PC 13 [] (.s (.bool true)) := by
  refine pc_of tt_ok tt_follows Tryz.func13 rfl (by kernel_rfl) (by kernel_rfl) (Nat.le_of_ble_eq_true rfl) rfl ?_
  conv => whnf
  refine ⟨_, pc_le (take_pc noneU (nW 97) [nW 98, nW 98] nil_tiny (by decide) (fun x hx => by simp only [List.mem_cons, List.not_mem_nil, or_false] at hx; rcases hx with rfl | rfl <;> exact nW_tiny _) (nW_tiny _) uW 0 aw_take) ⟨⟨rfl, rfl, ⟨rfl, Or.inr rfl, Or.inl rfl⟩, trivial⟩, ⟨rfl, rfl, trivial⟩, ⟨rfl, Or.inl rfl, Or.inl rfl⟩, trivial⟩, ?_⟩
  conv => whnf
  refine ⟨_, pc_le (give_pc noneU (nW 97) [] nil_tiny (by decide) (fun x hx => by cases hx) (nW_tiny _) noneU 2 aw_give) ⟨⟨rfl, rfl, ⟨rfl, Or.inr rfl, Or.inl rfl⟩, trivial⟩, ⟨rfl, rfl, trivial⟩, ⟨rfl, Or.inr rfl, Or.inl rfl⟩, trivial⟩, ?_⟩
  conv => whnf
  refine ⟨fun _ => ?_, fun h => by cases h⟩
  conv => whnf
  refine ⟨fun _ => ?_, fun h => by cases h⟩
  conv => whnf
  refine ⟨fun _ => ?_, fun h => by cases h⟩
  conv => whnf
  refine ⟨fun _ => ?_, fun h => by cases h⟩
  conv => whnf
  have wF := fits_pc uW 0 0 0 0 (by decide) (fun x hx => by
    have : x ∈ [(⟨nW 97, 1⟩ : S48), ⟨nW 98, 2⟩] := hx
    simp only [List.mem_cons, List.not_mem_nil, or_false] at this; rcases this with rfl | rfl <;> exact nW_tiny _)
  rw [if_pos (by decide +kernel), show fitsU 0 0 0 uW = 8 from rfl] at wF
  refine ⟨_, wF, ?_⟩
  conv => whnf
  refine ⟨fun _ => ?_, fun h => by cases h⟩
  conv => whnf
  rfl
theorem okU_chain {u : UV} (hD : ∀ x ∈ u.s, ¬ x.f1 < 0) : okU u = (decide (u.m ≥ 0) && (decide (u.m ≤ 1099511627776) && (decide (u.e ≥ 0) && (decide (u.e ≤ 1099511627776) && checkE u.s)))) := by
  rw [Bool.eq_iff_iff, okU_iff]
  simp only [Bool.and_eq_true, decide_eq_true_eq]
  constructor
  · rintro ⟨⟨h1, h2, h3, h4⟩, h5, _⟩; exact ⟨h1, h2, h3, h4, h5⟩
  · rintro ⟨h1, h2, h3, h4, h5⟩; exact ⟨⟨h1, h2, h3, h4⟩, h5, fun x hx => by have := hD x hx; omega⟩
theorem may14_pc (u : UV) (hl : u.s.length ≤ 4294967296) (hb : ∀ x ∈ u.s, Brief x.f0) : PC 16 [evU u] (.s (.bool (okU u))) := by
  refine pc_of tt_ok tt_follows Tryz.func16 rfl (by kernel_rfl) (by kernel_rfl) (Nat.le_of_ble_eq_true rfl) rfl ?_
  conv => whnf
  refine ⟨Nat, fun i => i ≤ u.s.length ∧ ∀ j (hj : j < u.s.length), j < i → ¬ u.s[j].f1 < 0, fun i => [(9, .s (.int .i64 i))], [3, 4], fun i => u.s.length - i, 0, ⟨Nat.zero_le _, fun j _ h => absurd h (Nat.not_lt_zero _)⟩, ?_, fun i hi => ?_⟩
  · repeat' (first | exact trivial | exact rfl | refine ⟨?_, ?_⟩)
  obtain ⟨h1, h2⟩ := hi
  conv => whnf
  constructor
  · intro h
    have hil := ltm h
    conv => whnf
    refine ⟨_, idx_map evE u.s i hil, ?_⟩
    conv => whnf
    constructor
    · intro g
      have g := of_decide_eq_true g
      conv => whnf
      rw [show okU u = false from Bool.eq_false_iff.2 (fun e => absurd (((okU_iff u).1 e).2.2 _ (List.getElem_mem hil)) (by omega))] <;> rfl
    · intro g
      have g := of_decide_eq_false g
      conv => whnf
      refine ⟨i + 1, ⟨hil, fun j hj hji => ?_⟩, less1 hil, ⟨⟨incI hil hl, trivial, trivial⟩, ?_⟩⟩
      · by_cases hlt : j < i
        · exact h2 j hj hlt
        · obtain rfl : j = i := by omega
          exact g
      · repeat' (first | exact trivial | exact rfl | refine ⟨?_, ?_⟩)
  · intro h
    have hil := gem h h1
    have hc := okU_chain (u := u) (fun x hx => by
      obtain ⟨j, hj, rfl⟩ := List.getElem_of_mem hx
      exact h2 j hj (by omega))
    conv => whnf
    constructor
    · intro a1
      have a1 : decide (u.m ≥ 0) = true := a1
      conv => whnf
      constructor
      · intro a2
        have a2 : decide (u.m ≤ 1099511627776) = true := a2
        conv => whnf
        constructor
        · intro a3
          have a3 : decide (u.e ≥ 0) = true := a3
          conv => whnf
          constructor
          · intro a4
            have a4 : decide (u.e ≤ 1099511627776) = true := a4
            conv => whnf
            refine ⟨_, may13_pc u.s hl hb, ?_⟩
            conv => whnf
            rw [hc, a1, a2, a3, a4] <;> rfl
          · intro a4
            have a4 : decide (u.e ≤ 1099511627776) = false := a4
            conv => whnf
            rw [hc, a1, a2, a3, a4] <;> rfl
        · intro a3
          have a3 : decide (u.e ≥ 0) = false := a3
          conv => whnf
          rw [hc, a1, a2, a3] <;> rfl
      · intro a2
        have a2 : decide (u.m ≤ 1099511627776) = false := a2
        conv => whnf
        rw [hc, a1, a2] <;> rfl
    · intro a1
      have a1 : decide (u.m ≥ 0) = false := a1
      conv => whnf
      rw [hc, a1] <;> rfl
theorem nodes14_pc (l : List S34) (hl : l.length ≤ 4294967296) (hb : ∀ x ∈ l, Brief x) : PC 25 [.sl 0 2 (l.map evN)] (.s (.bool (l.all mayN))) := by
  refine pc_of tt_ok tt_follows Tryz.func25 rfl (by kernel_rfl) (by kernel_rfl) (Nat.le_of_ble_eq_true rfl) rfl ?_
  conv => whnf
  refine ⟨Nat, fun i => i ≤ l.length ∧ ∀ j (hj : j < l.length), j < i → mayN l[j] = true, fun i => [(9, .s (.int .i64 i))], [0], fun i => l.length - i, 0, ⟨Nat.zero_le _, fun j _ h => absurd h (Nat.not_lt_zero _)⟩, ?_, fun i hi => ?_⟩
  · repeat' (first | exact trivial | exact rfl | refine ⟨?_, ?_⟩)
  obtain ⟨h1, h2⟩ := hi
  conv => whnf
  constructor
  · intro h
    have hil := ltm h
    conv => whnf
    refine ⟨_, idx_map evN l i hil, ?_⟩
    conv => whnf
    refine ⟨_, ref5May_pc l[i] (hb _ (List.getElem_mem hil)), ?_⟩
    conv => whnf
    constructor
    · intro g
      have g : mayN l[i] = false := by simpa using g
      conv => whnf
      rw [show l.all mayN = false from Bool.eq_false_iff.2 (fun e => by have := List.all_eq_true.1 e _ (List.getElem_mem hil); rw [g] at this; cases this)] <;> rfl
    · intro g
      have g : mayN l[i] = true := by simpa using g
      conv => whnf
      refine ⟨i + 1, ⟨hil, fun j hj hji => ?_⟩, less1 hil, ⟨⟨incI hil hl, trivial, trivial⟩, ?_⟩⟩
      · by_cases hlt : j < i
        · exact h2 j hj hlt
        · obtain rfl : j = i := by omega
          exact g
      · repeat' (first | exact trivial | exact rfl | refine ⟨?_, ?_⟩)
  · intro h
    have hil := gem h h1
    conv => whnf
    rw [show l.all mayN = true from List.all_eq_true.2 (fun x hx => by
      obtain ⟨j, hj, rfl⟩ := List.getElem_of_mem hx
      exact h2 j hj (by omega))] <;> rfl
theorem same14r_pc (a b : UV) (hl : a.s.length ≤ 4294967296) : PC 17 [evU a, evU b] (.s (.bool (eqU a b))) := by
  unfold eqU
  refine pc_of tt_ok tt_follows Tryz.func17 rfl (by kernel_rfl) (by kernel_rfl) (Nat.le_of_ble_eq_true rfl) rfl ?_
  conv => whnf
  constructor
  · intro h
    conv => whnf
    constructor
    · intro h2
      conv => whnf
      refine ⟨_, same13_pc a.s b.s hl, ?_⟩
      conv => whnf
      rw [show (a.m == b.m) = true from h, show (a.e == b.e) = true from h2] <;> rfl
    · intro h2
      conv => whnf
      rw [show (a.m == b.m) = true from h, show (a.e == b.e) = false from h2] <;> rfl
  · intro h
    conv => whnf
    rw [show (a.m == b.m) = false from h] <;> rfl
def saidV (l : List S34) (b : Int) : List S48 := if b > 0 then diffV [] l else diffV l []
theorem said14_pc (l : List S34) (b : Int) (hl : l.length ≤ 1000) (bl : ∀ x ∈ l, Brief x ∧ mayN x = true) : PC 41 [.sl 0 2 (l.map evN), .s (.int .i64 b)] (.sl 5 3 ((saidV l b).map evE)) := by
  unfold saidV
  refine pc_of tt_ok tt_follows Tryz.func41 rfl (by kernel_rfl) (by kernel_rfl) (Nat.le_of_ble_eq_true rfl) rfl ?_
  conv => whnf
  constructor
  · intro h
    have h := of_decide_eq_true h
    rw [if_pos h]
    conv => whnf
    refine ⟨_, pc_le (diff13_pc [] l (by decide) hl (fun x h => by cases h) bl) ⟨⟨rfl, Or.inr rfl, Or.inl rfl⟩, ⟨rfl, Or.inl rfl, Or.inl rfl⟩, trivial⟩, ?_⟩
    conv => whnf
    exact ⟨rfl, Or.inl rfl, Or.inr rfl⟩
  · intro h
    have h := of_decide_eq_false h
    rw [if_neg h]
    conv => whnf
    refine ⟨_, pc_le (diff13_pc l [] hl (by decide) bl (fun x h => by cases h)) ⟨⟨rfl, Or.inl rfl, Or.inl rfl⟩, ⟨rfl, Or.inr rfl, Or.inl rfl⟩, trivial⟩, ?_⟩
    conv => whnf
    exact ⟨rfl, Or.inl rfl, Or.inr rfl⟩
theorem bothV_brief' (a b : List S48) (ba : ∀ x ∈ a, Brief x.f0) (bb : ∀ x ∈ b, Brief x.f0) : ∀ x ∈ bothV a b, Brief x.f0 := fun x hx => by
  unfold bothV editsF at hx
  obtain ⟨n, hn, rfl⟩ := List.mem_map.1 hx
  have h := (keys_countE (a ++ b) [] n).1 ((sortN_perm _).mem_iff.1 (List.mem_filter.1 hn).1)
  rw [List.map_append, List.mem_append] at h
  rcases h with h | h | h
  · cases h
  · obtain ⟨y, hy, rfl⟩ := List.mem_map.1 h; exact ba y hy
  · obtain ⟨y, hy, rfl⟩ := List.mem_map.1 h; exact bb y hy
theorem diffV_brief (l m : List S34) (bl : ∀ x ∈ l, Brief x) (bm : ∀ x ∈ m, Brief x) : ∀ x ∈ diffV l m, Brief x.f0 := fun x hx => by
  unfold diffV editsF at hx
  obtain ⟨n, hn, rfl⟩ := List.mem_map.1 hx
  rcases (keys_diff l m n).1 ((sortN_perm _).mem_iff.1 (List.mem_filter.1 hn).1) with h | h
  · exact bl n h
  · exact bm n h
def BGood (n : Nat) (l : List S34) : Prop := l.length ≤ n ∧ ∀ x ∈ l, Brief x ∧ mayN x = true
theorem BGood.good {n : Nat} {l : List S34} (h : BGood n l) (hn : n ≤ 1000) : GoodL l := ⟨by have := h.1; omega, fun x hx => ⟨(h.2 x hx).1.tiny, (h.2 x hx).2⟩⟩
theorem saidV_oke {n : Nat} {l : List S34} {b : Int} (h : BGood n l) (hn : n ≤ 1000) : Oke (saidV l b) ∧ (∀ x ∈ saidV l b, Brief x.f0) ∧ (saidV l b).length ≤ n := by
  have hg := h.good hn
  have h1 := h.1
  unfold saidV
  split
  · exact ⟨(goodL_nil.oke hg (by simp; omega)).1, diffV_brief [] l (fun x h => by cases h) (fun x hx => (h.2 x hx).1), by have := diffV_len2 [] l; simp at this; omega⟩
  · exact ⟨(hg.oke goodL_nil (by simp; omega)).1, diffV_brief l [] (fun x hx => (h.2 x hx).1) (fun x h => by cases h), by have := diffV_len2 l []; simp at this; omega⟩
def chU (u : UV) (dm b ed : Int) (l : List S34) : UV := ⟨u.m + dm, u.e + b * ed, bothV u.s (saidV l b)⟩
theorem change14_pc (u : UV) (dm b ed : Int) (l : List S34) (ou : Oke u.s) (hu : u.s.length ≤ 900) (bu : ∀ x ∈ u.s, Brief x.f0) (hl : BGood 100 l) (w1 : I64 (u.m + dm)) (w2 : I64 (b * ed)) (w3 : I64 (u.e + b * ed)) :
    PC 20 [evU u, .s (.int .i64 dm), .s (.int .i64 b), .s (.int .i64 ed), .sl 0 2 (l.map evN)] (.tu [evU (chU u dm b ed l), .s (.bool (okU (chU u dm b ed l)))]) := by
  obtain ⟨os, bs, ls⟩ := saidV_oke (b := b) hl (by decide)
  have hbl := bothV_len2 u.s (saidV l b)
  have wM : PC 16 [.ag [.s (.int .i64 (IntKind.wrap .i64 (u.m + dm))), .s (.int .i64 (IntKind.wrap .i64 (u.e + IntKind.wrap .i64 (b * ed)))), .sl 0 3 ((bothV u.s (saidV l b)).map evE)]] (.s (.bool (okU (chU u dm b ed l)))) := by
    rw [wrapI w2, wrapI w1, wrapI w3]
    exact may14_pc (chU u dm b ed l) (by show (bothV _ _).length ≤ _; omega) (bothV_brief' _ _ bu bs)
  refine pc_of tt_ok tt_follows Tryz.func20 rfl (by kernel_rfl) (by kernel_rfl) (Nat.le_of_ble_eq_true rfl) rfl ?_
  conv => whnf
  refine ⟨_, said14_pc l b (by have := hl.1; omega) hl.2, ?_⟩
  conv => whnf
  refine ⟨_, both13r_pc u.s (saidV l b) ou os (by omega) (by omega) bu bs, ?_⟩
  conv => whnf
  refine ⟨by kernel_rfl, ?_⟩
  conv => whnf
  refine ⟨_, wM, ?_⟩
  conv => whnf
  refine ⟨by kernel_rfl, ?_⟩
  conv => whnf
  refine ⟨?_, rfl, trivial⟩
  show PV.ag [.s (.int .i64 (IntKind.wrap .i64 (u.m + dm))), .s (.int .i64 (IntKind.wrap .i64 (u.e + IntKind.wrap .i64 (b * ed)))), .sl 0 3 ((bothV u.s (saidV l b)).map evE)] = evU (chU u dm b ed l)
  rw [wrapI w2, wrapI w1, wrapI w3]; rfl
theorem fewU_len (u : UV) : (fewU u).s.length ≤ 20 := fewE_len u.s
theorem fewU_brief (u : UV) : ∀ x ∈ (fewU u).s, Brief x.f0 := fewE_brief u.s
theorem changeU_ch {u : UV} {dm b ed nn : Int} {S : List S34} {n : Nat} (hb : (nn ≠ 2 ∧ b > 0) ∨ (nn = 2 ∧ ¬ b > 0)) (hu : okU u = true) (hS : BGood n S) (hn : n ≤ 1000) : changeU u dm (b * ed) nn S = if okU (chU u dm b ed S) = true then (chU u dm b ed S, 0) else (u, nn) := by
  unfold changeU
  rw [if_pos ⟨hu, List.all_eq_true.2 (fun x hx => (hS.2 x hx).2)⟩]
  have e : addU u dm (b * ed) (if nn = 2 then (diffV [] S).map turnE else diffV [] S) = chU u dm b ed S := by
    unfold addU chU saidV
    rcases hb with ⟨h1, h2⟩ | ⟨h1, h2⟩
    · rw [if_neg h1, if_pos h2]
    · rw [if_pos h1, if_neg h2, turn_diff goodL_nil (hS.good hn) (by have := (hS.good hn).1; simp; omega)]
  simp only [e]
theorem changeU_not {u : UV} {dm de nn : Int} {S : List S34} (h : ¬ (okU u = true ∧ S.all mayN = true)) : changeU u dm de nn S = (u, 1) := by
  unfold changeU
  rw [if_neg h]
theorem i64_small {n : Int} (h : -4000000000000 ≤ n ∧ n ≤ 4000000000000) : I64 n := by unfold I64; omega
theorem ok_oke' {u : UV} (hu : okU u = true) (hl : u.s.length ≤ 32768) (ht : ∀ x ∈ u.s, TinyN x.f0) : Oke u.s := by
  have hck := ((okU_iff u).1 hu).2.1
  have cu := check_can ht hck
  exact ⟨cu.1, cu.2, (fun x hx => ⟨ht x hx, cu.1.set.may x.f0 (List.mem_map_of_mem hx)⟩), hl⟩
theorem roomTakes_pc (u : UV) (key : S34) (l0 : List S34) :
    PC 8 [evU u, evN key, .sl 0 2 (l0.map evN)] (.s (.bool true)) := by
  have fl := fewU_len u
  have fb := fewU_brief u
  have kb := oneN_brief key
  have ll := fewN_len l0
  have lb := fewN_brief l0
  have w1 := few14_pc u
  have w2 := one5_pc key
  have w3 := few5_pc l0
  generalize fewU u = F at fl fb w1
  generalize oneN key = k at kb w2
  generalize fewN l0 = l at ll lb w3
  have ft : ∀ x ∈ F.s, TinyN x.f0 := fun x hx => (fb x hx).tiny
  obtain ⟨va, ra, hva⟩ : ∃ v r, changeU F 1 l.length 4 (l ++ [k]) = (v, r) := ⟨_, _, rfl⟩
  obtain ⟨vb, rb, hvb⟩ : ∃ v r, changeU F (-1) (-l.length) 2 (l ++ [k]) = (v, r) := ⟨_, _, rfl⟩
  have wA := take_pc F k l ft (by omega) (fun x hx => (lb x hx).tiny) kb.tiny va ra hva
  have wB := give_pc F k l ft (by omega) (fun x hx => (lb x hx).tiny) kb.tiny vb rb hvb
  have wC := rcheck_pc F (by omega) ft
  have wM := may14_pc F (by omega) fb
  have hlk : ∀ x ∈ l ++ [k], Brief x := fun x hx => (List.mem_append.1 hx).elim (lb x) (fun h => by rw [List.mem_singleton.1 h]; exact kb)
  have wN := nodes14_pc (l ++ [k]) (by rw [List.length_append]; show _ + 1 ≤ _; omega) hlk
  have wSame : ∀ a : UV, a.s.length ≤ 4294967296 → PC 17 [evU a, evU a] (.s (.bool true)) := fun a h => by
    have := same14r_pc a a h
    rwa [eqU_iff.2 rfl] at this
  have wSF := wSame F (by omega)
  have hval : va.s.length ≤ 4294967296 := by
    by_cases hg : okU F = true ∧ (l ++ [k]).all mayN = true
    · have bk : BGood 100 (l ++ [k]) := ⟨by rw [List.length_append]; show _ + 1 ≤ _; omega, fun x hx => ⟨hlk x hx, List.all_eq_true.1 hg.2 x hx⟩⟩
      have h0 := hva
      rw [show ((l.length : Nat) : Int) = 1 * ((l.length : Nat) : Int) by omega, changeU_ch (Or.inl ⟨by decide, by decide⟩) hg.1 bk (by decide)] at h0
      split at h0
      · injection h0 with e1 e2
        subst e1
        have h1 := bothV_len2 F.s (saidV (l ++ [k]) 1)
        have h2 := (saidV_oke (b := 1) bk (by decide)).2.2
        show (bothV F.s (saidV (l ++ [k]) 1)).length ≤ _
        omega
      · injection h0 with e1 e2
        subst e1; omega
    · have h0 := hva
      rw [changeU_not hg] at h0
      injection h0 with e1 e2
      subst e1; omega
  have wS1 := same14_pc va F hval
  have wS2 := same14r_pc va F hval
  rw [List.map_append] at wN
  have e1 : (l.map evN).length = l.length := List.length_map ..
  refine pc_of tt_ok tt_follows Tryz.func8 rfl (by kernel_rfl) (by kernel_rfl) (Nat.le_of_ble_eq_true rfl) rfl ?_
  conv => whnf
  refine ⟨_, w1, ?_⟩
  conv => whnf
  refine ⟨_, w2, ?_⟩
  conv => whnf
  refine ⟨_, w3, ?_⟩
  conv => whnf
  refine ⟨by kernel_rfl, ?_⟩
  conv => whnf
  refine ⟨_, wA, ?_⟩
  conv => whnf
  refine ⟨_, wB, ?_⟩
  conv => whnf
  refine ⟨_, wC, ?_⟩
  conv => whnf
  refine ⟨_, wM, ?_⟩
  conv => whnf
  refine ⟨fun h => ?_, fun _ => ?_⟩
  · exfalso
    revert h
    generalize okU F = c
    cases c <;> exact fun h => by cases h
  conv => whnf
  refine ⟨_, wS1, ?_⟩
  conv => whnf
  refine ⟨_, wS2, ?_⟩
  conv => whnf
  refine ⟨by kernel_rfl, ?_⟩
  conv => whnf
  refine ⟨fun h => absurd h (by simp), fun _ => ?_⟩
  conv => whnf
  refine ⟨by show 0 + _ ≤ _ ∧ (0 + _) * 32 ≤ _; rw [e1]; exact lenS (by omega) (by decide), ?_⟩
  conv => whnf
  refine ⟨by show (l.map evN).length + 1 ≤ _ ∧ ((l.map evN).length + 1) * 32 ≤ _; rw [e1]; exact len1 (by omega) (by decide), ?_⟩
  conv => whnf
  refine ⟨rfl, ?_⟩
  conv => whnf
  refine ⟨by kernel_rfl, ?_⟩
  conv => whnf
  refine ⟨_, wM, ?_⟩
  conv => whnf
  have bad : ¬ (okU F = true ∧ (l ++ [k]).all mayN = true) → (va = F ∧ ra = 1) ∧ (vb = F ∧ rb = 1) := fun h => by
    rw [changeU_not h] at hva hvb
    injection hva with e1 e2
    injection hvb with e3 e4
    exact ⟨⟨e1.symm, e2.symm⟩, ⟨e3.symm, e4.symm⟩⟩
  constructor
  · intro h
    have h : okU F = false := by simpa using h
    obtain ⟨⟨rfl, rfl⟩, ⟨rfl, rfl⟩⟩ := bad (by rw [h]; exact fun e => by cases e.1)
    conv => whnf
    refine ⟨_, wSF, ?_⟩
    conv => whnf
    refine ⟨fun _ => ?_, (fun h => by cases h)⟩
    conv => whnf
    refine ⟨fun _ => ?_, (fun h => by cases h)⟩
    conv => whnf
    refine ⟨_, wSF, ?_⟩
    conv => whnf
    refine ⟨fun _ => ?_, (fun h => by cases h)⟩
    conv => whnf
    refine ⟨fun _ => ?_, (fun h => by cases h)⟩
    conv => whnf
    refine ⟨_, awake14_pc, ?_⟩
    (conv => whnf) <;> try rfl
  · intro h
    have hu : okU F = true := by simpa using h
    conv => whnf
    refine ⟨_, wN, ?_⟩
    conv => whnf
    constructor
    · intro h
      have h : (l ++ [k]).all mayN = false := Eq.mp (Bool.not_eq_true' _) h
      obtain ⟨⟨rfl, rfl⟩, ⟨rfl, rfl⟩⟩ := bad (by rw [h]; exact fun e => by cases e.2)
      conv => whnf
      refine ⟨_, wSF, ?_⟩
      conv => whnf
      refine ⟨fun _ => ?_, (fun h => by cases h)⟩
      conv => whnf
      refine ⟨fun _ => ?_, (fun h => by cases h)⟩
      conv => whnf
      refine ⟨_, wSF, ?_⟩
      conv => whnf
      refine ⟨fun _ => ?_, (fun h => by cases h)⟩
      conv => whnf
      refine ⟨fun _ => ?_, (fun h => by cases h)⟩
      conv => whnf
      refine ⟨_, awake14_pc, ?_⟩
      (conv => whnf) <;> try rfl
    · intro h
      have hkm : (l ++ [k]).all mayN = true := Eq.mp (Bool.not_eq_false' _) h
      conv => whnf
      have bk : BGood 100 (l ++ [k]) := ⟨by rw [List.length_append]; show _ + 1 ≤ _; omega, fun x hx => ⟨hlk x hx, List.all_eq_true.1 hkm x hx⟩⟩
      have ou := ok_oke' hu (by omega) ft
      obtain ⟨⟨b1, b2, b3, b4⟩, _⟩ := (okU_iff F).1 hu
      have wX := change14_pc F 1 1 l.length (l ++ [k]) ou (by omega) fb bk (i64_small (by omega)) (i64_small (by omega)) (i64_small (by omega))
      have wY := change14_pc F (-1) (-1) l.length (l ++ [k]) ou (by omega) fb bk (i64_small (by omega)) (i64_small (by omega)) (i64_small (by omega))
      rw [List.map_append, show ((l.length : Nat) : Int) = (((l.map evN).length : Nat) : Int) by rw [List.length_map]] at wX wY
      have hlX : (chU F 1 1 (((l.map evN).length : Nat) : Int) (l ++ [k])).s.length ≤ 4294967296 := by
        have h1 := bothV_len2 F.s (saidV (l ++ [k]) 1)
        have h2 := (saidV_oke (b := 1) bk (by decide)).2.2
        show (bothV F.s (saidV (l ++ [k]) 1)).length ≤ _
        omega
      have hlY : (chU F (-1) (-1) (((l.map evN).length : Nat) : Int) (l ++ [k])).s.length ≤ 4294967296 := by
        have h1 := bothV_len2 F.s (saidV (l ++ [k]) (-1))
        have h2 := (saidV_oke (b := -1) bk (by decide)).2.2
        show (bothV F.s (saidV (l ++ [k]) (-1))).length ≤ _
        omega
      have wSX := wSame _ hlX
      have wSY := wSame _ hlY
      rw [show ((l.length : Nat) : Int) = 1 * (((l.map evN).length : Nat) : Int) by rw [List.length_map]; omega, changeU_ch (Or.inl ⟨by decide, by decide⟩) hu bk (by decide)] at hva
      rw [show -((l.length : Nat) : Int) = -1 * (((l.map evN).length : Nat) : Int) by rw [List.length_map]; omega, changeU_ch (Or.inr ⟨by decide, by decide⟩) hu bk (by decide)] at hvb
      generalize chU F 1 1 (((l.map evN).length : Nat) : Int) (l ++ [k]) = X at *
      generalize chU F (-1) (-1) (((l.map evN).length : Nat) : Int) (l ++ [k]) = Y at *
      cases hx : okU X
      · rw [hx] at wX
        rw [if_neg (by rw [hx]; decide)] at hva
        injection hva with e1 e2
        subst e1; subst e2
        cases hy : okU Y
        · rw [hy] at wY
          rw [if_neg (by rw [hy]; decide)] at hvb
          injection hvb with e1 e2
          subst e1; subst e2
          refine ⟨_, wX, ?_⟩
          conv => whnf
          refine ⟨_, wY, ?_⟩
          conv => whnf
          refine ⟨(fun h => by cases h), fun _ => ?_⟩
          conv => whnf
          refine ⟨fun _ => ?_, (fun h => by cases h)⟩
          conv => whnf
          refine ⟨_, wSF, ?_⟩
          conv => whnf
          refine ⟨(fun h => by cases h), fun _ => ?_⟩
          conv => whnf
          refine ⟨(fun h => by cases h), fun _ => ?_⟩
          conv => whnf
          refine ⟨(fun h => by cases h), fun _ => ?_⟩
          conv => whnf
          refine ⟨fun _ => ?_, (fun h => by cases h)⟩
          conv => whnf
          refine ⟨_, wSF, ?_⟩
          conv => whnf
          refine ⟨fun _ => ?_, (fun h => by cases h)⟩
          conv => whnf
          refine ⟨fun _ => ?_, (fun h => by cases h)⟩
          conv => whnf
          refine ⟨_, awake14_pc, ?_⟩
          (conv => whnf) <;> try rfl
        · rw [hy] at wY
          rw [if_pos hy] at hvb
          injection hvb with e1 e2
          subst e1; subst e2
          refine ⟨_, wX, ?_⟩
          conv => whnf
          refine ⟨_, wY, ?_⟩
          conv => whnf
          refine ⟨(fun h => by cases h), fun _ => ?_⟩
          conv => whnf
          refine ⟨fun _ => ?_, (fun h => by cases h)⟩
          conv => whnf
          refine ⟨_, wSF, ?_⟩
          conv => whnf
          refine ⟨(fun h => by cases h), fun _ => ?_⟩
          conv => whnf
          refine ⟨(fun h => by cases h), fun _ => ?_⟩
          conv => whnf
          refine ⟨fun _ => ?_, (fun h => by cases h)⟩
          conv => whnf
          refine ⟨_, wSY, ?_⟩
          conv => whnf
          refine ⟨fun _ => ?_, (fun h => by cases h)⟩
          conv => whnf
          refine ⟨fun _ => ?_, (fun h => by cases h)⟩
          conv => whnf
          refine ⟨_, awake14_pc, ?_⟩
          (conv => whnf) <;> try rfl
      · rw [hx] at wX
        rw [if_pos hx] at hva
        injection hva with e1 e2
        subst e1; subst e2
        cases hy : okU Y
        · rw [hy] at wY
          rw [if_neg (by rw [hy]; decide)] at hvb
          injection hvb with e1 e2
          subst e1; subst e2
          refine ⟨_, wX, ?_⟩
          conv => whnf
          refine ⟨_, wY, ?_⟩
          conv => whnf
          refine ⟨fun _ => ?_, (fun h => by cases h)⟩
          conv => whnf
          refine ⟨_, wSX, ?_⟩
          conv => whnf
          refine ⟨(fun h => by cases h), fun _ => ?_⟩
          conv => whnf
          refine ⟨(fun h => by cases h), fun _ => ?_⟩
          conv => whnf
          refine ⟨(fun h => by cases h), fun _ => ?_⟩
          conv => whnf
          refine ⟨(fun h => by cases h), fun _ => ?_⟩
          conv => whnf
          refine ⟨fun _ => ?_, (fun h => by cases h)⟩
          conv => whnf
          refine ⟨_, wSF, ?_⟩
          conv => whnf
          refine ⟨fun _ => ?_, (fun h => by cases h)⟩
          conv => whnf
          refine ⟨fun _ => ?_, (fun h => by cases h)⟩
          conv => whnf
          refine ⟨_, awake14_pc, ?_⟩
          (conv => whnf) <;> try rfl
        · rw [hy] at wY
          rw [if_pos hy] at hvb
          injection hvb with e1 e2
          subst e1; subst e2
          refine ⟨_, wX, ?_⟩
          conv => whnf
          refine ⟨_, wY, ?_⟩
          conv => whnf
          refine ⟨fun _ => ?_, (fun h => by cases h)⟩
          conv => whnf
          refine ⟨_, wSX, ?_⟩
          conv => whnf
          refine ⟨(fun h => by cases h), fun _ => ?_⟩
          conv => whnf
          refine ⟨(fun h => by cases h), fun _ => ?_⟩
          conv => whnf
          refine ⟨(fun h => by cases h), fun _ => ?_⟩
          conv => whnf
          refine ⟨fun _ => ?_, (fun h => by cases h)⟩
          conv => whnf
          refine ⟨_, wSY, ?_⟩
          conv => whnf
          refine ⟨fun _ => ?_, (fun h => by cases h)⟩
          conv => whnf
          refine ⟨fun _ => ?_, (fun h => by cases h)⟩
          conv => whnf
          refine ⟨_, awake14_pc, ?_⟩
          (conv => whnf) <;> try rfl
end Go.Proofs.YtohdmmafjpjmfaaGreatDoor.Q
end
