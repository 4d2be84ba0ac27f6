/- Part 15 of this claim: several texts one behind the other: EvRRoots, EvRTakes, EvOf, EvOf2, EvROf, EvRBnd. What each shows stands in its theorems; conditions: sizes of texts and lists, as the functions' definitions say. -/
import Derived.Test.YtohdmmafjpjmfaaGreatDoorMRoomBounds14
import Derived.Test.YtohdmmafjpjmfaaGreatDoorMRoomBounds9
import Derived.Test.YtohdmmafjpjmfaaGreatDoorMRoomBounds11
section
namespace Go.Proofs.YtohdmmafjpjmfaaGreatDoor.Q
open Go.Proofs.YtohdmmafjpjmfaaGreatDoor.QB.D
open Go Go.RowKit Go.Lib Go.Proofs.YtohdmmafjpjmfaaGreatDoorW.PrintWords Go.Ev
set_option linter.unusedVariables false
set_option maxRecDepth 100000
def listsV (l : List (List S34)) : List (List S34) := (l.take 6).map fewN
theorem lists14_pc (l : List (List S34)) : PC 23 [.sl 0 1 (l.map evR)] (.sl 3 1 ((listsV l).map evR)) := by
  refine pc_of tt_ok tt_follows Tryz.func23 rfl (by kernel_rfl) (by kernel_rfl) (Nat.le_of_ble_eq_true rfl) rfl ?_
  conv => whnf
  refine ⟨Nat, fun i => i ≤ l.length ∧ i ≤ 6, fun i => [(9, .sl 24 1 (((l.take i).map fewN).map evR)), (12, .s (.int .i64 i)), (68, .fr (((l.take i).map fewN).map evR).length 1)], [0, 6], fun i => l.length - i, 0, ⟨Nat.zero_le _, Nat.zero_le _⟩, ?_, fun i hi => ?_⟩
  · exact ⟨⟨⟨rfl, Or.inr rfl, Or.inr (Or.inr rfl)⟩, Nat.le_refl _, rfl, trivial, Or.inl rfl, trivial, trivial⟩, ⟨rfl, trivial, rfl, trivial, trivial⟩⟩
  · obtain ⟨h1, h2⟩ := hi
    conv => whnf
    constructor
    · intro h
      have hil := ltm h
      conv => whnf
      constructor
      · intro h
        have hi24 : i < 6 := by have := of_decide_eq_true h; omega
        have hst := take_succ_map fewN l i hil
        conv => whnf
        refine ⟨_, idx_map evR l i hil, ?_⟩
        conv => whnf
        refine ⟨_, few5_pc l[i], ?_⟩
        conv => whnf
        refine ⟨by rw [List.length_map, List.length_map, List.length_take]; exact len1 (by omega) (by decide), ?_⟩
        conv => whnf
        refine ⟨rfl, ?_⟩
        conv => whnf
        refine ⟨i + 1, ⟨hil, hi24⟩, less1 hil, ⟨⟨⟨?_, Or.inl rfl, Or.inr (Or.inl rfl)⟩, Nat.le_refl _, incI hi24 (by decide), trivial, Or.inr ?_, trivial, trivial⟩, ⟨rfl, trivial, rfl, trivial, trivial⟩⟩⟩
        · rw [hst, List.map_append]; rfl
        · exact congrArg (fun l => PV.fr (List.length l) 1) (by rw [hst, List.map_append]; rfl : ((l.take i).map fewN).map evR ++ [evR (fewN l[i])] = ((l.take (i + 1)).map fewN).map evR)
      · intro h
        have hi24 : ¬ i < 6 := by have := of_decide_eq_false h; omega
        conv => whnf
        refine ⟨?_, Or.inl rfl, Or.inr rfl⟩
        unfold listsV
        obtain rfl : i = 6 := by omega
        rfl
    · intro h
      have hil := gem h h1
      conv => whnf
      refine ⟨?_, Or.inl rfl, Or.inr rfl⟩
      unfold listsV
      rw [List.take_of_length_le (by omega), List.take_of_length_le (by omega)]
theorem of1_pc (x : S34) (hx : TinyN x) : PC 44 [evN x] (.s (.bool (!mayN x))) := by
  refine pc_of tt_ok tt_follows Tryz.func44 rfl (by kernel_rfl) (by kernel_rfl) (Nat.le_of_ble_eq_true rfl) rfl ?_
  conv => whnf
  refine ⟨_, nodeMay_pc x hx, ?_⟩
  (conv => whnf) <;> try rfl
def saidL (keys : List S34) (lists : List (List S34)) (root : List S34) : List S34 := keys ++ (root ++ (lists.flatten ++ []))
def goodOf (keys : List S34) (lists : List (List S34)) (root : List S34) : Prop := keys.length = lists.length ∧ (saidL keys lists root).all mayN = true
abbrev evU0 : PV := .ag [.s (.int .i64 0), .s (.int .i64 0), .sl 0 0 []]
theorem rof_pc (keys : List S34) (lists : List (List S34)) (root : List S34) (hl : (saidL keys lists root).length ≤ 30000) (hn : lists.length ≤ 100) (ht : ∀ x ∈ saidL keys lists root, TinyN x) :
    (goodOf keys lists root → PC 24 [.sl 0 2 (keys.map evN), .sl 0 1 (lists.map evR), .sl 0 2 (root.map evN)] (.tu [evU ⟨keys.length, (saidL keys lists root).length - keys.length, diffV [] (saidL keys lists root)⟩, .s (.int .i64 0)])) ∧
    (¬ goodOf keys lists root → PC 24 [.sl 0 2 (keys.map evN), .sl 0 1 (lists.map evR), .sl 0 2 (root.map evN)] (.tu [evU0, .s (.int .i64 1)])) := by
  have lk : keys.length ≤ 30000 := by unfold saidL at hl; rw [List.length_append] at hl; omega
  have lf : lists.flatten.length ≤ 30000 := by unfold saidL at hl; rw [List.length_append, List.length_append, List.length_append] at hl; omega
  have wK := containsN_pc keys (by omega) 44 (fun x => !mayN x) (fun x hx => of1_pc x (ht x (List.mem_append_left _ hx)))
  have wL := concat_pc lists (by omega) hn
  have wS : PC 46 [.sl 0 1 [evR keys, evR root, evR lists.flatten]] (.sl 4 2 ((saidL keys lists root).map evN)) := concat_pc [keys, root, lists.flatten] (by show (saidL keys lists root).length ≤ _; omega) (by simp)
  have wC := count13_pc (saidL keys lists root) (by omega) ht
  have hkall : (saidL keys lists root).all mayN = true → keys.any (fun x => !mayN x) = false := fun h => by
    rw [List.any_eq_false]
    intro x hx e
    have := List.all_eq_true.1 h x (List.mem_append_left _ hx)
    rw [this] at e; cases e
  have e1 : ((keys.map evN).length : Int) = keys.length := by rw [List.length_map]
  have e2 : (((saidL keys lists root).map evN).length : Int) = (saidL keys lists root).length := by rw [List.length_map]
  unfold goodOf
  generalize saidL keys lists root = D at *
  by_cases hkl : keys.length = lists.length
  case neg =>
    refine ⟨fun h => absurd h.1 hkl, fun _ => ?_⟩
    refine pc_of tt_ok tt_follows Tryz.func24 rfl (by kernel_rfl) (by kernel_rfl) (Nat.le_of_ble_eq_true rfl) rfl ?_
    conv => whnf
    refine ⟨fun _ => ?_, fun h => absurd h (by simp; omega)⟩
    conv => whnf
    exact ⟨rfl, rfl, trivial⟩
  refine ⟨fun hg => ?_, fun hg => ?_⟩
  · have hall := hg.2
    have hk0 := hkall hall
    rw [hk0] at wK
    refine pc_of tt_ok tt_follows Tryz.func24 rfl (by kernel_rfl) (by kernel_rfl) (Nat.le_of_ble_eq_true rfl) rfl ?_
    conv => whnf
    refine ⟨fun h => absurd h (by simp [hkl]), fun _ => ?_⟩
    conv => whnf
    refine ⟨_, wK, ?_⟩
    conv => whnf
    refine ⟨(fun h => by cases h), fun _ => ?_⟩
    conv => whnf
    refine ⟨_, wL, ?_⟩
    conv => whnf
    refine ⟨_, wS, ?_⟩
    conv => whnf
    refine ⟨_, wC (diffV [] D) 0 (if_pos hall), ?_⟩
    conv => whnf
    refine ⟨(fun h => by cases h), fun _ => ?_⟩
    conv => whnf
    refine ⟨?_, rfl, trivial⟩
    show PV.ag [.s (.int .i64 (((keys.map evN).length : Nat) : Int)), .s (.int .i64 (IntKind.wrap .i64 ((((D.map evN).length : Nat) : Int) - (((keys.map evN).length : Nat) : Int)))), .sl 0 3 ((diffV [] D).map evE)] = evU ⟨keys.length, D.length - keys.length, diffV [] D⟩
    rw [e1, e2, wrapI (by omega)]; rfl
  · refine pc_of tt_ok tt_follows Tryz.func24 rfl (by kernel_rfl) (by kernel_rfl) (Nat.le_of_ble_eq_true rfl) rfl ?_
    conv => whnf
    refine ⟨fun h => absurd h (by simp [hkl]), fun _ => ?_⟩
    conv => whnf
    refine ⟨_, wK, ?_⟩
    conv => whnf
    constructor
    · intro h
      conv => whnf
      exact ⟨rfl, rfl, trivial⟩
    · intro h
      have hall : ¬ D.all mayN = true := fun h => hg ⟨hkl, h⟩
      conv => whnf
      refine ⟨_, wL, ?_⟩
      conv => whnf
      refine ⟨_, wS, ?_⟩
      conv => whnf
      refine ⟨_, wC [] 1 (if_neg hall), ?_⟩
      conv => whnf
      refine ⟨fun _ => ?_, (fun h => by cases h)⟩
      conv => whnf
      exact ⟨rfl, rfl, trivial⟩
def edL (lists : List (List S34)) (i : Nat) : Nat := ((lists.take i).flatten).length
theorem edL_succ {lists : List (List S34)} {i : Nat} (h : i < lists.length) : edL lists (i + 1) = edL lists i + lists[i].length := by
  unfold edL
  rw [List.take_succ_eq_append_getElem h, List.flatten_append, List.length_append]
  simp
theorem edL_le {lists : List (List S34)} (h2 : ∀ l ∈ lists, l.length ≤ 24) : ∀ i, i ≤ lists.length → edL lists i ≤ 24 * i
  | 0, _ => by simp [edL]
  | i + 1, hl => by
    have := edL_le h2 i (by omega)
    have h3 := h2 _ (List.getElem_mem (by omega : i < lists.length))
    rw [edL_succ (by omega)]
    omega
theorem nb_int {a b : Int} (h : a = b) : (PV.s (.int .i64 a)).nb = (PV.s (.int .i64 b)).nb := by rw [h]
theorem listsV_len (l : List (List S34)) : (listsV l).length ≤ 6 := by unfold listsV; rw [List.length_map, List.length_take]; omega
theorem listsV_each (l : List (List S34)) : ∀ x ∈ listsV l, x.length ≤ 24 ∧ ∀ y ∈ x, Brief y := fun x hx => by
  unfold listsV at hx
  obtain ⟨y, _, rfl⟩ := List.mem_map.1 hx
  exact ⟨fewN_len y, fewN_brief y⟩
theorem flat_len : ∀ (LL : List (List S34)), (∀ x ∈ LL, x.length ≤ 24) → LL.flatten.length ≤ 24 * LL.length
  | [], _ => by simp
  | l :: r, h => by
    have := flat_len r (fun x hx => h x (.tail _ hx))
    have := h l (.head _)
    rw [List.flatten_cons, List.length_append, List.length_cons]
    omega
theorem saidL_mem {K R : List S34} {LL : List (List S34)} {p : S34 → Prop} (h1 : ∀ x ∈ K, p x) (h2 : ∀ l ∈ LL, ∀ x ∈ l, p x) (h3 : ∀ x ∈ R, p x) : ∀ x ∈ saidL K LL R, p x := fun x hx => by
  unfold saidL at hx
  rw [List.append_nil, List.mem_append, List.mem_append, List.mem_flatten] at hx
  rcases hx with h | h | ⟨l, hl, h⟩
  · exact h1 x h
  · exact h3 x h
  · exact h2 l hl x h
theorem beqF' {a b : Int} (e : a = b) (h : (a == b) = false) : False := by rw [e] at h; simp at h
theorem roomBounds_pc (keys0 : List S34) (lists0 : List (List S34)) (root0 : List S34) :
    PC 7 [.sl 0 2 (keys0.map evN), .sl 0 1 (lists0.map evR), .sl 0 2 (root0.map evN)] (.s (.bool true)) := by
  have w1 := few5_pc keys0
  have w2 := lists14_pc lists0
  have w3 := few5_pc root0
  have lk := fewN_len keys0
  have lr := fewN_len root0
  have kb := fewN_brief keys0
  have rb := fewN_brief root0
  have l6 := listsV_len lists0
  have le := listsV_each lists0
  generalize fewN keys0 = K at *
  generalize fewN root0 = R at *
  generalize listsV lists0 = LL at *
  have lf := flat_len LL (fun x hx => (le x hx).1)
  have e1 : (saidL K LL R).length = K.length + (R.length + LL.flatten.length) := by unfold saidL; rw [List.append_nil, List.length_append, List.length_append]
  have st : ∀ x ∈ saidL K LL R, TinyN x := saidL_mem (p := fun x => TinyN x) (fun x hx => (kb x hx).tiny) (fun l hl x hx => ((le l hl).2 x hx).tiny) (fun x hx => (rb x hx).tiny)
  have hrof := rof_pc K LL R (by omega) (by omega) st
  by_cases hg : goodOf K LL R
  case neg =>
    have wR := hrof.2 hg
    refine pc_of tt_ok tt_follows Tryz.func7 rfl (by kernel_rfl) (by kernel_rfl) (Nat.le_of_ble_eq_true rfl) rfl ?_
    conv => whnf
    refine ⟨_, w1, ?_⟩
    conv => whnf
    refine ⟨_, w2, ?_⟩
    conv => whnf
    refine ⟨_, w3, ?_⟩
    conv => whnf
    refine ⟨_, wR, ?_⟩
    conv => whnf
    refine ⟨fun _ => ?_, (fun h => by cases h)⟩
    conv => whnf
    refine ⟨_, awake14_pc, ?_⟩
    (conv => whnf) <;> try rfl
  case pos =>
    have wR := hrof.1 hg
    have gS : GoodL (saidL K LL R) := ⟨by omega, fun x hx => ⟨st x hx, List.all_eq_true.1 hg.2 x hx⟩⟩
    have hsum := sumE_diff [] (saidL K LL R) (by decide) (by omega) (fun x h => by cases h) gS.2
    have hok := goodL_nil.oke gS (by simp; omega)
    have hlen := diffV_len2 [] (saidL K LL R)
    have hu := okU_useV (m := K.length) (e := (saidL K LL R).length - K.length) gS (by omega)
    have wC := rcheck_pc (useV K.length ((saidL K LL R).length - K.length) (saidL K LL R)) (by show (diffV [] (saidL K LL R)).length ≤ _; simp at hlen; omega) (fun x hx => (hok.1.tiny x hx).1)
    rw [hu] at wC
    have hkl := hg.1
    have hin := hok.1.inn
    unfold useV at wC
    generalize hD : diffV [] (saidL K LL R) = D at *
    have hD20 : D.length ≤ 500 := by simp at hlen; omega
    have hsum : sumE D = K.length + (R.length + LL.flatten.length : Nat) := by rw [hsum, e1]; simp
    have hlen : D.length ≤ K.length + (R.length + LL.flatten.length) := by simp at hlen; omega
    clear hok hu
    refine pc_of tt_ok tt_follows Tryz.func7 rfl (by kernel_rfl) (by kernel_rfl) (Nat.le_of_ble_eq_true rfl) rfl ?_
    conv => whnf
    refine ⟨_, w1, ?_⟩
    conv => whnf
    refine ⟨_, w2, ?_⟩
    conv => whnf
    refine ⟨_, w3, ?_⟩
    conv => whnf
    refine ⟨_, wR, ?_⟩
    conv => whnf
    refine ⟨(fun h => by cases h), fun _ => ?_⟩
    conv => whnf
    refine ⟨Nat, fun i => i ≤ D.length, fun i => [(27, .s (.int .i64 (sumE (D.take i)))), (30, .s (.int .i64 i)), (0, .sl 0 2 (K.map evN)), (3, .sl 0 1 (LL.map evR)), (6, .sl 0 2 (R.map evN))], [18, 21, 22], fun i => D.length - i, 0, Nat.zero_le _, ?_, fun i hi => ?_⟩
    · refine ⟨⟨rfl, trivial, rfl, trivial, ⟨rfl, Or.inl rfl, Or.inl rfl⟩, trivial, ⟨rfl, Or.inl rfl, Or.inl rfl⟩, trivial, ⟨rfl, Or.inl rfl, Or.inl rfl⟩, trivial, trivial⟩, ?_⟩
      repeat' (first | exact trivial | exact rfl | refine ⟨?_, ?_⟩)
    conv => whnf
    constructor
    · intro g
      have hil : i < D.length := ltm g
      have hst := sumE_take D i hil
      have hfar := sumE_far hin (i + 1) (by omega)
      conv => whnf
      refine ⟨_, idx_map evE D i hil, ?_⟩
      conv => whnf
      refine ⟨i + 1, hil, less1 hil, ⟨⟨?_, trivial, incI hil (by omega), trivial, ⟨rfl, Or.inl rfl, Or.inl rfl⟩, trivial, ⟨rfl, Or.inl rfl, Or.inl rfl⟩, trivial, ⟨rfl, Or.inl rfl, Or.inl rfl⟩, trivial, trivial⟩, ?_⟩⟩
      · exact nb_int (by rw [hst] at *; exact wrapI (by omega))
      · repeat' (first | exact trivial | exact rfl | refine ⟨?_, ?_⟩)
    intro g
    have hil : i = D.length := gem g hi
    have hta : D.take i = D := by rw [hil, List.take_length]
    conv => whnf
    refine ⟨Nat, fun j => j ≤ LL.length, fun j => [(33, .s (.int .i64 ((R.length : Nat) + (edL LL j : Nat)))), (36, .s (.int .i64 j))], [0, 3, 18, 21, 22, 27], fun j => LL.length - j, 0, Nat.zero_le _, ?_, fun j hj => ?_⟩
    · refine ⟨⟨nb_int (by rw [List.length_map]; simp [edL]), trivial, rfl, trivial, trivial⟩, ?_⟩
      repeat' (first | exact trivial | exact rfl | refine ⟨?_, ?_⟩)
    conv => whnf
    constructor
    · intro g
      have hjl := ltm g
      have hes := edL_succ hjl
      have h24 := (le _ (List.getElem_mem hjl)).1
      have hed := edL_le (fun x hx => (le x hx).1) j hj
      have e2 : (LL[j].map evN).length = LL[j].length := List.length_map ..
      conv => whnf
      refine ⟨_, idx_map evR LL j hjl, ?_⟩
      conv => whnf
      refine ⟨j + 1, hjl, less1 hjl, ⟨⟨?_, trivial, incI hjl (by omega), trivial, trivial⟩, ?_⟩⟩
      · exact nb_int (by rw [e2, wrapI (by omega)]; omega)
      · repeat' (first | exact trivial | exact rfl | refine ⟨?_, ?_⟩)
    intro g
    have hjl := gem g hj
    have hall : edL LL j = LL.flatten.length := by unfold edL; rw [hjl, List.take_length]
    have f1 : ((K.length : Nat) : Int) = (((K.map evN).length : Nat) : Int) := by rw [List.length_map]
    have f2 : (((saidL K LL R).length : Nat) : Int) - ((K.length : Nat) : Int) = (R.length : Nat) + (edL LL j : Nat) := by rw [e1, hall]; omega
    have f3 : sumE (D.take i) = IntKind.wrap .i64 ((((K.map evN).length : Nat) : Int) + ((R.length : Nat) + (edL LL j : Nat))) := by
      rw [hta, hsum, hall, List.length_map, wrapI (by omega)]; omega
    conv => whnf
    refine ⟨fun _ => ?_, fun h => (beqF' f1 h).elim⟩
    conv => whnf
    refine ⟨fun _ => ?_, fun h => (beqF' f2 h).elim⟩
    conv => whnf
    refine ⟨fun _ => ?_, fun h => (beqF' f3 h).elim⟩
    conv => whnf
    refine ⟨fun _ => ?_, fun h => absurd (of_decide_eq_false h) (by rw [hta, hsum]; show ¬ ¬ ((((D.map evE).length : Nat) : Int) ≤ _); rw [List.length_map]; omega)⟩
    conv => whnf
    refine ⟨_, wC, ?_⟩
    conv => whnf
    refine ⟨fun _ => ?_, (fun h => by cases h)⟩
    conv => whnf
    refine ⟨_, awake14_pc, ?_⟩
    (conv => whnf) <;> try rfl
end Go.Proofs.YtohdmmafjpjmfaaGreatDoor.Q
end
