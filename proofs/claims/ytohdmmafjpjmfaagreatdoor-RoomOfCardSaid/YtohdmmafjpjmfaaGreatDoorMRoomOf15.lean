/- Part 15 of this claim: several texts one behind the other: EvRRoots, EvRTakes, EvOf, EvOf2, EvROf. What each shows stands in its theorems; conditions: sizes of texts and lists, as the functions' definitions say. -/
import Derived.Test.YtohdmmafjpjmfaaGreatDoorMRoomOf14
import Derived.Test.YtohdmmafjpjmfaaGreatDoorMRoomOf9
section
namespace Go.Proofs.YtohdmmafjpjmfaaGreatDoor.Q
open Go.Proofs.YtohdmmafjpjmfaaGreatDoor.QB.D
open Go Go.RowKit Go.Lib Go.Proofs.YtohdmmafjpjmfaaGreatDoorW.PrintWords Go.Ev
set_option linter.unusedVariables false
set_option maxRecDepth 100000
theorem i64_small {n : Int} (h : -4000000000000 ≤ n ∧ n ≤ 4000000000000) : I64 n := by unfold I64; omega
def listsV (l : List (List S34)) : List (List S34) := (l.take 6).map fewN
theorem lists14_pc (l : List (List S34)) : PC 23 [.sl 0 1 (l.map evR)] (.sl 3 1 ((listsV l).map evR)) := by
  refine pc_of tt_ok tt_follows Tryz.func23 rfl (by kernel_rfl) (by kernel_rfl) (Nat.le_of_ble_eq_true rfl) rfl ?_
  conv => whnf
  refine ⟨Nat, fun i => i ≤ l.length ∧ i ≤ 6, fun i => [(9, .sl 24 1 (((l.take i).map fewN).map evR)), (12, .s (.int .i64 i)), (68, .fr (((l.take i).map fewN).map evR).length 1)], [0, 6], fun i => l.length - i, 0, ⟨Nat.zero_le _, Nat.zero_le _⟩, ?_, fun i hi => ?_⟩
  · exact ⟨⟨⟨rfl, Or.inr rfl, Or.inr (Or.inr rfl)⟩, Nat.le_refl _, rfl, trivial, Or.inl rfl, trivial, trivial⟩, ⟨rfl, trivial, rfl, trivial, trivial⟩⟩
  · obtain ⟨h1, h2⟩ := hi
    conv => whnf
    constructor
    · intro h
      have hil := ltm h
      conv => whnf
      constructor
      · intro h
        have hi24 : i < 6 := by have := of_decide_eq_true h; omega
        have hst := take_succ_map fewN l i hil
        conv => whnf
        refine ⟨_, idx_map evR l i hil, ?_⟩
        conv => whnf
        refine ⟨_, few5_pc l[i], ?_⟩
        conv => whnf
        refine ⟨by rw [List.length_map, List.length_map, List.length_take]; exact len1 (by omega) (by decide), ?_⟩
        conv => whnf
        refine ⟨rfl, ?_⟩
        conv => whnf
        refine ⟨i + 1, ⟨hil, hi24⟩, less1 hil, ⟨⟨⟨?_, Or.inl rfl, Or.inr (Or.inl rfl)⟩, Nat.le_refl _, incI hi24 (by decide), trivial, Or.inr ?_, trivial, trivial⟩, ⟨rfl, trivial, rfl, trivial, trivial⟩⟩⟩
        · rw [hst, List.map_append]; rfl
        · exact congrArg (fun l => PV.fr (List.length l) 1) (by rw [hst, List.map_append]; rfl : ((l.take i).map fewN).map evR ++ [evR (fewN l[i])] = ((l.take (i + 1)).map fewN).map evR)
      · intro h
        have hi24 : ¬ i < 6 := by have := of_decide_eq_false h; omega
        conv => whnf
        refine ⟨?_, Or.inl rfl, Or.inr rfl⟩
        unfold listsV
        obtain rfl : i = 6 := by omega
        rfl
    · intro h
      have hil := gem h h1
      conv => whnf
      refine ⟨?_, Or.inl rfl, Or.inr rfl⟩
      unfold listsV
      rw [List.take_of_length_le (by omega), List.take_of_length_le (by omega)]
theorem of1_pc (x : S34) (hx : TinyN x) : PC 44 [evN x] (.s (.bool (!mayN x))) := by
  refine pc_of tt_ok tt_follows Tryz.func44 rfl (by kernel_rfl) (by kernel_rfl) (Nat.le_of_ble_eq_true rfl) rfl ?_
  conv => whnf
  refine ⟨_, nodeMay_pc x hx, ?_⟩
  (conv => whnf) <;> try rfl
def saidL (keys : List S34) (lists : List (List S34)) (root : List S34) : List S34 := keys ++ (root ++ (lists.flatten ++ []))
def goodOf (keys : List S34) (lists : List (List S34)) (root : List S34) : Prop := keys.length = lists.length ∧ (saidL keys lists root).all mayN = true
abbrev evU0 : PV := .ag [.s (.int .i64 0), .s (.int .i64 0), .sl 0 0 []]
theorem rof_pc (keys : List S34) (lists : List (List S34)) (root : List S34) (hl : (saidL keys lists root).length ≤ 30000) (hn : lists.length ≤ 100) (ht : ∀ x ∈ saidL keys lists root, TinyN x) :
    (goodOf keys lists root → PC 24 [.sl 0 2 (keys.map evN), .sl 0 1 (lists.map evR), .sl 0 2 (root.map evN)] (.tu [evU ⟨keys.length, (saidL keys lists root).length - keys.length, diffV [] (saidL keys lists root)⟩, .s (.int .i64 0)])) ∧
    (¬ goodOf keys lists root → PC 24 [.sl 0 2 (keys.map evN), .sl 0 1 (lists.map evR), .sl 0 2 (root.map evN)] (.tu [evU0, .s (.int .i64 1)])) := by
  have lk : keys.length ≤ 30000 := by unfold saidL at hl; rw [List.length_append] at hl; omega
  have lf : lists.flatten.length ≤ 30000 := by unfold saidL at hl; rw [List.length_append, List.length_append, List.length_append] at hl; omega
  have wK := containsN_pc keys (by omega) 44 (fun x => !mayN x) (fun x hx => of1_pc x (ht x (List.mem_append_left _ hx)))
  have wL := concat_pc lists (by omega) hn
  have wS : PC 46 [.sl 0 1 [evR keys, evR root, evR lists.flatten]] (.sl 4 2 ((saidL keys lists root).map evN)) := concat_pc [keys, root, lists.flatten] (by show (saidL keys lists root).length ≤ _; omega) (by simp)
  have wC := count13_pc (saidL keys lists root) (by omega) ht
  have hkall : (saidL keys lists root).all mayN = true → keys.any (fun x => !mayN x) = false := fun h => by
    rw [List.any_eq_false]
    intro x hx e
    have := List.all_eq_true.1 h x (List.mem_append_left _ hx)
    rw [this] at e; cases e
  have e1 : ((keys.map evN).length : Int) = keys.length := by rw [List.length_map]
  have e2 : (((saidL keys lists root).map evN).length : Int) = (saidL keys lists root).length := by rw [List.length_map]
  unfold goodOf
  generalize saidL keys lists root = D at *
  by_cases hkl : keys.length = lists.length
  case neg =>
    refine ⟨fun h => absurd h.1 hkl, fun _ => ?_⟩
    refine pc_of tt_ok tt_follows Tryz.func24 rfl (by kernel_rfl) (by kernel_rfl) (Nat.le_of_ble_eq_true rfl) rfl ?_
    conv => whnf
    refine ⟨fun _ => ?_, fun h => absurd h (by simp; omega)⟩
    conv => whnf
    exact ⟨rfl, rfl, trivial⟩
  refine ⟨fun hg => ?_, fun hg => ?_⟩
  · have hall := hg.2
    have hk0 := hkall hall
    rw [hk0] at wK
    refine pc_of tt_ok tt_follows Tryz.func24 rfl (by kernel_rfl) (by kernel_rfl) (Nat.le_of_ble_eq_true rfl) rfl ?_
    conv => whnf
    refine ⟨fun h => absurd h (by simp [hkl]), fun _ => ?_⟩
    conv => whnf
    refine ⟨_, wK, ?_⟩
    conv => whnf
    refine ⟨(fun h => by cases h), fun _ => ?_⟩
    conv => whnf
    refine ⟨_, wL, ?_⟩
    conv => whnf
    refine ⟨_, wS, ?_⟩
    conv => whnf
    refine ⟨_, wC (diffV [] D) 0 (if_pos hall), ?_⟩
    conv => whnf
    refine ⟨(fun h => by cases h), fun _ => ?_⟩
    conv => whnf
    refine ⟨?_, rfl, trivial⟩
    show PV.ag [.s (.int .i64 (((keys.map evN).length : Nat) : Int)), .s (.int .i64 (IntKind.wrap .i64 ((((D.map evN).length : Nat) : Int) - (((keys.map evN).length : Nat) : Int)))), .sl 0 3 ((diffV [] D).map evE)] = evU ⟨keys.length, D.length - keys.length, diffV [] D⟩
    rw [e1, e2, wrapI (by omega)]; rfl
  · refine pc_of tt_ok tt_follows Tryz.func24 rfl (by kernel_rfl) (by kernel_rfl) (Nat.le_of_ble_eq_true rfl) rfl ?_
    conv => whnf
    refine ⟨fun h => absurd h (by simp [hkl]), fun _ => ?_⟩
    conv => whnf
    refine ⟨_, wK, ?_⟩
    conv => whnf
    constructor
    · intro h
      conv => whnf
      exact ⟨rfl, rfl, trivial⟩
    · intro h
      have hall : ¬ D.all mayN = true := fun h => hg ⟨hkl, h⟩
      conv => whnf
      refine ⟨_, wL, ?_⟩
      conv => whnf
      refine ⟨_, wS, ?_⟩
      conv => whnf
      refine ⟨_, wC [] 1 (if_neg hall), ?_⟩
      conv => whnf
      refine ⟨fun _ => ?_, (fun h => by cases h)⟩
      conv => whnf
      exact ⟨rfl, rfl, trivial⟩
def mixL (keys : List S34) (lists : List (List S34)) : Nat → List S34
  | 0 => []
  | i + 1 => mixL keys lists i ++ (lists.getD i [] ++ [keys.getD i ⟨⟨#[]⟩, ⟨#[]⟩⟩])
def edL (lists : List (List S34)) (i : Nat) : Nat := ((lists.take i).flatten).length
theorem edL_succ {lists : List (List S34)} {i : Nat} (h : i < lists.length) : edL lists (i + 1) = edL lists i + lists[i].length := by
  unfold edL
  rw [List.take_succ_eq_append_getElem h, List.flatten_append, List.length_append]
  simp
theorem mixL_cnt (keys : List S34) (lists : List (List S34)) (x : S34) : ∀ i, i ≤ keys.length → i ≤ lists.length → cntN (mixL keys lists i) x = cntN (keys.take i) x + cntN ((lists.take i).flatten) x
  | 0, _, _ => by simp [mixL, cntN]
  | i + 1, hk, hl => by
    rw [mixL, cntN_append, cntN_append, mixL_cnt keys lists x i (by omega) (by omega), List.take_succ_eq_append_getElem (by omega : i < keys.length), List.take_succ_eq_append_getElem (by omega : i < lists.length), cntN_append, List.flatten_append, cntN_append]
    rw [List.getD_eq_getElem?_getD, List.getD_eq_getElem?_getD, List.getElem?_eq_getElem (by omega : i < keys.length), List.getElem?_eq_getElem (by omega : i < lists.length)]
    simp
    omega
theorem mixL_mem {keys : List S34} {lists : List (List S34)} {p : S34 → Prop} (h1 : ∀ x ∈ keys, p x) (h2 : ∀ l ∈ lists, ∀ x ∈ l, p x) : ∀ i, i ≤ keys.length → i ≤ lists.length → ∀ x ∈ mixL keys lists i, p x
  | 0, _, _ => fun x h => by cases h
  | i + 1, hk, hl => fun x h => by
    rw [mixL, List.mem_append, List.mem_append, List.getD_eq_getElem?_getD, List.getD_eq_getElem?_getD, List.getElem?_eq_getElem (by omega : i < keys.length), List.getElem?_eq_getElem (by omega : i < lists.length)] at h
    rcases h with h | h | h
    · exact mixL_mem h1 h2 i (by omega) (by omega) x h
    · exact h2 _ (List.getElem_mem (by omega)) x h
    · rw [List.mem_singleton] at h
      subst h
      exact h1 _ (List.getElem_mem (by omega))
theorem mixL_len {keys : List S34} {lists : List (List S34)} (h2 : ∀ l ∈ lists, l.length ≤ 24) : ∀ i, i ≤ lists.length → (mixL keys lists i).length ≤ 25 * i
  | 0, _ => by simp [mixL]
  | i + 1, hl => by
    have := mixL_len (keys := keys) h2 i (by omega)
    have h3 := h2 _ (List.getElem_mem (by omega : i < lists.length))
    rw [mixL, List.length_append, List.length_append, List.getD_eq_getElem?_getD, List.getElem?_eq_getElem (by omega : i < lists.length)]
    show _ + (lists[i].length + 1) ≤ _
    omega
structure SmallU (keys : List S34) (lists : List (List S34)) (root : List S34) : Prop where
  kl : keys.length = lists.length
  l6 : lists.length ≤ 6
  l24 : ∀ l ∈ lists, l.length ≤ 24
  r24 : root.length ≤ 24
  kb : ∀ x ∈ keys, Brief x ∧ mayN x = true
  lb : ∀ l ∈ lists, ∀ x ∈ l, Brief x ∧ mayN x = true
  rb : ∀ x ∈ root, Brief x ∧ mayN x = true
theorem useV_of {L : List S34} {n : Nat} (h : BGood n L) (hn : n ≤ 900) (m e : Int) : Oke (useV m e L).s ∧ (useV m e L).s.length ≤ 900 ∧ ∀ x ∈ (useV m e L).s, Brief x.f0 :=
  ⟨(goodL_nil.oke (h.good (by omega)) (by have := h.1; simp; omega)).1, by have := diffV_len2 [] L; have := h.1; simp at *; show (diffV [] L).length ≤ _; omega, diffV_brief [] L (fun x h => by cases h) (fun x hx => (h.2 x hx).1)⟩
theorem chU_use {L K : List S34} {n k : Nat} (h : BGood n L) (hk : BGood k K) (hn : n + k ≤ 900) (m e dm ed : Int) : chU (useV m e L) dm 1 ed K = useV (m + dm) (e + ed) (L ++ K) := by
  have hLK : BGood (n + k) (L ++ K) := ⟨by rw [List.length_append]; have := h.1; have := hk.1; omega, fun x hx => (List.mem_append.1 hx).elim (h.2 x) (hk.2 x)⟩
  rw [← addU_add (dm := dm) (de := ed) (h.good (by omega)) (hk.good (by omega)) (hLK.good (by omega))]
  unfold chU addU saidV
  rw [if_pos (by decide), Int.one_mul]
theorem SmallU.mix {keys : List S34} {lists : List (List S34)} {root : List S34} (h : SmallU keys lists root) (i : Nat) (hi : i ≤ keys.length) : BGood 150 (mixL keys lists i) :=
  ⟨by have := mixL_len (keys := keys) h.l24 i (by have := h.kl; omega); have := h.kl; have := h.l6; omega, mixL_mem (p := fun x => Brief x ∧ mayN x = true) h.kb h.lb i hi (by have := h.kl; omega)⟩
theorem edL_le {lists : List (List S34)} (h2 : ∀ l ∈ lists, l.length ≤ 24) : ∀ i, i ≤ lists.length → edL lists i ≤ 24 * i
  | 0, _ => by simp [edL]
  | i + 1, hl => by
    have := edL_le h2 i (by omega)
    have h3 := h2 _ (List.getElem_mem (by omega : i < lists.length))
    rw [edL_succ (by omega)]
    omega
theorem nb_int {a b : Int} (h : a = b) : (PV.s (.int .i64 a)).nb = (PV.s (.int .i64 b)).nb := by rw [h]
theorem of14_pc (keys : List S34) (lists : List (List S34)) (root : List S34) (h : SmallU keys lists root) :
    PC 26 [.sl 0 2 (keys.map evN), .sl 0 1 (lists.map evR), .sl 0 2 (root.map evN)] (evU (useV keys.length (edL lists keys.length + root.length) (mixL keys lists keys.length ++ root))) := by
  have hkl := h.kl
  have hl6 := h.l6
  refine pc_of tt_ok tt_follows Tryz.func26 rfl (by kernel_rfl) (by kernel_rfl) (Nat.le_of_ble_eq_true rfl) rfl ?_
  conv => whnf
  refine ⟨Nat, fun i => i ≤ keys.length, fun i => [(24, .s (.int .i64 i)), (22, .ag [.s (.int .i64 (i : Nat)), .s (.int .i64 (edL lists i : Nat)), .sl 0 3 ((diffV [] (mixL keys lists i)).map evE)])], [0, 3, 6, 18, 19, 21], fun i => keys.length - i, 0, Nat.zero_le _, ?_, fun i hi => ?_⟩
  · refine ⟨⟨rfl, trivial, ⟨rfl, rfl, ⟨by rw [show diffV [] (mixL keys lists 0) = [] from diffV_same (fun x => rfl)]; rfl, Or.inr rfl, Or.inl rfl⟩, trivial⟩, ⟨trivial, trivial, trivial, trivial⟩, trivial⟩, ?_⟩
    repeat' (first | exact trivial | exact rfl | refine ⟨?_, ?_⟩)
  conv => whnf
  constructor
  · intro g
    have hil := ltm g
    have hil' : i < lists.length := by omega
    have bL := h.mix i (by omega)
    have l1 := h.l24 _ (List.getElem_mem hil')
    have bK : BGood 25 (lists[i] ++ [keys[i]]) := ⟨by rw [List.length_append]; show _ + 1 ≤ _; omega, fun x hx => (List.mem_append.1 hx).elim (h.lb _ (List.getElem_mem hil') x) (fun e => by rw [List.mem_singleton.1 e]; exact h.kb _ (List.getElem_mem hil))⟩
    obtain ⟨q1, q2, q3⟩ := useV_of bL (by decide) (i : Nat) (edL lists i : Nat)
    have he := edL_le h.l24 i (by omega)
    have wX := change14_pc (useV (i : Nat) (edL lists i : Nat) (mixL keys lists i)) 1 1 (lists[i].length : Nat) (lists[i] ++ [keys[i]]) q1 q2 q3 ⟨by have := bK.1; omega, bK.2⟩ (i64_small (by show _ ≤ (i : Int) + 1 ∧ (i : Int) + 1 ≤ _; omega)) (i64_small (by omega)) (i64_small (by show _ ≤ (edL lists i : Int) + _ ∧ (edL lists i : Int) + _ ≤ _; omega))
    have hch := chU_use bL bK (by decide) (i : Nat) (edL lists i : Nat) 1 (lists[i].length : Nat)
    have hmx : mixL keys lists (i + 1) = mixL keys lists i ++ (lists[i] ++ [keys[i]]) := by
      rw [mixL, List.getD_eq_getElem?_getD, List.getD_eq_getElem?_getD, List.getElem?_eq_getElem hil, List.getElem?_eq_getElem hil']; rfl
    rw [hch, ← hmx, List.map_append, show ((lists[i].length : Nat) : Int) = (((lists[i].map evN).length : Nat) : Int) by rw [List.length_map]] at wX
    have e1 : (lists[i].map evN).length = lists[i].length := List.length_map ..
    have hes := edL_succ hil'
    conv => whnf
    refine ⟨_, idx_map evR lists i hil', ?_⟩
    conv => whnf
    refine ⟨_, idx_map evR lists i hil', ?_⟩
    conv => whnf
    refine ⟨by show 0 + _ ≤ _ ∧ (0 + _) * 32 ≤ _; rw [e1]; exact lenS (by omega) (by decide), ?_⟩
    conv => whnf
    refine ⟨_, idx_map evN keys i hil, ?_⟩
    conv => whnf
    refine ⟨by show (lists[i].map evN).length + 1 ≤ _ ∧ ((lists[i].map evN).length + 1) * 32 ≤ _; rw [e1]; exact len1 (by omega) (by decide), ?_⟩
    conv => whnf
    refine ⟨rfl, ?_⟩
    conv => whnf
    refine ⟨_, wX, ?_⟩
    conv => whnf
    refine ⟨by kernel_rfl, ?_⟩
    conv => whnf
    refine ⟨i + 1, hil, less1 hil, ⟨⟨incI hil (by omega), trivial, ⟨rfl, nb_int (by show ((edL lists i : Nat) : Int) + (((lists[i].map evN).length : Nat) : Int) = _; rw [e1]; omega), ⟨rfl, Or.inl rfl, Or.inl rfl⟩, trivial⟩, ⟨trivial, trivial, trivial, trivial⟩, trivial⟩, ?_⟩⟩
    repeat' (first | exact trivial | exact rfl | refine ⟨?_, ?_⟩)
  · intro g
    have hil := gem g hi
    subst hil
    have bL := h.mix keys.length (by omega)
    have bK : BGood 24 root := ⟨h.r24, h.rb⟩
    have hr := h.r24
    obtain ⟨q1, q2, q3⟩ := useV_of bL (by decide) (keys.length : Nat) (edL lists keys.length : Nat)
    have he := edL_le h.l24 keys.length (by omega)
    have wX := change14_pc (useV (keys.length : Nat) (edL lists keys.length : Nat) (mixL keys lists keys.length)) 0 1 (root.length : Nat) root q1 q2 q3 ⟨by omega, bK.2⟩ (i64_small (by show _ ≤ (keys.length : Int) + 0 ∧ (keys.length : Int) + 0 ≤ _; omega)) (i64_small (by omega)) (i64_small (by show _ ≤ (edL lists keys.length : Int) + _ ∧ (edL lists keys.length : Int) + _ ≤ _; omega))
    have hch := chU_use bL bK (by decide) (keys.length : Nat) (edL lists keys.length : Nat) 0 (root.length : Nat)
    rw [hch, Int.add_zero, show PV.s (.int .i64 ((root.length : Nat) : Int)) = .s (.int .i64 (((root.map evN).length : Nat) : Int)) by rw [List.length_map]] at wX
    conv => whnf
    refine ⟨_, wX, ?_⟩
    conv => whnf
    rfl
theorem listsV_len (l : List (List S34)) : (listsV l).length ≤ 6 := by unfold listsV; rw [List.length_map, List.length_take]; omega
theorem listsV_each (l : List (List S34)) : ∀ x ∈ listsV l, x.length ≤ 24 ∧ ∀ y ∈ x, Brief y := fun x hx => by
  unfold listsV at hx
  obtain ⟨y, _, rfl⟩ := List.mem_map.1 hx
  exact ⟨fewN_len y, fewN_brief y⟩
theorem flat_len : ∀ (LL : List (List S34)), (∀ x ∈ LL, x.length ≤ 24) → LL.flatten.length ≤ 24 * LL.length
  | [], _ => by simp
  | l :: r, h => by
    have := flat_len r (fun x hx => h x (.tail _ hx))
    have := h l (.head _)
    rw [List.flatten_cons, List.length_append, List.length_cons]
    omega
theorem saidL_all {K R : List S34} {LL : List (List S34)} : (saidL K LL R).all mayN = (K.all mayN && (R.all mayN && LL.all (fun l => l.all mayN))) := by
  unfold saidL
  rw [List.all_append, List.all_append, List.append_nil, List.all_flatten]
theorem saidL_mem {K R : List S34} {LL : List (List S34)} {p : S34 → Prop} (h1 : ∀ x ∈ K, p x) (h2 : ∀ l ∈ LL, ∀ x ∈ l, p x) (h3 : ∀ x ∈ R, p x) : ∀ x ∈ saidL K LL R, p x := fun x hx => by
  unfold saidL at hx
  rw [List.append_nil, List.mem_append, List.mem_append, List.mem_flatten] at hx
  rcases hx with h | h | ⟨l, hl, h⟩
  · exact h1 x h
  · exact h3 x h
  · exact h2 l hl x h
theorem of_same {K R : List S34} {LL : List (List S34)} (h : SmallU K LL R) : (⟨K.length, (saidL K LL R).length - K.length, diffV [] (saidL K LL R)⟩ : UV) = useV K.length (edL LL K.length + R.length) (mixL K LL K.length ++ R) := by
  have hm := h.mix K.length (Nat.le_refl _)
  have hf := flat_len LL h.l24
  have hl6 := h.l6
  have hkl := h.kl
  have hr := h.r24
  have e0 : LL.take K.length = LL := List.take_of_length_le (by omega)
  have e1 : (saidL K LL R).length = K.length + (R.length + LL.flatten.length) := by unfold saidL; rw [List.append_nil, List.length_append, List.length_append]
  have g1 : GoodL (saidL K LL R) := ⟨by omega, fun x hx => by
    have := saidL_mem (p := fun x => Brief x ∧ mayN x = true) h.kb h.lb h.rb x hx
    exact ⟨this.1.tiny, this.2⟩⟩
  have g2 : GoodL (mixL K LL K.length ++ R) := ⟨by rw [List.length_append]; have := hm.1; omega, fun x hx => by
    have : Brief x ∧ mayN x = true := (List.mem_append.1 hx).elim (hm.2 x) (h.rb x)
    exact ⟨this.1.tiny, this.2⟩⟩
  unfold useV
  rw [diffV_cnt g1 g2 (fun x => by
    rw [cntN_append, mixL_cnt K LL x K.length (Nat.le_refl _) (by omega), List.take_length, e0]
    unfold saidL
    rw [List.append_nil, cntN_append, cntN_append]
    omega)]
  congr 1
  unfold edL
  rw [e0, e1]
  omega
theorem roomOf_pc (keys0 : List S34) (lists0 : List (List S34)) (root0 : List S34) :
    PC 6 [.sl 0 2 (keys0.map evN), .sl 0 1 (lists0.map evR), .sl 0 2 (root0.map evN)] (.s (.bool true)) := by
  have w1 := few5_pc keys0
  have w2 := lists14_pc lists0
  have w3 := few5_pc root0
  have lk := fewN_len keys0
  have lr := fewN_len root0
  have kb := fewN_brief keys0
  have rb := fewN_brief root0
  have l6 := listsV_len lists0
  have le := listsV_each lists0
  generalize fewN keys0 = K at *
  generalize fewN root0 = R at *
  generalize listsV lists0 = LL at *
  have lf := flat_len LL (fun x hx => (le x hx).1)
  have e1 : (saidL K LL R).length = K.length + (R.length + LL.flatten.length) := by unfold saidL; rw [List.append_nil, List.length_append, List.length_append]
  have hrof := rof_pc K LL R (by omega) (by omega) (saidL_mem (p := fun x => TinyN x) (fun x hx => (kb x hx).tiny) (fun l hl x hx => ((le l hl).2 x hx).tiny) (fun x hx => (rb x hx).tiny))
  have wNK := nodes14_pc K (by omega) kb
  have wNR := nodes14_pc R (by omega) rb
  have wNL := fun i (hil : i < LL.length) => nodes14_pc LL[i] (by have := (le _ (List.getElem_mem hil)).1; omega) (le _ (List.getElem_mem hil)).2
  have wNN : PC 17 [evU noneU, evU noneU] (.s (.bool true)) := by
    have := same14r_pc noneU noneU (by decide)
    rwa [eqU_iff.2 rfl] at this
  have m1 : ((K.map evN).length : Int) = K.length := by rw [List.length_map]
  have m2 : ((LL.map evR).length : Int) = LL.length := by rw [List.length_map]
  by_cases hg : goodOf K LL R
  · have hall := hg.2
    rw [saidL_all, Bool.and_eq_true, Bool.and_eq_true] at hall
    obtain ⟨a1, a2, a3⟩ := hall
    have hs : SmallU K LL R := ⟨hg.1, l6, fun l hl => (le l hl).1, lr, fun x hx => ⟨kb x hx, List.all_eq_true.1 a1 x hx⟩, fun l hl x hx => ⟨(le l hl).2 x hx, List.all_eq_true.1 (List.all_eq_true.1 a3 l hl) x hx⟩, fun x hx => ⟨rb x hx, List.all_eq_true.1 a2 x hx⟩⟩
    have wR := hrof.1 hg
    have wO := of14_pc K LL R hs
    rw [of_same hs] at wR
    rw [a1] at wNK
    rw [a2] at wNR
    have wNL : ∀ i (hil : i < LL.length), PC 25 [evR LL[i]] (.s (.bool true)) := fun i hil => by
      have := wNL i hil
      rwa [List.all_eq_true.1 a3 _ (List.getElem_mem hil)] at this
    have wU : PC 17 [evU (useV K.length (edL LL K.length + R.length) (mixL K LL K.length ++ R)), evU (useV K.length (edL LL K.length + R.length) (mixL K LL K.length ++ R))] (.s (.bool true)) := by
      have := same14r_pc (useV K.length (edL LL K.length + R.length) (mixL K LL K.length ++ R)) (useV K.length (edL LL K.length + R.length) (mixL K LL K.length ++ R)) (by
        have h1 := diffV_len2 [] (mixL K LL K.length ++ R)
        have h2 := (hs.mix K.length (Nat.le_refl _)).1
        rw [List.length_append] at h1
        simp at h1
        show (diffV [] (mixL K LL K.length ++ R)).length ≤ _
        omega)
      rwa [eqU_iff.2 rfl] at this
    refine pc_of tt_ok tt_follows Tryz.func6 rfl (by kernel_rfl) (by kernel_rfl) (Nat.le_of_ble_eq_true rfl) rfl ?_
    conv => whnf
    refine ⟨_, w1, ?_⟩
    conv => whnf
    refine ⟨_, w2, ?_⟩
    conv => whnf
    refine ⟨_, w3, ?_⟩
    conv => whnf
    refine ⟨_, wR, ?_⟩
    conv => whnf
    refine ⟨fun _ => ?_, fun h => absurd h (by rw [m1, m2, hg.1]; simp)⟩
    conv => whnf
    refine ⟨_, wNK, ?_⟩
    conv => whnf
    refine ⟨fun _ => ?_, (fun h => by cases h)⟩
    conv => whnf
    refine ⟨_, wNR, ?_⟩
    conv => whnf
    refine ⟨Nat, fun i => i ≤ LL.length, fun i => [(27, .s (.bool (true))), (30, .s (.int .i64 i)), (0, .sl 0 2 (K.map evN)), (3, .sl 0 1 (LL.map evR)), (6, .sl 0 2 (R.map evN))], [18, 21, 22, 24], fun i => LL.length - i, 0, Nat.zero_le _, ?_, fun i hi => ?_⟩
    · refine ⟨⟨rfl, trivial, rfl, trivial, ⟨rfl, Or.inl rfl, Or.inl rfl⟩, trivial, ⟨rfl, Or.inl rfl, Or.inl rfl⟩, trivial, ⟨rfl, Or.inl rfl, Or.inl rfl⟩, trivial, trivial⟩, ?_⟩
      repeat' (first | exact trivial | exact rfl | refine ⟨?_, ?_⟩)
    conv => whnf
    constructor
    · intro g
      have hil := ltm g
      conv => whnf
      refine ⟨fun _ => ?_, (fun h => by cases h)⟩
      conv => whnf
      refine ⟨_, idx_map evR LL i hil, ?_⟩
      conv => whnf
      refine ⟨_, wNL i hil, ?_⟩
      conv => whnf
      refine ⟨i + 1, hil, less1 hil, ⟨⟨rfl, trivial, incI hil (by omega), trivial, ⟨rfl, Or.inl rfl, Or.inl rfl⟩, trivial, ⟨rfl, Or.inl rfl, Or.inl rfl⟩, trivial, ⟨rfl, Or.inl rfl, Or.inl rfl⟩, trivial, trivial⟩, ?_⟩⟩
      repeat' (first | exact trivial | exact rfl | refine ⟨?_, ?_⟩)
    · intro g
      have hil := gem g hi
      conv => whnf
      refine ⟨(fun h => by cases h), fun _ => ?_⟩
      conv => whnf
      refine ⟨_, wO, ?_⟩
      conv => whnf
      refine ⟨_, wU, ?_⟩
      conv => whnf
      refine ⟨fun _ => ?_, (fun h => by cases h)⟩
      conv => whnf
      refine ⟨fun _ => ?_, (fun h => by cases h)⟩
      conv => whnf
      refine ⟨_, awake14_pc, ?_⟩
      conv => whnf
      refine ⟨by kernel_rfl, ?_⟩
      (conv => whnf) <;> try rfl
  · have wR := hrof.2 hg
    refine pc_of tt_ok tt_follows Tryz.func6 rfl (by kernel_rfl) (by kernel_rfl) (Nat.le_of_ble_eq_true rfl) rfl ?_
    conv => whnf
    refine ⟨_, w1, ?_⟩
    conv => whnf
    refine ⟨_, w2, ?_⟩
    conv => whnf
    refine ⟨_, w3, ?_⟩
    conv => whnf
    refine ⟨_, wR, ?_⟩
    conv => whnf
    constructor
    · intro hkl
      have hkl : K.length = LL.length := by have := beq_iff_eq.1 hkl; omega
      conv => whnf
      refine ⟨_, wNK, ?_⟩
      conv => whnf
      constructor
      · intro hk
        conv => whnf
        refine ⟨_, wNR, ?_⟩
        conv => whnf
        have hfin : (R.all mayN && LL.all (fun l => l.all mayN)) = false := Bool.eq_false_iff.2 (fun e => hg ⟨hkl, by rw [saidL_all, hk, e]; rfl⟩)
        refine ⟨Nat, fun i => i ≤ LL.length, fun i => [(27, .s (.bool (R.all mayN && (LL.take i).all (fun l => l.all mayN)))), (30, .s (.int .i64 i)), (0, .sl 0 2 (K.map evN)), (3, .sl 0 1 (LL.map evR)), (6, .sl 0 2 (R.map evN))], [18, 21, 22, 24], fun i => LL.length - i, 0, Nat.zero_le _, ?_, fun i hi => ?_⟩
        · refine ⟨⟨by show PV.s _ = PV.s _; rw [List.take_zero, List.all_nil, Bool.and_true], trivial, rfl, trivial, ⟨rfl, Or.inl rfl, Or.inl rfl⟩, trivial, ⟨rfl, Or.inl rfl, Or.inl rfl⟩, trivial, ⟨rfl, Or.inl rfl, Or.inl rfl⟩, trivial, trivial⟩, ?_⟩
          repeat' (first | exact trivial | exact rfl | refine ⟨?_, ?_⟩)
        conv => whnf
        constructor
        · intro g
          have hil := ltm g
          conv => whnf
          have hst : (R.all mayN && (LL.take (i + 1)).all (fun l => l.all mayN)) = ((R.all mayN && (LL.take i).all (fun l => l.all mayN)) && LL[i].all mayN) := by
            rw [List.take_succ_eq_append_getElem hil, List.all_append, Bool.and_assoc]; simp
          cases hb : (R.all mayN && (LL.take i).all (fun l => l.all mayN))
          · rw [hb] at hst
            refine ⟨(fun h => by cases h), fun _ => ?_⟩
            conv => whnf
            refine ⟨i + 1, hil, less1 hil, ⟨⟨(by rw [hst]; rfl : PV.s (.bool false) = PV.s (.bool (R.all mayN && (LL.take (i + 1)).all (fun l => l.all mayN)))), trivial, incI hil (by omega), trivial, ⟨rfl, Or.inl rfl, Or.inl rfl⟩, trivial, ⟨rfl, Or.inl rfl, Or.inl rfl⟩, trivial, ⟨rfl, Or.inl rfl, Or.inl rfl⟩, trivial, trivial⟩, ?_⟩⟩
            repeat' (first | exact trivial | exact rfl | refine ⟨?_, ?_⟩)
          rw [hb] at hst
          refine ⟨fun _ => ?_, (fun h => by cases h)⟩
          conv => whnf
          refine ⟨_, idx_map evR LL i hil, ?_⟩
          conv => whnf
          refine ⟨_, wNL i hil, ?_⟩
          conv => whnf
          refine ⟨i + 1, hil, less1 hil, ⟨⟨(by rw [hst, Bool.true_and] : PV.s (.bool (LL[i].all mayN)) = PV.s (.bool (R.all mayN && (LL.take (i + 1)).all (fun l => l.all mayN)))), trivial, incI hil (by omega), trivial, ⟨rfl, Or.inl rfl, Or.inl rfl⟩, trivial, ⟨rfl, Or.inl rfl, Or.inl rfl⟩, trivial, ⟨rfl, Or.inl rfl, Or.inl rfl⟩, trivial, trivial⟩, ?_⟩⟩
          repeat' (first | exact trivial | exact rfl | refine ⟨?_, ?_⟩)
        · intro g
          have hil := gem g hi
          conv => whnf
          rw [show LL.take i = LL by rw [hil, List.take_length]]
          rw [hfin]
          refine ⟨fun _ => ?_, (fun h => by cases h)⟩
          conv => whnf
          refine ⟨_, pc_le wNN ⟨⟨rfl, rfl, ⟨rfl, Or.inr rfl, Or.inl rfl⟩, trivial⟩, ⟨rfl, rfl, ⟨rfl, Or.inr rfl, Or.inl rfl⟩, trivial⟩, trivial⟩, ?_⟩
          conv => whnf
          refine ⟨fun _ => ?_, (fun h => by cases h)⟩
          conv => whnf
          refine ⟨fun _ => ?_, (fun h => by cases h)⟩
          conv => whnf
          refine ⟨_, awake14_pc, ?_⟩
          (conv => whnf) <;> try rfl
      · intro hk
        conv => whnf
        refine ⟨Nat, fun i => i ≤ LL.length, fun i => [(27, .s (.bool (false))), (30, .s (.int .i64 i)), (0, .sl 0 2 (K.map evN)), (3, .sl 0 1 (LL.map evR)), (6, .sl 0 2 (R.map evN))], [18, 21, 22, 24], fun i => LL.length - i, 0, Nat.zero_le _, ?_, fun i hi => ?_⟩
        · refine ⟨⟨rfl, trivial, rfl, trivial, ⟨rfl, Or.inl rfl, Or.inl rfl⟩, trivial, ⟨rfl, Or.inl rfl, Or.inl rfl⟩, trivial, ⟨rfl, Or.inl rfl, Or.inl rfl⟩, trivial, trivial⟩, ?_⟩
          repeat' (first | exact trivial | exact rfl | refine ⟨?_, ?_⟩)
        conv => whnf
        constructor
        · intro g
          have hil := ltm g
          conv => whnf
          refine ⟨(fun h => by cases h), fun _ => ?_⟩
          conv => whnf
          refine ⟨i + 1, hil, less1 hil, ⟨⟨rfl, trivial, incI hil (by omega), trivial, ⟨rfl, Or.inl rfl, Or.inl rfl⟩, trivial, ⟨rfl, Or.inl rfl, Or.inl rfl⟩, trivial, ⟨rfl, Or.inl rfl, Or.inl rfl⟩, trivial, trivial⟩, ?_⟩⟩
          repeat' (first | exact trivial | exact rfl | refine ⟨?_, ?_⟩)
        · intro g
          have hil := gem g hi
          conv => whnf
          refine ⟨fun _ => ?_, (fun h => by cases h)⟩
          conv => whnf
          refine ⟨_, pc_le wNN ⟨⟨rfl, rfl, ⟨rfl, Or.inr rfl, Or.inl rfl⟩, trivial⟩, ⟨rfl, rfl, ⟨rfl, Or.inr rfl, Or.inl rfl⟩, trivial⟩, trivial⟩, ?_⟩
          conv => whnf
          refine ⟨fun _ => ?_, (fun h => by cases h)⟩
          conv => whnf
          refine ⟨fun _ => ?_, (fun h => by cases h)⟩
          conv => whnf
          refine ⟨_, awake14_pc, ?_⟩
          (conv => whnf) <;> try rfl
    · intro hkl
      conv => whnf
      refine ⟨Nat, fun i => i ≤ LL.length, fun i => [(27, .s (.bool (false))), (30, .s (.int .i64 i)), (0, .sl 0 2 (K.map evN)), (3, .sl 0 1 (LL.map evR)), (6, .sl 0 2 (R.map evN))], [18, 21, 22, 24], fun i => LL.length - i, 0, Nat.zero_le _, ?_, fun i hi => ?_⟩
      · refine ⟨⟨rfl, trivial, rfl, trivial, ⟨rfl, Or.inl rfl, Or.inl rfl⟩, trivial, ⟨rfl, Or.inl rfl, Or.inl rfl⟩, trivial, ⟨rfl, Or.inl rfl, Or.inl rfl⟩, trivial, trivial⟩, ?_⟩
        repeat' (first | exact trivial | exact rfl | refine ⟨?_, ?_⟩)
      conv => whnf
      constructor
      · intro g
        have hil := ltm g
        conv => whnf
        refine ⟨(fun h => by cases h), fun _ => ?_⟩
        conv => whnf
        refine ⟨i + 1, hil, less1 hil, ⟨⟨rfl, trivial, incI hil (by omega), trivial, ⟨rfl, Or.inl rfl, Or.inl rfl⟩, trivial, ⟨rfl, Or.inl rfl, Or.inl rfl⟩, trivial, ⟨rfl, Or.inl rfl, Or.inl rfl⟩, trivial, trivial⟩, ?_⟩⟩
        repeat' (first | exact trivial | exact rfl | refine ⟨?_, ?_⟩)
      · intro g
        have hil := gem g hi
        conv => whnf
        refine ⟨fun _ => ?_, (fun h => by cases h)⟩
        conv => whnf
        refine ⟨_, pc_le wNN ⟨⟨rfl, rfl, ⟨rfl, Or.inr rfl, Or.inl rfl⟩, trivial⟩, ⟨rfl, rfl, ⟨rfl, Or.inr rfl, Or.inl rfl⟩, trivial⟩, trivial⟩, ?_⟩
        conv => whnf
        refine ⟨fun _ => ?_, (fun h => by cases h)⟩
        conv => whnf
        refine ⟨fun _ => ?_, (fun h => by cases h)⟩
        conv => whnf
        refine ⟨_, awake14_pc, ?_⟩
        (conv => whnf) <;> try rfl
end Go.Proofs.YtohdmmafjpjmfaaGreatDoor.Q
end
