/- Part 15 of this claim: several texts one behind the other: EvRRoots, EvRTakes, EvOf, EvOf2, EvROf, EvRBnd, EvRBack, EvRBack2. What each shows stands in its theorems; conditions: sizes of texts and lists, as the functions' definitions say. -/
import Derived.Test.YtohdmmafjpjmfaaGreatDoorMRoomBack14
import Derived.Test.YtohdmmafjpjmfaaGreatDoorMRoomBack9
import Derived.Test.YtohdmmafjpjmfaaGreatDoorMRoomBack11
section
namespace Go.Proofs.YtohdmmafjpjmfaaGreatDoor.Q
open Go.Proofs.YtohdmmafjpjmfaaGreatDoor.QB.D
open Go Go.RowKit Go.Lib Go.Proofs.YtohdmmafjpjmfaaGreatDoorW.PrintWords Go.Ev
set_option linter.unusedVariables false
set_option maxRecDepth 100000
def listsV (l : List (List S34)) : List (List S34) := (l.take 6).map fewN
theorem lists14_pc (l : List (List S34)) : PC 23 [.sl 0 1 (l.map evR)] (.sl 3 1 ((listsV l).map evR)) := by
  refine pc_of tt_ok tt_follows Tryz.func23 rfl (by kernel_rfl) (by kernel_rfl) (Nat.le_of_ble_eq_true rfl) rfl ?_
  conv => whnf
  refine ⟨Nat, fun i => i ≤ l.length ∧ i ≤ 6, fun i => [(9, .sl 24 1 (((l.take i).map fewN).map evR)), (12, .s (.int .i64 i)), (68, .fr (((l.take i).map fewN).map evR).length 1)], [0, 6], fun i => l.length - i, 0, ⟨Nat.zero_le _, Nat.zero_le _⟩, ?_, fun i hi => ?_⟩
  · exact ⟨⟨⟨rfl, Or.inr rfl, Or.inr (Or.inr rfl)⟩, Nat.le_refl _, rfl, trivial, Or.inl rfl, trivial, trivial⟩, ⟨rfl, trivial, rfl, trivial, trivial⟩⟩
  · obtain ⟨h1, h2⟩ := hi
    conv => whnf
    constructor
    · intro h
      have hil := ltm h
      conv => whnf
      constructor
      · intro h
        have hi24 : i < 6 := by have := of_decide_eq_true h; omega
        have hst := take_succ_map fewN l i hil
        conv => whnf
        refine ⟨_, idx_map evR l i hil, ?_⟩
        conv => whnf
        refine ⟨_, few5_pc l[i], ?_⟩
        conv => whnf
        refine ⟨by rw [List.length_map, List.length_map, List.length_take]; exact len1 (by omega) (by decide), ?_⟩
        conv => whnf
        refine ⟨rfl, ?_⟩
        conv => whnf
        refine ⟨i + 1, ⟨hil, hi24⟩, less1 hil, ⟨⟨⟨?_, Or.inl rfl, Or.inr (Or.inl rfl)⟩, Nat.le_refl _, incI hi24 (by decide), trivial, Or.inr ?_, trivial, trivial⟩, ⟨rfl, trivial, rfl, trivial, trivial⟩⟩⟩
        · rw [hst, List.map_append]; rfl
        · exact congrArg (fun l => PV.fr (List.length l) 1) (by rw [hst, List.map_append]; rfl : ((l.take i).map fewN).map evR ++ [evR (fewN l[i])] = ((l.take (i + 1)).map fewN).map evR)
      · intro h
        have hi24 : ¬ i < 6 := by have := of_decide_eq_false h; omega
        conv => whnf
        refine ⟨?_, Or.inl rfl, Or.inr rfl⟩
        unfold listsV
        obtain rfl : i = 6 := by omega
        rfl
    · intro h
      have hil := gem h h1
      conv => whnf
      refine ⟨?_, Or.inl rfl, Or.inr rfl⟩
      unfold listsV
      rw [List.take_of_length_le (by omega), List.take_of_length_le (by omega)]
theorem of1_pc (x : S34) (hx : TinyN x) : PC 44 [evN x] (.s (.bool (!mayN x))) := by
  refine pc_of tt_ok tt_follows Tryz.func44 rfl (by kernel_rfl) (by kernel_rfl) (Nat.le_of_ble_eq_true rfl) rfl ?_
  conv => whnf
  refine ⟨_, nodeMay_pc x hx, ?_⟩
  (conv => whnf) <;> try rfl
def saidL (keys : List S34) (lists : List (List S34)) (root : List S34) : List S34 := keys ++ (root ++ (lists.flatten ++ []))
def goodOf (keys : List S34) (lists : List (List S34)) (root : List S34) : Prop := keys.length = lists.length ∧ (saidL keys lists root).all mayN = true
abbrev evU0 : PV := .ag [.s (.int .i64 0), .s (.int .i64 0), .sl 0 0 []]
theorem rof_pc (keys : List S34) (lists : List (List S34)) (root : List S34) (hl : (saidL keys lists root).length ≤ 30000) (hn : lists.length ≤ 100) (ht : ∀ x ∈ saidL keys lists root, TinyN x) :
    (goodOf keys lists root → PC 24 [.sl 0 2 (keys.map evN), .sl 0 1 (lists.map evR), .sl 0 2 (root.map evN)] (.tu [evU ⟨keys.length, (saidL keys lists root).length - keys.length, diffV [] (saidL keys lists root)⟩, .s (.int .i64 0)])) ∧
    (¬ goodOf keys lists root → PC 24 [.sl 0 2 (keys.map evN), .sl 0 1 (lists.map evR), .sl 0 2 (root.map evN)] (.tu [evU0, .s (.int .i64 1)])) := by
  have lk : keys.length ≤ 30000 := by unfold saidL at hl; rw [List.length_append] at hl; omega
  have lf : lists.flatten.length ≤ 30000 := by unfold saidL at hl; rw [List.length_append, List.length_append, List.length_append] at hl; omega
  have wK := containsN_pc keys (by omega) 44 (fun x => !mayN x) (fun x hx => of1_pc x (ht x (List.mem_append_left _ hx)))
  have wL := concat_pc lists (by omega) hn
  have wS : PC 46 [.sl 0 1 [evR keys, evR root, evR lists.flatten]] (.sl 4 2 ((saidL keys lists root).map evN)) := concat_pc [keys, root, lists.flatten] (by show (saidL keys lists root).length ≤ _; omega) (by simp)
  have wC := count13_pc (saidL keys lists root) (by omega) ht
  have hkall : (saidL keys lists root).all mayN = true → keys.any (fun x => !mayN x) = false := fun h => by
    rw [List.any_eq_false]
    intro x hx e
    have := List.all_eq_true.1 h x (List.mem_append_left _ hx)
    rw [this] at e; cases e
  have e1 : ((keys.map evN).length : Int) = keys.length := by rw [List.length_map]
  have e2 : (((saidL keys lists root).map evN).length : Int) = (saidL keys lists root).length := by rw [List.length_map]
  unfold goodOf
  generalize saidL keys lists root = D at *
  by_cases hkl : keys.length = lists.length
  case neg =>
    refine ⟨fun h => absurd h.1 hkl, fun _ => ?_⟩
    refine pc_of tt_ok tt_follows Tryz.func24 rfl (by kernel_rfl) (by kernel_rfl) (Nat.le_of_ble_eq_true rfl) rfl ?_
    conv => whnf
    refine ⟨fun _ => ?_, fun h => absurd h (by simp; omega)⟩
    conv => whnf
    exact ⟨rfl, rfl, trivial⟩
  refine ⟨fun hg => ?_, fun hg => ?_⟩
  · have hall := hg.2
    have hk0 := hkall hall
    rw [hk0] at wK
    refine pc_of tt_ok tt_follows Tryz.func24 rfl (by kernel_rfl) (by kernel_rfl) (Nat.le_of_ble_eq_true rfl) rfl ?_
    conv => whnf
    refine ⟨fun h => absurd h (by simp [hkl]), fun _ => ?_⟩
    conv => whnf
    refine ⟨_, wK, ?_⟩
    conv => whnf
    refine ⟨(fun h => by cases h), fun _ => ?_⟩
    conv => whnf
    refine ⟨_, wL, ?_⟩
    conv => whnf
    refine ⟨_, wS, ?_⟩
    conv => whnf
    refine ⟨_, wC (diffV [] D) 0 (if_pos hall), ?_⟩
    conv => whnf
    refine ⟨(fun h => by cases h), fun _ => ?_⟩
    conv => whnf
    refine ⟨?_, rfl, trivial⟩
    show PV.ag [.s (.int .i64 (((keys.map evN).length : Nat) : Int)), .s (.int .i64 (IntKind.wrap .i64 ((((D.map evN).length : Nat) : Int) - (((keys.map evN).length : Nat) : Int)))), .sl 0 3 ((diffV [] D).map evE)] = evU ⟨keys.length, D.length - keys.length, diffV [] D⟩
    rw [e1, e2, wrapI (by omega)]; rfl
  · refine pc_of tt_ok tt_follows Tryz.func24 rfl (by kernel_rfl) (by kernel_rfl) (Nat.le_of_ble_eq_true rfl) rfl ?_
    conv => whnf
    refine ⟨fun h => absurd h (by simp [hkl]), fun _ => ?_⟩
    conv => whnf
    refine ⟨_, wK, ?_⟩
    conv => whnf
    constructor
    · intro h
      conv => whnf
      exact ⟨rfl, rfl, trivial⟩
    · intro h
      have hall : ¬ D.all mayN = true := fun h => hg ⟨hkl, h⟩
      conv => whnf
      refine ⟨_, wL, ?_⟩
      conv => whnf
      refine ⟨_, wS, ?_⟩
      conv => whnf
      refine ⟨_, wC [] 1 (if_neg hall), ?_⟩
      conv => whnf
      refine ⟨fun _ => ?_, (fun h => by cases h)⟩
      conv => whnf
      exact ⟨rfl, rfl, trivial⟩
def mixL (keys : List S34) (lists : List (List S34)) : Nat → List S34
  | 0 => []
  | i + 1 => mixL keys lists i ++ (lists.getD i [] ++ [keys.getD i ⟨⟨#[]⟩, ⟨#[]⟩⟩])
def edL (lists : List (List S34)) (i : Nat) : Nat := ((lists.take i).flatten).length
theorem edL_succ {lists : List (List S34)} {i : Nat} (h : i < lists.length) : edL lists (i + 1) = edL lists i + lists[i].length := by
  unfold edL
  rw [List.take_succ_eq_append_getElem h, List.flatten_append, List.length_append]
  simp
theorem mixL_cnt (keys : List S34) (lists : List (List S34)) (x : S34) : ∀ i, i ≤ keys.length → i ≤ lists.length → cntN (mixL keys lists i) x = cntN (keys.take i) x + cntN ((lists.take i).flatten) x
  | 0, _, _ => by simp [mixL, cntN]
  | i + 1, hk, hl => by
    rw [mixL, cntN_append, cntN_append, mixL_cnt keys lists x i (by omega) (by omega), List.take_succ_eq_append_getElem (by omega : i < keys.length), List.take_succ_eq_append_getElem (by omega : i < lists.length), cntN_append, List.flatten_append, cntN_append]
    rw [List.getD_eq_getElem?_getD, List.getD_eq_getElem?_getD, List.getElem?_eq_getElem (by omega : i < keys.length), List.getElem?_eq_getElem (by omega : i < lists.length)]
    simp
    omega
theorem mixL_mem {keys : List S34} {lists : List (List S34)} {p : S34 → Prop} (h1 : ∀ x ∈ keys, p x) (h2 : ∀ l ∈ lists, ∀ x ∈ l, p x) : ∀ i, i ≤ keys.length → i ≤ lists.length → ∀ x ∈ mixL keys lists i, p x
  | 0, _, _ => fun x h => by cases h
  | i + 1, hk, hl => fun x h => by
    rw [mixL, List.mem_append, List.mem_append, List.getD_eq_getElem?_getD, List.getD_eq_getElem?_getD, List.getElem?_eq_getElem (by omega : i < keys.length), List.getElem?_eq_getElem (by omega : i < lists.length)] at h
    rcases h with h | h | h
    · exact mixL_mem h1 h2 i (by omega) (by omega) x h
    · exact h2 _ (List.getElem_mem (by omega)) x h
    · rw [List.mem_singleton] at h
      subst h
      exact h1 _ (List.getElem_mem (by omega))
theorem mixL_len {keys : List S34} {lists : List (List S34)} (h2 : ∀ l ∈ lists, l.length ≤ 24) : ∀ i, i ≤ lists.length → (mixL keys lists i).length ≤ 25 * i
  | 0, _ => by simp [mixL]
  | i + 1, hl => by
    have := mixL_len (keys := keys) h2 i (by omega)
    have h3 := h2 _ (List.getElem_mem (by omega : i < lists.length))
    rw [mixL, List.length_append, List.length_append, List.getD_eq_getElem?_getD, List.getElem?_eq_getElem (by omega : i < lists.length)]
    show _ + (lists[i].length + 1) ≤ _
    omega
structure SmallU (keys : List S34) (lists : List (List S34)) (root : List S34) : Prop where
  kl : keys.length = lists.length
  l6 : lists.length ≤ 6
  l24 : ∀ l ∈ lists, l.length ≤ 24
  r24 : root.length ≤ 24
  kb : ∀ x ∈ keys, Brief x ∧ mayN x = true
  lb : ∀ l ∈ lists, ∀ x ∈ l, Brief x ∧ mayN x = true
  rb : ∀ x ∈ root, Brief x ∧ mayN x = true
theorem useV_of {L : List S34} {n : Nat} (h : BGood n L) (hn : n ≤ 900) (m e : Int) : Oke (useV m e L).s ∧ (useV m e L).s.length ≤ 900 ∧ ∀ x ∈ (useV m e L).s, Brief x.f0 :=
  ⟨(goodL_nil.oke (h.good (by omega)) (by have := h.1; simp; omega)).1, by have := diffV_len2 [] L; have := h.1; simp at *; show (diffV [] L).length ≤ _; omega, diffV_brief [] L (fun x h => by cases h) (fun x hx => (h.2 x hx).1)⟩
theorem SmallU.mix {keys : List S34} {lists : List (List S34)} {root : List S34} (h : SmallU keys lists root) (i : Nat) (hi : i ≤ keys.length) : BGood 150 (mixL keys lists i) :=
  ⟨by have := mixL_len (keys := keys) h.l24 i (by have := h.kl; omega); have := h.kl; have := h.l6; omega, mixL_mem (p := fun x => Brief x ∧ mayN x = true) h.kb h.lb i hi (by have := h.kl; omega)⟩
theorem edL_le {lists : List (List S34)} (h2 : ∀ l ∈ lists, l.length ≤ 24) : ∀ i, i ≤ lists.length → edL lists i ≤ 24 * i
  | 0, _ => by simp [edL]
  | i + 1, hl => by
    have := edL_le h2 i (by omega)
    have h3 := h2 _ (List.getElem_mem (by omega : i < lists.length))
    rw [edL_succ (by omega)]
    omega
theorem nb_int {a b : Int} (h : a = b) : (PV.s (.int .i64 a)).nb = (PV.s (.int .i64 b)).nb := by rw [h]
theorem listsV_len (l : List (List S34)) : (listsV l).length ≤ 6 := by unfold listsV; rw [List.length_map, List.length_take]; omega
theorem listsV_each (l : List (List S34)) : ∀ x ∈ listsV l, x.length ≤ 24 ∧ ∀ y ∈ x, Brief y := fun x hx => by
  unfold listsV at hx
  obtain ⟨y, _, rfl⟩ := List.mem_map.1 hx
  exact ⟨fewN_len y, fewN_brief y⟩
theorem flat_len : ∀ (LL : List (List S34)), (∀ x ∈ LL, x.length ≤ 24) → LL.flatten.length ≤ 24 * LL.length
  | [], _ => by simp
  | l :: r, h => by
    have := flat_len r (fun x hx => h x (.tail _ hx))
    have := h l (.head _)
    rw [List.flatten_cons, List.length_append, List.length_cons]
    omega
theorem saidL_all {K R : List S34} {LL : List (List S34)} : (saidL K LL R).all mayN = (K.all mayN && (R.all mayN && LL.all (fun l => l.all mayN))) := by
  unfold saidL
  rw [List.all_append, List.all_append, List.append_nil, List.all_flatten]
theorem saidL_mem {K R : List S34} {LL : List (List S34)} {p : S34 → Prop} (h1 : ∀ x ∈ K, p x) (h2 : ∀ l ∈ LL, ∀ x ∈ l, p x) (h3 : ∀ x ∈ R, p x) : ∀ x ∈ saidL K LL R, p x := fun x hx => by
  unfold saidL at hx
  rw [List.append_nil, List.mem_append, List.mem_append, List.mem_flatten] at hx
  rcases hx with h | h | ⟨l, hl, h⟩
  · exact h1 x h
  · exact h3 x h
  · exact h2 l hl x h
theorem of_same {K R : List S34} {LL : List (List S34)} (h : SmallU K LL R) : (⟨K.length, (saidL K LL R).length - K.length, diffV [] (saidL K LL R)⟩ : UV) = useV K.length (edL LL K.length + R.length) (mixL K LL K.length ++ R) := by
  have hm := h.mix K.length (Nat.le_refl _)
  have hf := flat_len LL h.l24
  have hl6 := h.l6
  have hkl := h.kl
  have hr := h.r24
  have e0 : LL.take K.length = LL := List.take_of_length_le (by omega)
  have e1 : (saidL K LL R).length = K.length + (R.length + LL.flatten.length) := by unfold saidL; rw [List.append_nil, List.length_append, List.length_append]
  have g1 : GoodL (saidL K LL R) := ⟨by omega, fun x hx => by
    have := saidL_mem (p := fun x => Brief x ∧ mayN x = true) h.kb h.lb h.rb x hx
    exact ⟨this.1.tiny, this.2⟩⟩
  have g2 : GoodL (mixL K LL K.length ++ R) := ⟨by rw [List.length_append]; have := hm.1; omega, fun x hx => by
    have : Brief x ∧ mayN x = true := (List.mem_append.1 hx).elim (hm.2 x) (h.rb x)
    exact ⟨this.1.tiny, this.2⟩⟩
  unfold useV
  rw [diffV_cnt g1 g2 (fun x => by
    rw [cntN_append, mixL_cnt K LL x K.length (Nat.le_refl _) (by omega), List.take_length, e0]
    unfold saidL
    rw [List.append_nil, cntN_append, cntN_append]
    omega)]
  congr 1
  unfold edL
  rw [e0, e1]
  omega
def manL (K : List S34) (LL : List (List S34)) (i : Nat) : List S34 := LL.getD i [] ++ [K.getD i ⟨⟨#[]⟩, ⟨#[]⟩⟩]
def backL (K : List S34) (LL : List (List S34)) : Nat → List S34
  | 0 => []
  | i + 1 => backL K LL i ++ manL K LL (K.length - 1 - i)
def edB (K : List S34) (LL : List (List S34)) : Nat → Nat
  | 0 => 0
  | i + 1 => edB K LL i + (LL.getD (K.length - 1 - i) []).length
def restL (K : List S34) (LL : List (List S34)) (i : Nat) : List S34 := K.drop i ++ (LL.drop i).flatten
theorem SmallU.man {K R : List S34} {LL : List (List S34)} (h : SmallU K LL R) (i : Nat) (hi : i < K.length) : BGood 25 (manL K LL i) ∧ manL K LL i = LL[i]'(by have := h.kl; omega) ++ [K[i]] ∧ (LL.getD i []).length ≤ 24 := by
  have hl : i < LL.length := by have := h.kl; omega
  have e : manL K LL i = LL[i] ++ [K[i]] := by
    unfold manL
    rw [List.getD_eq_getElem?_getD, List.getD_eq_getElem?_getD, List.getElem?_eq_getElem hi, List.getElem?_eq_getElem hl]; rfl
  have h1 := h.l24 _ (List.getElem_mem hl)
  refine ⟨?_, e, by rw [List.getD_eq_getElem?_getD, List.getElem?_eq_getElem hl]; exact h1⟩
  rw [e]
  exact ⟨by rw [List.length_append]; show _ + 1 ≤ _; omega, fun x hx => (List.mem_append.1 hx).elim (h.lb _ (List.getElem_mem hl) x) (fun e => by rw [List.mem_singleton.1 e]; exact h.kb _ (List.getElem_mem hi))⟩
theorem BGood.app {n m : Nat} {L M : List S34} (h : BGood n L) (g : BGood m M) : BGood (n + m) (L ++ M) := ⟨by rw [List.length_append]; have := h.1; have := g.1; omega, fun x hx => (List.mem_append.1 hx).elim (h.2 x) (g.2 x)⟩
theorem BGood.mono {n m : Nat} {L : List S34} (h : BGood n L) (hm : n ≤ m) : BGood m L := ⟨Nat.le_trans h.1 hm, h.2⟩
theorem SmallU.back {K R : List S34} {LL : List (List S34)} (h : SmallU K LL R) : ∀ i, i ≤ K.length → BGood (25 * i) (backL K LL i) ∧ edB K LL i ≤ 24 * i
  | 0, _ => ⟨⟨Nat.le_refl _, fun x h => by cases h⟩, Nat.le_refl _⟩
  | i + 1, hi => by
    obtain ⟨g, e⟩ := h.back i (by omega)
    obtain ⟨m, _, l⟩ := h.man (K.length - 1 - i) (by omega)
    exact ⟨(g.app m).mono (by omega), by rw [edB]; omega⟩
theorem cnt_man_drop {K R : List S34} {LL : List (List S34)} (h : SmallU K LL R) (i : Nat) (hi : i < K.length) (x : S34) : cntN (restL K LL i) x = cntN (manL K LL i) x + cntN (restL K LL (i + 1)) x := by
  have hl : i < LL.length := by have := h.kl; omega
  rw [(h.man i hi).2.1]
  unfold restL
  rw [List.drop_eq_getElem_cons hi, List.drop_eq_getElem_cons hl, List.flatten_cons]
  simp only [cntN_append, cntN_cons]
  simp [cntN]
  omega
theorem cnt_back {K R : List S34} {LL : List (List S34)} (h : SmallU K LL R) (x : S34) : ∀ i, i ≤ K.length → cntN (backL K LL i) x = cntN (restL K LL (K.length - i)) x ∧ edB K LL i = ((LL.drop (K.length - i)).flatten).length
  | 0, _ => by
    have := h.kl
    unfold restL
    rw [Nat.sub_zero, List.drop_length, this, List.drop_length]
    exact ⟨rfl, rfl⟩
  | i + 1, hi => by
    obtain ⟨h1, h2⟩ := cnt_back h x i (by omega)
    have hk : K.length - (i + 1) < K.length := by omega
    have hl : K.length - (i + 1) < LL.length := by have := h.kl; omega
    have e1 : K.length - (i + 1) + 1 = K.length - i := by omega
    have e2 : K.length - 1 - i = K.length - (i + 1) := by omega
    have h3 := cnt_man_drop h _ hk x
    rw [e1] at h3
    refine ⟨by rw [backL, cntN_append, h1, e2, h3]; omega, ?_⟩
    rw [edB, h2, e2, List.drop_eq_getElem_cons hl, List.flatten_cons, List.length_append, e1, List.getD_eq_getElem?_getD, List.getElem?_eq_getElem hl]
    show _ = LL[K.length - (i + 1)].length + _
    simp
    omega
theorem take_use {K R : List S34} {LL : List (List S34)} (h : SmallU K LL R) {n : Nat} {L : List S34} (hL : BGood n L) (hn : n ≤ 800) (i : Nat) (hi : i < K.length) (m e : Nat) (hm : m ≤ 1000) (he : e ≤ 1000) :
    PC 21 [evU (useV m e L), evN K[i], evR (LL[i]'(by have := h.kl; omega))] (.tu [evU (useV (m + 1 : Nat) (e + (LL[i]'(by have := h.kl; omega)).length : Nat) (L ++ manL K LL i)), .s (.int .i64 0)]) := by
  have hl : i < LL.length := by have := h.kl; omega
  obtain ⟨g, eq, _⟩ := h.man i hi
  have l24 := h.l24 _ (List.getElem_mem hl)
  obtain ⟨q1, q2, q3⟩ := useV_of hL (by omega) m e
  have hc := changeU_add (m := m) (e := e) (dm := 1) (de := (LL[i].length : Nat)) (nn := 4) (hL.good (by omega)) (g.good (by decide)) ((hL.app g).good (by omega)) (by decide) (by omega) (by omega)
  rw [eq] at hc
  rw [eq]
  exact take_pc (useV m e L) K[i] LL[i] (fun x hx => (q3 x hx).tiny) (by omega) (fun x hx => (h.lb _ (List.getElem_mem hl) x hx).1.tiny) (h.kb _ (List.getElem_mem hi)).1.tiny _ 0 hc
theorem give_use {K R : List S34} {LL : List (List S34)} (h : SmallU K LL R) {n : Nat} {L L' : List S34} (hL : BGood n L) (hL' : BGood n L') (hn : n ≤ 800) (i : Nat) (hi : i < K.length) (m e : Nat) (hm : m ≤ 1000) (he : e ≤ 1000) (hc : ∀ x, cntN L x = cntN (manL K LL i) x + cntN L' x) :
    PC 27 [evU (useV (m + 1 : Nat) (e + (LL[i]'(by have := h.kl; omega)).length : Nat) L), evN K[i], evR (LL[i]'(by have := h.kl; omega))] (.tu [evU (useV m e L'), .s (.int .i64 0)]) := by
  have hl : i < LL.length := by have := h.kl; omega
  obtain ⟨g, eq, _⟩ := h.man i hi
  have l24 := h.l24 _ (List.getElem_mem hl)
  obtain ⟨q1, q2, q3⟩ := useV_of hL (by omega) (m + 1 : Nat) (e + LL[i].length : Nat)
  have hs := changeU_sub (m := (m + 1 : Nat)) (e := (e + LL[i].length : Nat)) (dm := -1) (de := -(LL[i].length : Nat)) (hL.good (by omega)) (g.good (by decide)) (hL'.good (by omega)) hc (by omega) (by omega)
  rw [eq, show ((m + 1 : Nat) : Int) + -1 = (m : Nat) by omega, show ((e + LL[i].length : Nat) : Int) + -(LL[i].length : Nat) = (e : Nat) by omega] at hs
  exact give_pc (useV (m + 1 : Nat) (e + LL[i].length : Nat) L) K[i] LL[i] (fun x hx => (q3 x hx).tiny) (by omega) (fun x hx => (h.lb _ (List.getElem_mem hl) x hx).1.tiny) (h.kb _ (List.getElem_mem hi)).1.tiny _ 0 hs
theorem root_use {x : S34} (hx : Brief x ∧ mayN x = true) {n : Nat} {L : List S34} (hL : BGood n L) (hn : n ≤ 800) (m e : Nat) (hm : m ≤ 1000) (he : e ≤ 1000) :
    PC 15 [evU (useV m e L), evN x, .s (.bool true)] (.tu [evU (useV m (e + 1 : Nat) (L ++ [x])), .s (.int .i64 0)]) := by
  have g : BGood 1 [x] := ⟨by simp, fun y hy => by rw [List.mem_singleton.1 hy]; exact hx⟩
  obtain ⟨q1, q2, q3⟩ := useV_of hL (by omega) m e
  have hc := changeU_add (m := m) (e := e) (dm := 0) (de := 1) (nn := 4) (hL.good (by omega)) (g.good (by decide)) ((hL.app g).good (by omega)) (by decide) (by omega) (by omega)
  rw [Int.add_zero] at hc
  exact root_pc (useV m e L) x true (fun x hx => (q3 x hx).tiny) (by omega) hx.1.tiny _ 0 hc
theorem unroot_use {x : S34} (hx : Brief x ∧ mayN x = true) {n : Nat} {L : List S34} (hL : BGood n (x :: L)) (hn : n ≤ 800) (m e : Nat) (hm : m ≤ 1000) (he : e ≤ 1000) :
    PC 15 [evU (useV m (e + 1 : Nat) (x :: L)), evN x, .s (.bool false)] (.tu [evU (useV m e L), .s (.int .i64 0)]) := by
  have g : BGood 1 [x] := ⟨by simp, fun y hy => by rw [List.mem_singleton.1 hy]; exact hx⟩
  have hL' : BGood n L := ⟨by have := hL.1; rw [List.length_cons] at this; omega, fun y hy => hL.2 y (.tail _ hy)⟩
  obtain ⟨q1, q2, q3⟩ := useV_of hL (by omega) m (e + 1 : Nat)
  have hs := changeU_sub (m := m) (e := (e + 1 : Nat)) (dm := 0) (de := -1) (hL.good (by omega)) (g.good (by decide)) (hL'.good (by omega)) (fun y => by rw [cntN_cons, cntN_cons]; simp [cntN]) (by omega) (by omega)
  rw [Int.add_zero, show ((e + 1 : Nat) : Int) + -1 = (e : Nat) by omega] at hs
  exact root_pc (useV m (e + 1 : Nat) (x :: L)) x false (fun x hx => (q3 x hx).tiny) (by omega) hx.1.tiny _ 0 hs
def rbackL (R : List S34) : Nat → List S34
  | 0 => []
  | j + 1 => rbackL R j ++ [R.getD (R.length - 1 - j) ⟨⟨#[]⟩, ⟨#[]⟩⟩]
theorem rbackL_cnt (R : List S34) (x : S34) : ∀ j, j ≤ R.length → cntN (rbackL R j) x = cntN (R.drop (R.length - j)) x ∧ (rbackL R j).length = j ∧ ∀ y ∈ rbackL R j, y ∈ R
  | 0, _ => by
    rw [Nat.sub_zero, List.drop_length]
    exact ⟨rfl, rfl, fun y h => by cases h⟩
  | j + 1, hj => by
    obtain ⟨h1, h2, h3⟩ := rbackL_cnt R x j (by omega)
    have hk : R.length - (j + 1) < R.length := by omega
    have e1 : R.length - (j + 1) + 1 = R.length - j := by omega
    have e2 : R.length - 1 - j = R.length - (j + 1) := by omega
    have eg : R.getD (R.length - 1 - j) ⟨⟨#[]⟩, ⟨#[]⟩⟩ = R[R.length - (j + 1)] := by rw [e2, List.getD_eq_getElem?_getD, List.getElem?_eq_getElem hk]; rfl
    refine ⟨?_, ?_, fun y hy => ?_⟩
    · rw [rbackL, cntN_append, h1, eg, List.drop_eq_getElem_cons hk, e1, cntN_cons, cntN_cons]
      simp [cntN]
      omega
    · rw [rbackL, List.length_append, h2]; rfl
    · rw [rbackL, List.mem_append] at hy
      rcases hy with hy | hy
      · exact h3 y hy
      · rw [List.mem_singleton, eg] at hy
        subst hy; exact List.getElem_mem hk
theorem rbackL_good {R : List S34} (hr : R.length ≤ 24) (h : ∀ x ∈ R, Brief x ∧ mayN x = true) (j : Nat) (hj : j ≤ R.length) : BGood 24 (rbackL R j) := by
  obtain ⟨_, h2, h3⟩ := rbackL_cnt R ⟨⟨#[]⟩, ⟨#[]⟩⟩ j hj
  exact ⟨by omega, fun x hx => h x (h3 x hx)⟩
theorem useV_ext {m m' e e' : Int} {L L' : List S34} {n : Nat} (hL : BGood n L) (hL' : BGood n L') (hn : n ≤ 900) (h1 : m = m') (h2 : e = e') (h : ∀ x, cntN L x = cntN L' x) : useV m e L = useV m' e' L' := by
  unfold useV
  rw [h1, h2, diffV_cnt (hL.good (by omega)) (hL'.good (by omega)) h]
theorem restL_good {K R : List S34} {LL : List (List S34)} (h : SmallU K LL R) (i : Nat) : BGood 200 (restL K LL i) := by
  have hf := flat_len LL h.l24
  have h6 := h.l6
  have hk := h.kl
  have h1 : ((LL.drop i).flatten).length ≤ LL.flatten.length := by
    have : LL = LL.take i ++ LL.drop i := (List.take_append_drop i LL).symm
    conv => rhs; rw [this]
    rw [List.flatten_append, List.length_append]
    omega
  refine ⟨by unfold restL; rw [List.length_append, List.length_drop]; omega, fun x hx => ?_⟩
  unfold restL at hx
  rw [List.mem_append, List.mem_flatten] at hx
  rcases hx with hx | ⟨l, hl, hx⟩
  · exact h.kb x (List.mem_of_mem_drop hx)
  · exact h.lb l (List.mem_of_mem_drop hl) x hx
set_option maxHeartbeats 1000000 in
theorem roomBack_pc (keys0 : List S34) (lists0 : List (List S34)) (root0 : List S34) :
    PC 9 [.sl 0 2 (keys0.map evN), .sl 0 1 (lists0.map evR), .sl 0 2 (root0.map evN)] (.s (.bool true)) := by
  have w1 := few5_pc keys0
  have w2 := lists14_pc lists0
  have w3 := few5_pc root0
  have lk := fewN_len keys0
  have lr := fewN_len root0
  have kb := fewN_brief keys0
  have rb := fewN_brief root0
  have l6 := listsV_len lists0
  have le := listsV_each lists0
  generalize fewN keys0 = K at *
  generalize fewN root0 = R at *
  generalize listsV lists0 = LL at *
  have lf := flat_len LL (fun x hx => (le x hx).1)
  have e1 : (saidL K LL R).length = K.length + (R.length + LL.flatten.length) := by unfold saidL; rw [List.append_nil, List.length_append, List.length_append]
  have st : ∀ x ∈ saidL K LL R, TinyN x := saidL_mem (p := fun x => TinyN x) (fun x hx => (kb x hx).tiny) (fun l hl x hx => ((le l hl).2 x hx).tiny) (fun x hx => (rb x hx).tiny)
  have hrof := rof_pc K LL R (by omega) (by omega) st
  by_cases hg : goodOf K LL R
  case neg =>
    have wR := hrof.2 hg
    refine pc_of tt_ok tt_follows Tryz.func9 rfl (by kernel_rfl) (by kernel_rfl) (Nat.le_of_ble_eq_true rfl) rfl ?_
    conv => whnf
    refine ⟨_, w1, ?_⟩
    conv => whnf
    refine ⟨_, w2, ?_⟩
    conv => whnf
    refine ⟨_, w3, ?_⟩
    conv => whnf
    refine ⟨_, wR, ?_⟩
    conv => whnf
    refine ⟨fun _ => ?_, (fun h => by cases h)⟩
    conv => whnf
    refine ⟨_, awake14_pc, ?_⟩
    (conv => whnf) <;> try rfl
  have hall := hg.2
  rw [saidL_all, Bool.and_eq_true, Bool.and_eq_true] at hall
  obtain ⟨a1, a2, a3⟩ := hall
  have hs : SmallU K LL R := ⟨hg.1, l6, fun l hl => (le l hl).1, lr, fun x hx => ⟨kb x hx, List.all_eq_true.1 a1 x hx⟩, fun l hl x hx => ⟨(le l hl).2 x hx, List.all_eq_true.1 (List.all_eq_true.1 a3 l hl) x hx⟩, fun x hx => ⟨rb x hx, List.all_eq_true.1 a2 x hx⟩⟩
  have wR := hrof.1 hg
  rw [of_same hs] at wR
  have hkl := hs.kl
  have hedn := edL_le hs.l24
  clear hrof a1 a2 a3 hg st e1
  refine pc_of tt_ok tt_follows Tryz.func9 rfl (by kernel_rfl) (by kernel_rfl) (Nat.le_of_ble_eq_true rfl) rfl ?_
  conv => whnf
  refine ⟨_, w1, ?_⟩
  conv => whnf
  refine ⟨_, w2, ?_⟩
  conv => whnf
  refine ⟨_, w3, ?_⟩
  conv => whnf
  refine ⟨_, wR, ?_⟩
  conv => whnf
  refine ⟨(fun h => by cases h), fun _ => ?_⟩
  conv => whnf
  refine ⟨fun h => absurd h (by rw [List.length_map, List.length_map, hkl]; simp), fun _ => ?_⟩
  conv => whnf
  refine ⟨Nat, fun i => i ≤ K.length, fun i => [(28, evU (useV (i : Nat) (edL LL i : Nat) (mixL K LL i))), (31, evU (useV (i : Nat) (edB K LL i : Nat) (backL K LL i))), (33, .s (.int .i64 i)), (0, .sl 0 2 (K.map evN)), (3, .sl 0 1 (LL.map evR)), (6, .sl 0 2 (R.map evN))], [21, 22, 27, 30], fun i => K.length - i, 0, Nat.zero_le _, ?_, fun i hi => ?_⟩
  · refine ⟨⟨⟨rfl, rfl, ⟨(congrArg (fun L : List S48 => L.map evE) (diffV_same (fun x => rfl) : diffV [] (mixL K LL 0) = [])).symm, Or.inr rfl, Or.inl rfl⟩, trivial⟩, ⟨trivial, trivial, trivial, trivial⟩, ⟨rfl, rfl, ⟨(congrArg (fun L : List S48 => L.map evE) (diffV_same (fun x => rfl) : diffV [] (backL K LL 0) = [])).symm, Or.inr rfl, Or.inl rfl⟩, trivial⟩, ⟨trivial, trivial, trivial, trivial⟩, rfl, trivial, ⟨rfl, Or.inl rfl, Or.inl rfl⟩, trivial, ⟨rfl, Or.inl rfl, Or.inl rfl⟩, trivial, ⟨rfl, Or.inl rfl, Or.inl rfl⟩, trivial, trivial⟩, ?_⟩
    repeat' (first | exact trivial | exact rfl | refine ⟨?_, ?_⟩)
  conv => whnf
  constructor
  · intro g
    have hil : i < K.length := ltm g
    have hl : i < LL.length := by omega
    have hk : K.length - 1 - i < K.length := by omega
    have hkl' : K.length - 1 - i < LL.length := by omega
    obtain ⟨bB, eB⟩ := hs.back i hi
    have wT := take_use hs (hs.mix i hi) (by decide) i hil i (edL LL i) (by omega) (by have := hedn i (by omega); omega)
    have wV := take_use hs (bB.mono (by omega : 25 * i ≤ 150)) (by decide) (K.length - 1 - i) hk i (edB K LL i) (by omega) (by omega)
    rw [← edL_succ hl] at wT
    rw [show edB K LL i + (LL[K.length - 1 - i]'hkl').length = edB K LL (i + 1) by rw [edB, List.getD_eq_getElem?_getD, List.getElem?_eq_getElem hkl']; rfl] at wV
    have hidx : IntKind.wrap .i64 (IntKind.wrap .i64 ((((K.map evN).length : Nat) : Int) - 1) - (i : Int)) = ((K.length - 1 - i : Nat) : Int) := by
      rw [List.length_map, wrapI (i := ((K.length : Nat) : Int) - 1) (by omega), wrapI (by omega)]; omega
    conv => whnf
    refine ⟨fun _ => ?_, fun h => absurd (of_decide_eq_false h) (by rw [List.length_map]; omega)⟩
    conv => whnf
    refine ⟨_, idx_map evN K i hil, ?_⟩
    conv => whnf
    refine ⟨_, idx_map evR LL i hl, ?_⟩
    conv => whnf
    refine ⟨_, wT, ?_⟩
    conv => whnf
    refine ⟨by kernel_rfl, ?_⟩
    conv => whnf
    refine ⟨_, idx_mapI evN K (K.length - 1 - i) hidx hk, ?_⟩
    conv => whnf
    refine ⟨_, idx_mapI evR LL (K.length - 1 - i) hidx hkl', ?_⟩
    conv => whnf
    refine ⟨_, wV, ?_⟩
    conv => whnf
    refine ⟨by kernel_rfl, ?_⟩
    conv => whnf
    refine ⟨(fun h => by cases h), fun _ => ?_⟩
    conv => whnf
    refine ⟨(fun h => by cases h), fun _ => ?_⟩
    conv => whnf
    refine ⟨by kernel_rfl, ?_⟩
    conv => whnf
    refine ⟨i + 1, hil, less1 hil, ⟨⟨⟨rfl, rfl, ⟨rfl, Or.inl rfl, Or.inl rfl⟩, trivial⟩, ⟨trivial, trivial, trivial, trivial⟩, ⟨rfl, rfl, ⟨rfl, Or.inl rfl, Or.inl rfl⟩, trivial⟩, ⟨trivial, trivial, trivial, trivial⟩, incI hil (by omega), trivial, ⟨rfl, Or.inl rfl, Or.inl rfl⟩, trivial, ⟨rfl, Or.inl rfl, Or.inl rfl⟩, trivial, ⟨rfl, Or.inl rfl, Or.inl rfl⟩, trivial, trivial⟩, ?_⟩⟩
    repeat' (first | exact trivial | exact rfl | refine ⟨?_, ?_⟩)
  intro g
  have hil : i = K.length := gem g hi
  subst hil
  have bM := hs.mix K.length (Nat.le_refl _)
  obtain ⟨bB, eB⟩ := hs.back K.length (Nat.le_refl _)
  have bB : BGood 150 (backL K LL K.length) := bB.mono (by omega)
  have eM := hedn K.length (by omega)
  conv => whnf
  refine ⟨Nat, fun j => j ≤ R.length, fun j => [(28, evU (useV (K.length : Nat) (edL LL K.length + j : Nat) (mixL K LL K.length ++ R.take j))), (31, evU (useV (K.length : Nat) (edB K LL K.length + j : Nat) (backL K LL K.length ++ rbackL R j))), (51, .s (.int .i64 j)), (0, .sl 0 2 (K.map evN)), (3, .sl 0 1 (LL.map evR)), (6, .sl 0 2 (R.map evN))], [21, 22, 27, 30], fun j => R.length - j, 0, Nat.zero_le _, ?_, fun j hj => ?_⟩
  · refine ⟨⟨⟨rfl, rfl, ⟨congrArg (fun L => (diffV [] L).map evE) (List.append_nil (mixL K LL K.length)).symm, Or.inl rfl, Or.inl rfl⟩, trivial⟩, ⟨trivial, trivial, trivial, trivial⟩, ⟨rfl, rfl, ⟨congrArg (fun L => (diffV [] L).map evE) (List.append_nil (backL K LL K.length)).symm, Or.inl rfl, Or.inl rfl⟩, trivial⟩, ⟨trivial, trivial, trivial, trivial⟩, rfl, trivial, ⟨rfl, Or.inl rfl, Or.inl rfl⟩, trivial, ⟨rfl, Or.inl rfl, Or.inl rfl⟩, trivial, ⟨rfl, Or.inl rfl, Or.inl rfl⟩, trivial, trivial⟩, ?_⟩
    repeat' (first | exact trivial | exact rfl | refine ⟨?_, ?_⟩)
  have bR : BGood 24 (R.take j) := ⟨by rw [List.length_take]; omega, fun x hx => hs.rb x (List.mem_of_mem_take hx)⟩
  have bRb := rbackL_good hs.r24 hs.rb j hj
  conv => whnf
  constructor
  · intro g
    have hjl : j < R.length := ltm g
    have hk : R.length - 1 - j < R.length := by omega
    have wT := root_use (hs.rb _ (List.getElem_mem hjl)) (bM.app bR) (by decide) K.length (edL LL K.length + j) (by omega) (by omega)
    have wV := root_use (hs.rb _ (List.getElem_mem hk)) (bB.app bRb) (by decide) K.length (edB K LL K.length + j) (by omega) (by omega)
    rw [List.append_assoc, ← List.take_succ_eq_append_getElem hjl] at wT
    rw [List.append_assoc, show rbackL R j ++ [R[R.length - 1 - j]] = rbackL R (j + 1) by rw [rbackL, List.getD_eq_getElem?_getD, List.getElem?_eq_getElem hk]; rfl] at wV
    have hidx : IntKind.wrap .i64 (IntKind.wrap .i64 ((((R.map evN).length : Nat) : Int) - 1) - (j : Int)) = ((R.length - 1 - j : Nat) : Int) := by
      rw [List.length_map, wrapI (i := ((R.length : Nat) : Int) - 1) (by omega), wrapI (by omega)]; omega
    conv => whnf
    refine ⟨_, idx_map evN R j hjl, ?_⟩
    conv => whnf
    refine ⟨_, wT, ?_⟩
    conv => whnf
    refine ⟨by kernel_rfl, ?_⟩
    conv => whnf
    refine ⟨_, idx_mapI evN R (R.length - 1 - j) hidx hk, ?_⟩
    conv => whnf
    refine ⟨_, wV, ?_⟩
    conv => whnf
    refine ⟨by kernel_rfl, ?_⟩
    conv => whnf
    refine ⟨(fun h => by cases h), fun _ => ?_⟩
    conv => whnf
    refine ⟨(fun h => by cases h), fun _ => ?_⟩
    conv => whnf
    refine ⟨by kernel_rfl, ?_⟩
    conv => whnf
    refine ⟨j + 1, hjl, less1 hjl, ⟨⟨⟨rfl, rfl, ⟨rfl, Or.inl rfl, Or.inl rfl⟩, trivial⟩, ⟨trivial, trivial, trivial, trivial⟩, ⟨rfl, rfl, ⟨rfl, Or.inl rfl, Or.inl rfl⟩, trivial⟩, ⟨trivial, trivial, trivial, trivial⟩, incI hjl (by omega), trivial, ⟨rfl, Or.inl rfl, Or.inl rfl⟩, trivial, ⟨rfl, Or.inl rfl, Or.inl rfl⟩, trivial, ⟨rfl, Or.inl rfl, Or.inl rfl⟩, trivial, trivial⟩, ?_⟩⟩
    repeat' (first | exact trivial | exact rfl | refine ⟨?_, ?_⟩)
  intro g
  have hjl : j = R.length := gem g hj
  subst hjl
  have hdr : LL.take K.length = LL := List.take_of_length_le (by omega)
  have hfl : edL LL K.length = LL.flatten.length := by unfold edL; rw [hdr]
  have hUl : (useV (K.length : Nat) (edL LL K.length + R.length : Nat) (mixL K LL K.length ++ R.take R.length)).s.length ≤ 900 := (useV_of (bM.app bR) (by decide) _ _).2.1
  have hUb : ∀ x ∈ (useV (K.length : Nat) (edL LL K.length + R.length : Nat) (mixL K LL K.length ++ R.take R.length)).s, Brief x.f0 := (useV_of (bM.app bR) (by decide) _ _).2.2
  have hcM : ∀ x, cntN (mixL K LL K.length) x = cntN (restL K LL 0) x := fun x => by
    rw [mixL_cnt K LL x K.length (Nat.le_refl _) (by omega), hdr, List.take_length]
    unfold restL
    rw [List.drop_zero, List.drop_zero, cntN_append]
  have hV : useV (K.length : Nat) (edL LL K.length + R.length : Nat) (mixL K LL K.length ++ R.take R.length) = useV (K.length : Nat) (edB K LL K.length + R.length : Nat) (backL K LL K.length ++ rbackL R R.length) := by
    refine useV_ext (bM.app bR) ((bB.app bRb).mono (by omega)) (by decide) rfl ?_ (fun x => ?_)
    · rw [(cnt_back hs ⟨⟨#[]⟩, ⟨#[]⟩⟩ K.length (Nat.le_refl _)).2, Nat.sub_self, List.drop_zero, hfl]
    · rw [cntN_append, cntN_append, (cnt_back hs x K.length (Nat.le_refl _)).1, (rbackL_cnt R x R.length (Nat.le_refl _)).1, Nat.sub_self, Nat.sub_self, List.drop_zero, List.take_length, hcM]
  have hA : useV (K.length : Nat) (edL LL K.length + R.length : Nat) (mixL K LL K.length ++ R.take R.length) = useV (K.length : Nat) (edL LL K.length + R.length) (mixL K LL K.length ++ R) := by rw [List.take_length, Int.natCast_add]
  have wS1 : PC 28 [evU (useV (K.length : Nat) (edL LL K.length + R.length : Nat) (mixL K LL K.length ++ R.take R.length)), evU (useV (K.length : Nat) (edB K LL K.length + R.length : Nat) (backL K LL K.length ++ rbackL R R.length))] (.s (.bool true)) := by
    have := same14_pc (useV (K.length : Nat) (edL LL K.length + R.length : Nat) (mixL K LL K.length ++ R.take R.length)) (useV (K.length : Nat) (edB K LL K.length + R.length : Nat) (backL K LL K.length ++ rbackL R R.length)) (Nat.le_trans hUl (by decide))
    rwa [eqU_iff.2 hV] at this
  have wS2 : PC 28 [evU (useV (K.length : Nat) (edL LL K.length + R.length : Nat) (mixL K LL K.length ++ R.take R.length)), evU (useV K.length (edL LL K.length + R.length) (mixL K LL K.length ++ R))] (.s (.bool true)) := by
    have := same14_pc (useV (K.length : Nat) (edL LL K.length + R.length : Nat) (mixL K LL K.length ++ R.take R.length)) (useV K.length (edL LL K.length + R.length) (mixL K LL K.length ++ R)) (Nat.le_trans hUl (by decide))
    rwa [eqU_iff.2 hA] at this
  have wC := rcheck_pc _ (Nat.le_trans hUl (by decide)) (fun x hx => (hUb x hx).tiny)
  rw [okU_useV ((bM.app bR).good (by decide)) (by omega)] at wC
  have wN : PC 28 [evU noneU, evU noneU] (.s (.bool true)) := by
    have := same14_pc noneU noneU (by decide)
    rwa [eqU_iff.2 rfl] at this
  have bR0 : BGood 24 R := ⟨hs.r24, hs.rb⟩
  have hb0 := restL_good hs 0
  have hinit : useV (K.length : Nat) (edL LL K.length + R.length : Nat) (mixL K LL K.length ++ R.take R.length) = useV (K.length - 0 : Nat) (edL LL K.length + R.length - edL LL 0 : Nat) (restL K LL 0 ++ R) := by
    refine useV_ext ((bM.app bR).mono (by decide : 150 + 24 ≤ 224)) (hb0.app bR0) (by decide) rfl rfl (fun x => ?_)
    rw [cntN_append, cntN_append, hcM, List.take_length]
  conv => whnf
  refine ⟨_, wS1, ?_⟩
  conv => whnf
  refine ⟨(fun h => by cases h), fun _ => ?_⟩
  conv => whnf
  refine ⟨_, wS2, ?_⟩
  conv => whnf
  refine ⟨(fun h => by cases h), fun _ => ?_⟩
  conv => whnf
  refine ⟨_, wC, ?_⟩
  conv => whnf
  refine ⟨(fun h => by cases h), fun _ => ?_⟩
  conv => whnf
  refine ⟨Nat, fun i => i ≤ K.length, fun i => [(28, evU (useV (K.length - i : Nat) (edL LL K.length + R.length - edL LL i : Nat) (restL K LL i ++ R))), (66, .s (.int .i64 i)), (0, .sl 0 2 (K.map evN)), (3, .sl 0 1 (LL.map evR)), (6, .sl 0 2 (R.map evN))], [27], fun i => K.length - i, 0, Nat.zero_le _, ?_, fun i hi => ?_⟩
  · refine ⟨⟨⟨rfl, rfl, ⟨congrArg (fun u : UV => u.s.map evE) hinit, Or.inl rfl, Or.inl rfl⟩, trivial⟩, ⟨trivial, trivial, trivial, trivial⟩, rfl, trivial, ⟨rfl, Or.inl rfl, Or.inl rfl⟩, trivial, ⟨rfl, Or.inl rfl, Or.inl rfl⟩, trivial, ⟨rfl, Or.inl rfl, Or.inl rfl⟩, trivial, trivial⟩, ?_⟩
    repeat' (first | exact trivial | exact rfl | refine ⟨?_, ?_⟩)
  conv => whnf
  constructor
  · intro g
    have hil : i < K.length := ltm g
    have hl : i < LL.length := by omega
    have hed := edL_succ hl
    have hmono : edL LL (i + 1) ≤ edL LL K.length := by
      rw [hfl]
      unfold edL
      have : LL = LL.take (i + 1) ++ LL.drop (i + 1) := (List.take_append_drop _ LL).symm
      conv => rhs; rw [this]
      rw [List.flatten_append, List.length_append]
      omega
    have wG := give_use hs ((restL_good hs i).app bR0) ((restL_good hs (i + 1)).app bR0) (by decide) i hil (K.length - (i + 1)) (edL LL K.length + R.length - edL LL (i + 1)) (by omega) (by omega) (fun x => by rw [cntN_append, cntN_append, cnt_man_drop hs i hil x]; omega)
    rw [show K.length - (i + 1) + 1 = K.length - i by omega, show edL LL K.length + R.length - edL LL (i + 1) + LL[i].length = edL LL K.length + R.length - edL LL i by omega] at wG
    conv => whnf
    refine ⟨fun _ => ?_, fun h => absurd (of_decide_eq_false h) (by rw [List.length_map]; omega)⟩
    conv => whnf
    refine ⟨_, idx_map evN K i hil, ?_⟩
    conv => whnf
    refine ⟨_, idx_map evR LL i hl, ?_⟩
    conv => whnf
    refine ⟨_, wG, ?_⟩
    conv => whnf
    refine ⟨by kernel_rfl, ?_⟩
    conv => whnf
    refine ⟨(fun h => by cases h), fun _ => ?_⟩
    conv => whnf
    refine ⟨i + 1, hil, less1 hil, ⟨⟨⟨rfl, rfl, ⟨rfl, Or.inl rfl, Or.inl rfl⟩, trivial⟩, ⟨trivial, trivial, trivial, trivial⟩, incI hil (by omega), trivial, ⟨rfl, Or.inl rfl, Or.inl rfl⟩, trivial, ⟨rfl, Or.inl rfl, Or.inl rfl⟩, trivial, ⟨rfl, Or.inl rfl, Or.inl rfl⟩, trivial, trivial⟩, ?_⟩⟩
    repeat' (first | exact trivial | exact rfl | refine ⟨?_, ?_⟩)
  intro g
  have hil : i = K.length := gem g hi
  subst hil
  have hr0 : restL K LL K.length ++ R = R := by
    unfold restL
    rw [List.drop_length, hkl, List.drop_length]; rfl
  conv => whnf
  refine ⟨Nat, fun j => j ≤ R.length, fun j => [(28, evU (useV (0 : Nat) (R.length - j : Nat) (R.drop j))), (75, .s (.int .i64 j)), (6, .sl 0 2 (R.map evN))], [27], fun j => R.length - j, 0, Nat.zero_le _, ?_, fun j hj => ?_⟩
  · refine ⟨⟨⟨nb_int (by show ((K.length - K.length : Nat) : Int) = (0 : Int); omega), nb_int (by show ((edL LL K.length + R.length - edL LL K.length : Nat) : Int) = ((R.length - 0 : Nat) : Int); omega), ⟨congrArg (fun L => (diffV [] L).map evE) hr0, Or.inl rfl, Or.inl rfl⟩, trivial⟩, ⟨trivial, trivial, trivial, trivial⟩, rfl, trivial, ⟨rfl, Or.inl rfl, Or.inl rfl⟩, trivial, trivial⟩, ?_⟩
    repeat' (first | exact trivial | exact rfl | refine ⟨?_, ?_⟩)
  conv => whnf
  constructor
  · intro g
    have hjl : j < R.length := ltm g
    have hdj := List.drop_eq_getElem_cons hjl
    have bD : BGood 24 (R[j] :: R.drop (j + 1)) := by rw [← hdj]; exact ⟨by rw [List.length_drop]; omega, fun x hx => hs.rb x (List.mem_of_mem_drop hx)⟩
    have wU := unroot_use (hs.rb _ (List.getElem_mem hjl)) bD (by decide) 0 (R.length - (j + 1)) (by omega) (by omega)
    rw [← hdj, show R.length - (j + 1) + 1 = R.length - j by omega] at wU
    conv => whnf
    refine ⟨_, idx_map evN R j hjl, ?_⟩
    conv => whnf
    refine ⟨_, wU, ?_⟩
    conv => whnf
    refine ⟨by kernel_rfl, ?_⟩
    conv => whnf
    refine ⟨(fun h => by cases h), fun _ => ?_⟩
    conv => whnf
    refine ⟨j + 1, hjl, less1 hjl, ⟨⟨⟨rfl, rfl, ⟨rfl, Or.inl rfl, Or.inl rfl⟩, trivial⟩, ⟨trivial, trivial, trivial, trivial⟩, incI hjl (by omega), trivial, ⟨rfl, Or.inl rfl, Or.inl rfl⟩, trivial, trivial⟩, ?_⟩⟩
    repeat' (first | exact trivial | exact rfl | refine ⟨?_, ?_⟩)
  intro g
  have hjl : j = R.length := gem g hj
  subst hjl
  conv => whnf
  refine ⟨_, pc_le wN ⟨⟨rfl, nb_int (by show ((R.length - R.length : Nat) : Int) = 0; omega), ⟨by rw [show (useV (0 : Nat) (R.length - R.length : Nat) (R.drop R.length)).s = [] by rw [List.drop_length]; exact diffV_same (fun x => rfl)]; rfl, Or.inl rfl, Or.inl rfl⟩, trivial⟩, ⟨rfl, rfl, ⟨rfl, Or.inr rfl, Or.inl rfl⟩, trivial⟩, trivial⟩, ?_⟩
  conv => whnf
  refine ⟨fun _ => ?_, (fun h => by cases h)⟩
  conv => whnf
  refine ⟨_, awake14_pc, ?_⟩
  (conv => whnf) <;> try rfl
end Go.Proofs.YtohdmmafjpjmfaaGreatDoor.Q
end
