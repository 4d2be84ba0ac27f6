/- Part 11 of this claim: several texts one behind the other: RWith5, RBy18, ROf18, PureKTells. What each shows stands in its theorems; conditions: sizes of texts and lists, as the functions' definitions say. -/
import Derived.Test.YtffcbfclpfchnaaGreatDoorMLackTells9
import Derived.Test.YtffcbfclpfchnaaGreatDoorMLackTells5
import Derived.Test.YtffcbfclpfchnaaGreatDoorMLackTells7
import Derived.Test.YtffcbfclpfchnaaGreatDoorMLackTells10
section
namespace Go.Proofs.YtffcbfclpfchnaaGreatDoor.Q
open Go.Proofs.YtffcbfclpfchnaaGreatDoor.QB.D
open Go Go.RowKit Go.Lib Go.Proofs.YtffcbfclpfchnaaGreatDoorW.PrintWords Go.Proofs.YtffcbfclpfchnaaGreatDoorW.PrintLast Go.Proofs.YtffcbfclpfchnaaGreatDoorW.PrintMore Gw
set_option linter.unusedVariables false
set_option linter.unusedSimpArgs false
theorem rwith_l1 (l : List S42) (t : S42) (hl : l.length ≤ 2147483648) (hb : ∀ x ∈ l, Brief x) (hg : ∀ x ∈ l, GoodN x) (bt : Brief t) (gt : GoodN t) : ∀ (n i k : Nat) (acc : List S42), l.length ≤ i + n → i ≤ l.length → n + 1000 ≤ k → acc.length ≤ 4294967296 + i →
    graftwoodref05_With.l1 k l acc (i : Int) t.f0 t.f1 = some (acc ++ (l.drop i).filter (fun x => decide (ordN t x < 0))) := by
  intro n
  induction n with
  | zero =>
    intro i k acc h1 h2 hk ha
    obtain ⟨j, rfl⟩ : ∃ j, k = j + 1 := ⟨k - 1, by omega⟩
    simp only [graftwoodref05_With.l1]
    rw [if_neg (by omega), List.drop_of_length_le (by omega)]
    simp
  | succ n ih =>
    intro i k acc h1 h2 hk ha
    obtain ⟨j, rfl⟩ : ∃ j, k = j + 1 := ⟨k - 1, by omega⟩
    by_cases hi : i < l.length
    · have hm := List.getElem_mem hi
      have hwr : wrap64 ((i : Int) + 1) = ((i + 1 : Nat) : Int) := by unfold wrap64; omega
      simp only [graftwoodref05_With.l1]
      rw [if_pos (by omega), if_pos (by omega), rd_nat hi, less_val j t l[i] bt (hb _ hm) gt (hg _ hm) (by omega), List.drop_eq_getElem_cons hi, hwr]
      simp only [Option.bind_some]
      by_cases ho : ordN t l[i] < 0
      · rw [decide_eq_true ho, if_pos rfl, if_pos (by omega), List.filter_cons_of_pos (by simp [ho]), ih (i + 1) j _ (by omega) (by omega) (by omega) (by simp; omega)]
        simp
      · rw [decide_eq_false ho, if_neg (by decide), List.filter_cons_of_neg (by simp [ho]), ih (i + 1) j _ (by omega) (by omega) (by omega) (by omega)]
    · exact ih i (j + 1) acc (by omega) h2 (by omega) ha
theorem rwith_l0 (l : List S42) (t : S42) (hl : l.length ≤ 2147483648) (hb : ∀ x ∈ l, Brief x) (hg : ∀ x ∈ l, GoodN x) (bt : Brief t) (gt : GoodN t) : ∀ (n i k : Nat) (acc : List S42), l.length ≤ i + n → i ≤ l.length → n + l.length + 1001 ≤ k → acc.length ≤ i →
    graftwoodref05_With.l0 k l acc (i : Int) t.f0 t.f1 = some (acc ++ (l.drop i).filter (fun x => decide (ordN x t < 0)) ++ [t] ++ l.filter (fun x => decide (ordN t x < 0))) := by
  intro n
  induction n with
  | zero =>
    intro i k acc h1 h2 hk ha
    obtain ⟨j, rfl⟩ : ∃ j, k = j + 1 := ⟨k - 1, by omega⟩
    have h9 := rwith_l1 l t hl hb hg bt gt l.length 0 j (acc ++ [t]) (by omega) (Nat.zero_le _) (by omega) (by simp; omega)
    simp only [graftwoodref05_With.l0]
    rw [if_neg (by omega), if_pos (by omega), List.drop_of_length_le (by omega)]
    refine h9.trans ?_
    simp
  | succ n ih =>
    intro i k acc h1 h2 hk ha
    obtain ⟨j, rfl⟩ : ∃ j, k = j + 1 := ⟨k - 1, by omega⟩
    by_cases hi : i < l.length
    · have hm := List.getElem_mem hi
      have hwr : wrap64 ((i : Int) + 1) = ((i + 1 : Nat) : Int) := by unfold wrap64; omega
      simp only [graftwoodref05_With.l0]
      rw [if_pos (by omega), if_pos (by omega), rd_nat hi, less_val j l[i] t (hb _ hm) bt (hg _ hm) gt (by omega), List.drop_eq_getElem_cons hi, hwr]
      simp only [Option.bind_some]
      by_cases ho : ordN l[i] t < 0
      · rw [decide_eq_true ho, if_pos rfl, if_pos (by omega), List.filter_cons_of_pos (by simp [ho]), ih (i + 1) j _ (by omega) (by omega) (by omega) (by simp; omega)]
        simp
      · rw [decide_eq_false ho, if_neg (by decide), List.filter_cons_of_neg (by simp [ho]), ih (i + 1) j _ (by omega) (by omega) (by omega) (by omega)]
    · exact ih i (j + 1) acc (by omega) h2 (by omega) ha
theorem rwith_val (l : List S42) (t : S42) (hl : l.length ≤ 2147483648) (hb : ∀ x ∈ l, Brief x) (hg : ∀ x ∈ l, GoodN x) (bt : Brief t) (gt : GoodN t) (k : Nat) (hk : 2 * l.length + 1001 ≤ k) :
    graftwoodref05_With.f k l t.f0 t.f1 = some (rwithN l t) := by
  have h := rwith_l0 l t hl hb hg bt gt l.length 0 k [] (by omega) (Nat.zero_le _) (by omega) (Nat.le_refl _)
  rw [List.drop_zero] at h
  exact h
theorem filter_two {α : Type} (p q : α → Bool) : ∀ (l : List α), (∀ x ∈ l, ¬ (p x = true ∧ q x = true)) → (l.filter p).length + (l.filter q).length ≤ l.length
  | [], _ => by simp
  | x :: r, h => by
    have ih := filter_two p q r (fun y hy => h y (List.mem_cons_of_mem _ hy))
    have hx := h x List.mem_cons_self
    simp only [List.filter_cons, List.length_cons]
    cases hp : p x <;> cases hq : q x <;> simp_all <;> omega
theorem rwithN_len {l : List S42} {t : S42} (hg : ∀ x ∈ l, GoodN x) (gt : GoodN t) : (rwithN l t).length ≤ l.length + 1 := by
  have h := filter_two (fun x => decide (ordN x t < 0)) (fun x => decide (ordN t x < 0)) l (fun x hx h => by
    have h1 : ordN x t < 0 := of_decide_eq_true h.1
    have h2 : ordN t x < 0 := of_decide_eq_true h.2
    have := ordN_to.sym x t (hg x hx) gt
    omega)
  unfold rwithN
  simp only [List.length_append, List.length_cons, List.length_nil]
  omega
theorem setN_len (m : List S42) : (setN m).length ≤ m.length := by
  unfold setN
  rw [(sortN_perm _).length_eq]
  have h1 := ded_len m m.length (Nat.le_refl _)
  rwa [List.take_length] at h1
theorem rsetN_snoc (m : List S42) (x : S42) : rsetN (m ++ [x]) = rwithN (rsetN m) x := by
  unfold rsetN
  rw [List.foldl_append]
  rfl
theorem rby_l0 (l : List S51) (hl : l.length ≤ 65536) (hb : ∀ e ∈ l, Brief e.f0 ∧ Brief e.f1) (hok : okE l = true) (n : S42) : ∀ (r i k : Nat), i + r = l.length → r + 2 * l.length + 1010 ≤ k →
    graftwoodref18_By.l0 k l (rsetN (needF (l.take i) n)) (rootF (l.take i) n) (i : Int) n.f0 n.f1 = some (byF l n, rootF l n) := by
  have hmem : ∀ (i : Nat) (x : S42), x ∈ needF (l.take i) n → Brief x ∧ mayN x = true := fun i x hx => by
    have h := mem_need.1 hx
    have h2 := List.mem_of_mem_take h.2
    exact ⟨(hb _ h2).1, ((okBy_each hok h2).2).resolve_left h.1⟩
  have hset : ∀ i, rsetN (needF (l.take i) n) = setN (needF (l.take i) n) := fun i => (setN_ref (fun x hx => (hmem i x hx).1.tiny) (fun x hx => (hmem i x hx).2)).symm
  intro r
  induction r with
  | zero =>
    intro i k hi hk
    obtain ⟨j, rfl⟩ : ∃ j, k = j + 1 := ⟨k - 1, by omega⟩
    simp only [graftwoodref18_By.l0]
    rw [if_neg (by omega), hset i, List.take_of_length_le (by omega)]
    rfl
  | succ r ih =>
    intro i k hi hk
    obtain ⟨j, rfl⟩ : ∃ j, k = j + 1 := ⟨k - 1, by omega⟩
    have hil : i < l.length := by omega
    have hwr : wrap64 ((i : Int) + 1) = ((i + 1 : Nat) : Int) := by unfold wrap64; omega
    have hneq : (!(l[i].f1.f0.toList == n.f0.toList) || !(l[i].f1.f1.toList == n.f1.toList)) = !decide (l[i].f1 = n) := by rw [← node_eqb, Bool.not_and]
    have h1 : needF (l.take (i + 1)) n = if (decide (l[i].f1 = n) && !decide (l[i].f0 = z42)) = true then needF (l.take i) n ++ [l[i].f0] else needF (l.take i) n := by
      unfold needF
      rw [List.take_succ_eq_append_getElem hil, List.filter_append, List.map_append]
      split
      · rename_i e; rw [List.filter_cons_of_pos (by exact e)]; rfl
      · rename_i e; rw [List.filter_cons_of_neg (by exact e)]; simp
    have h2 : rootF (l.take (i + 1)) n = (rootF (l.take i) n || (decide (l[i].f1 = n) && decide (l[i].f0 = z42))) := by
      unfold rootF
      rw [List.take_succ_eq_append_getElem hil, List.any_append]
      simp
    have h9 := ih (i + 1) j (by omega) (by omega)
    rw [h1, h2] at h9
    simp only [graftwoodref18_By.l0]
    rw [if_pos (by omega), if_pos (by omega), rd_needs hil, hneq, node_eqr, hwr]
    by_cases e1 : l[i].f1 = n
    · rw [decide_eq_true e1] at h9 ⊢
      rw [if_neg (by decide)]
      by_cases e0 : l[i].f0 = z42
      · rw [decide_eq_true e0] at h9 ⊢
        rw [if_pos rfl]
        simpa using h9
      · have hx : l[i].f0 ∈ needF (l.take (i + 1)) n := by
          rw [h1, decide_eq_true e1, decide_eq_false e0, if_pos (by rfl)]
          exact List.mem_append_right _ List.mem_cons_self
        have hxb := hmem (i + 1) _ hx
        have hsl : (rsetN (needF (l.take i) n)).length ≤ l.length := by
          rw [hset i]
          refine Nat.le_trans (setN_len _) (Nat.le_trans (need_len _ _) ?_)
          rw [List.length_take]; omega
        have hsm : ∀ x ∈ rsetN (needF (l.take i) n), Brief x ∧ mayN x = true := fun x hx => by
          rw [hset i] at hx
          exact hmem i x ((mem_setN _ x).1 hx)
        rw [decide_eq_false e0] at h9 ⊢
        rw [if_neg (by decide), rwith_val _ l[i].f0 (by omega) (fun x hx => (hsm x hx).1) (fun x hx => mayN_good (hsm x hx).1.tiny (hsm x hx).2) hxb.1 (mayN_good hxb.1.tiny hxb.2) j (by omega)]
        simp only [Option.bind_some]
        rw [if_pos (by rfl), rsetN_snoc] at h9
        simpa using h9
    · rw [decide_eq_false e1] at h9 ⊢
      rw [if_pos (by rfl)]
      simpa using h9
theorem rby_val (l : List S51) (hl : l.length ≤ 65536) (hb : ∀ e ∈ l, Brief e.f0 ∧ Brief e.f1) (hok : okE l = true) (n : S42) (k : Nat) (hk : 3 * l.length + 1010 ≤ k) : graftwoodref18_By.f k l n.f0 n.f1 = some (byF l n, rootF l n) :=
  rby_l0 l hl hb hok n l.length 0 k (by omega) (by omega)
theorem rof_l1 (a b : List S42) (l : List S51) (ha : a.length ≤ 24) (acc : List S55) (hacc : acc.length ≤ 24) (i : Nat) (n : S42) (by_ : List S42) (hby : by_.length ≤ 30) (rt : Bool) : ∀ (r j k : Nat), j + r = by_.length →
    graftwoodref18_Of.l1 (k + 30 + r + 1) a b l acc (i : Int) by_ (j : Int) n.f0 n.f1 ((by_.take j).filter (fun x => decide (x ∈ a))) rt = graftwoodref18_Of.l0 (k + 30) a b l (acc ++ [⟨n, by_.filter (fun x => decide (x ∈ a)), rt⟩]) (wrap64 ((i : Int) + 1)) := by
  intro r
  induction r with
  | zero =>
    intro j k hj
    conv => lhs; unfold graftwoodref18_Of.l1
    rw [if_neg (by omega), if_pos (by omega), List.take_of_length_le (by omega)]
  | succ r ih =>
    intro j k hj
    have hjl : j < by_.length := by omega
    have hwr : wrap64 ((j : Int) + 1) = ((j + 1 : Nat) : Int) := by unfold wrap64; omega
    have hlen : ((by_.take j).filter (fun x => decide (x ∈ a))).length ≤ 30 := Nat.le_trans (List.length_filter_le _ _) (by rw [List.length_take]; omega)
    have h9 := ih (j + 1) k (by omega)
    rw [List.take_succ_eq_append_getElem hjl, List.filter_append] at h9
    rw [show k + 30 + (r + 1) + 1 = (k + 30 + r + 1) + 1 by omega]
    conv => lhs; unfold graftwoodref18_Of.l1
    rw [if_pos (by omega), if_pos (by omega), rd_nat hjl, has_val a by_[j] (by omega) _ (by omega), hwr]
    simp only [Option.bind_some]
    by_cases e : by_[j] ∈ a
    · rw [decide_eq_true e, if_pos rfl, if_pos (by omega)]
      rw [List.filter_cons_of_pos (by simpa using e), List.filter_nil] at h9
      exact h9
    · rw [decide_eq_false e, if_neg (by decide)]
      rw [List.filter_cons_of_neg (by simpa using e), List.filter_nil, List.append_nil] at h9
      exact h9
theorem rof_l0 (a b : List S42) (l : List S51) (ha : a.length ≤ 24) (hb : b.length ≤ 24) (hl : l.length ≤ 30) (fl : ∀ e ∈ l, Brief e.f0 ∧ Brief e.f1) (hok : okE l = true) : ∀ (r i k : Nat), i + r = a.length → r * 40 + 2000 ≤ k →
    graftwoodref18_Of.l0 k a b l ((goneF (a.take i) b).map (lackOf a l)) (i : Int) = some (ofF a b l) := by
  intro r
  induction r with
  | zero =>
    intro i k hi hk
    obtain ⟨j, rfl⟩ : ∃ j, k = j + 1 := ⟨k - 1, by omega⟩
    simp only [graftwoodref18_Of.l0]
    rw [if_neg (by omega), List.take_of_length_le (by omega)]
    rfl
  | succ r ih =>
    intro i k hi hk
    have hil : i < a.length := by omega
    have hwr : wrap64 ((i : Int) + 1) = ((i + 1 : Nat) : Int) := by unfold wrap64; omega
    have hg : goneF (a.take (i + 1)) b = if a[i] ∈ b then goneF (a.take i) b else goneF (a.take i) b ++ [a[i]] := by
      unfold goneF
      rw [List.take_succ_eq_append_getElem hil, List.filter_append]
      split
      · rename_i e; rw [List.filter_cons_of_neg (by simpa using e)]; simp
      · rename_i e; rw [List.filter_cons_of_pos (by simpa using e)]; rfl
    by_cases e : a[i] ∈ b
    · obtain ⟨j, rfl⟩ : ∃ j, k = j + 1 := ⟨k - 1, by omega⟩
      have h9 := ih (i + 1) j (by omega) (by omega)
      rw [hg, if_pos e] at h9
      simp only [graftwoodref18_Of.l0]
      rw [if_pos (by omega), if_pos (by omega), rd_nat hil, has_val b a[i] (by omega) j (by omega), decide_eq_true e]
      simp only [Option.bind_some]
      rw [if_pos trivial, hwr]
      exact h9
    · have hbl : (byF l a[i]).length ≤ 30 := Nat.le_trans (by_len l a[i]) hl
      obtain ⟨j, rfl⟩ : ∃ j, k = (j + 30 + (byF l a[i]).length + 1) + 1 := ⟨k - 32 - (byF l a[i]).length, by omega⟩
      have h9 := ih (i + 1) (j + 30) (by omega) (by omega)
      rw [hg, if_neg e, List.map_append] at h9
      have hgl : ((goneF (a.take i) b).map (lackOf a l)).length ≤ 24 := by
        rw [List.length_map]
        refine Nat.le_trans (goneF_len _ _) ?_
        rw [List.length_take]; omega
      have hin := rof_l1 a b l ha _ hgl i a[i] (byF l a[i]) hbl (rootF l a[i]) (byF l a[i]).length 0 j (by omega)
      conv => lhs; unfold graftwoodref18_Of.l0
      rw [if_pos (by omega), if_pos (by omega), rd_nat hil, has_val b a[i] (by omega) _ (by omega), decide_eq_false e]
      simp only [Option.bind_some]
      rw [if_neg (by decide), rby_val l (by omega) fl hok a[i] _ (by omega)]
      simp only [Option.bind_some]
      refine Eq.trans hin ?_
      rw [hwr]
      have hlk : lackOf a l a[i] = ⟨a[i], (byF l a[i]).filter (fun x => decide (x ∈ a)), rootF l a[i]⟩ := by
        unfold lackOf
        simp only [Bool.not_not]
      rw [← hlk]
      exact h9
theorem rof_val (a b : List S42) (l : List S51) (ha : a.length ≤ 24) (hb : b.length ≤ 24) (hl : l.length ≤ 30) (fl : ∀ e ∈ l, Brief e.f0 ∧ Brief e.f1) (hok : okE l = true) (k : Nat) (hk : 3000 ≤ k) : graftwoodref18_Of.f k a b l = some (ofF a b l) :=
  rof_l0 a b l ha hb hl fl hok a.length 0 k (by omega) (by omega)
theorem lackTells_true (live keys : List S42) (l : List S51) : graftwoodlaw18_LackTells.f 150002 live keys l = some true := by
  unfold graftwoodlaw18_LackTells.f
  rw [fewN_val live _ (by omega), fewN_val keys _ (by omega), fewE_val l _ (by omega)]
  simp only [Option.bind_some]
  have ha := fewN_len live
  have hb := fewN_len keys
  have hl := fewE_len l
  have fa := fewN_brief live
  have fb := fewN_brief keys
  have fl := fewE_brief l
  generalize fewN live = a at *
  generalize fewN keys = b at *
  generalize fewE l = m at *
  have hK : lack_Check.f m = some (kI (okE m)) := if_pos ⟨by omega, fun x hx => ⟨(fl x hx).1.tiny, (fl x hx).2.tiny⟩⟩
  rw [missing_val a b (by omega) (by omega) fa fb, lackOf_val a b m (by omega) (by omega) (by omega) fa fb fl, hK, ref18May_val m (by omega) fl _ (by omega), rcheck_val a (by omega) fa _ (by omega), rcheck_val b (by omega) fb _ (by omega)]
  simp only [Option.bind_some]
  have hk : ((kI (okE m) == 0) != okE m) = false := by cases okE m <;> rfl
  rw [hk, if_neg (by decide)]
  have e : (150002 : Nat) = 150000 + 1 + 1 := rfl
  have hbad : ∀ (c : Bool), (c = true → ¬ (checkN a = true ∧ checkN b = true)) → c = true → graftwoodlaw18_LackTells.j0 150002 a b m (if checkN a = true ∧ checkN b = true then (goneF a b, (0 : Int)) else ([], 1)).1 (if checkN a = true ∧ checkN b = true then (goneF a b, (0 : Int)) else ([], 1)).2 (if checkN a = true ∧ checkN b = true ∧ okE m = true then (ofF a b m, (0 : Int)) else ([], 1)).1 (if checkN a = true ∧ checkN b = true ∧ okE m = true then (ofF a b m, (0 : Int)) else ([], 1)).2 c = some true := fun c h hc => by
    have h1 := h hc
    subst hc
    rw [if_neg h1, if_neg (fun h => h1 ⟨h.1, h.2.1⟩), e]
    simp only [graftwoodlaw18_LackTells.j0]
    rw [if_pos trivial, if_pos (by rfl), if_pos trivial, if_pos (by rfl), if_pos trivial, awake18_val]
    rfl
  cases ca : checkN a with
  | false =>
    rw [if_neg (by decide)]
    have h := hbad true (fun _ h => by rw [ca] at h; cases h.1) rfl
    rw [ca] at h
    exact h
  | true =>
    rw [if_pos rfl]
    cases cb : checkN b with
    | false =>
      have h := hbad true (fun _ h => by rw [cb] at h; cases h.2) rfl
      rw [ca, cb] at h
      exact h
    | true =>
      rw [if_pos ⟨rfl, rfl⟩, e]
      have hgl := goneF_len a b
      have hs := same_val (goneF a b) (goneF a b) (by omega) (150000 + 1) (by omega)
      rw [decide_eq_true rfl] at hs
      simp only [graftwoodlaw18_LackTells.j0, graftwoodlaw18_LackTells.j1]
      rw [if_neg (by decide), rminus_val a b (by omega) (by omega) _ (by omega)]
      simp only [Option.bind_some]
      rw [show a.filter (fun x => !decide (x ∈ b)) = goneF a b from rfl, hs]
      simp only [Option.bind_some]
      rw [if_pos trivial, if_neg (by decide), ref18May_val m (by omega) fl _ (by omega)]
      simp only [Option.bind_some]
      cases hok : okE m with
      | false =>
        have hn : ¬ (True ∧ True ∧ false = true) := fun h => by cases h.2.2
        rw [if_neg (by decide), if_neg hn, if_pos (by rfl), if_pos (by rfl), awake18_val]
        rfl
      | true =>
        have hol : (ofF a b m).length ≤ 24 := by rw [ofF_len]; omega
        have hby := ofF_by a b m
        have hp : True ∧ True ∧ true = true := ⟨trivial, trivial, rfl⟩
        rw [if_pos rfl, rof_val a b m ha hb hl fl hok _ (by omega), if_pos hp]
        simp only [Option.bind_some]
        rw [same18_self _ (by omega) (fun x hx => Nat.le_trans (hby x hx) (by omega)) _ (by omega)]
        simp only [Option.bind_some]
        rw [if_pos trivial, if_pos trivial, awake18_val]
        rfl
end Go.Proofs.YtffcbfclpfchnaaGreatDoor.Q
end
