/- The automata of the three kinds of words accept just what the document calls a path, a version, a go number. Nothing of Go stands in here. -/
import Derived.Test.YtbkcjgjcnnggbaaPlainA
set_option linter.unusedVariables false
namespace Gw

def ec (c : Nat) : Bool := inner c || c == 46
def eT (q : Nat) (p : B) : Bool := if q = 0 then isElem p else if q = 1 then p.all ec && p.getLast? != some 46 else !p.isEmpty && p.all ec && p.getLast? != some 46
def P (q : Nat) (s : B) : Bool := match parts 47 s with | p :: ps => eT q p && ps.all isElem | [] => false
theorem P_eq {q : Nat} {s p : B} {ps : List B} (h : parts 47 s = p :: ps) : P q s = (eT q p && ps.all isElem) := by unfold P; rw [h]
theorem P0 (s : B) : P 0 s = isPath s := by
  obtain ⟨p, ps, h⟩ := parts_cons 47 s
  rw [P_eq h]
  simp [isPath, h, eT]
theorem isElem_eq (s : B) : isElem s = (!s.isEmpty && s.head? != some 46 && s.getLast? != some 46 && s.all ec) := by
  cases s with
  | nil => rfl
  | cons c r =>
    have h : (some c != some 46) = (c != 46) := by rw [Bool.eq_iff_iff]; simp
    show (c != 46 && (c :: r).getLast? != some 46 && (c :: r).all ec) = (true && some c != some 46 && (c :: r).getLast? != some 46 && (c :: r).all ec)
    rw [h, Bool.true_and]
theorem acc_cons (k q c : Nat) (r : B) : acc k q (c :: r) = match next k q c with | none => false | some q' => acc k q' r := by
  unfold acc
  rw [goes]
  cases next k q c <;> rfl
theorem eT_inner {q c : Nat} {p : B} (hq : q < 3) (hc : inner c = true) : eT q (c :: p) = eT 1 p := by
  have h46 : c ≠ 46 := by rintro rfl; revert hc; decide
  have hl : ((c :: p).getLast? != some 46) = (p.getLast? != some 46) := by
    cases p with
    | nil => rw [Bool.eq_iff_iff]; simp; exact h46
    | cons d p => simp [List.getLast?_cons_cons]
  have h3 : q = 0 ∨ q = 1 ∨ q = 2 := by omega
  rcases h3 with rfl | rfl | rfl
  · have hs : (some c != some 46) = true := by simp [h46]
    simp only [eT, isElem_eq, hl, List.all_cons]; simp [ec, hc, hs, Bool.and_comm]
  · simp only [eT, hl, List.all_cons]; simp [ec, hc]
  · simp only [eT, hl, List.all_cons]; simp [ec, hc]
theorem eT_dot {q : Nat} {p : B} (hq : q < 3) (h0 : q ≠ 0) : eT q (46 :: p) = eT 2 p := by
  have hl : ((46 :: p).getLast? != some 46) = (!p.isEmpty && p.getLast? != some 46) := by
    cases p with
    | nil => simp
    | cons d p => simp [List.getLast?_cons_cons]
  have h3 : q = 1 ∨ q = 2 := by omega
  rcases h3 with rfl | rfl <;> (simp only [eT, hl, List.all_cons]; simp [ec]; cases List.all p ec <;> cases List.isEmpty p <;> simp)
theorem eT_no {q c : Nat} {p : B} (hq : q < 3) (hc : inner c = false) (h : c ≠ 46 ∨ q = 0) : eT q (c :: p) = false := by
  have h3 : q = 0 ∨ q = 1 ∨ q = 2 := by omega
  by_cases h46 : c = 46
  · subst h46
    rcases h with h | rfl
    · exact absurd rfl h
    · simp [eT, isElem_eq]
  · rcases h3 with rfl | rfl | rfl <;> simp [eT, isElem_eq, ec, hc, h46]
theorem acc_path : ∀ (s : B) (q : Nat), oct s → q < 3 → acc 0 q s = P q s
  | [], q, _, hq => by
    have h3 : q = 0 ∨ q = 1 ∨ q = 2 := by omega
    rcases h3 with rfl | rfl | rfl <;> rfl
  | c :: r, q, ho, hq => by
    have hc : c < 256 := ho c List.mem_cons_self
    have hr : oct r := fun x hx => ho x (List.mem_cons_of_mem _ hx)
    have ih := fun q' h => acc_path r q' hr h
    obtain ⟨p, ps, hp⟩ := parts_cons 47 r
    rw [acc_cons, path_next q hq c hc]
    by_cases h1 : inner c = true
    · have h47 : c ≠ 47 := by rintro rfl; revert h1; decide
      rw [if_pos h1]
      show acc 0 1 r = _
      rw [ih 1 (by omega), P_eq hp, P_eq (parts_other h47 hp), eT_inner hq h1]
    · rw [if_neg h1]
      have h1f := Bool.eq_false_iff.2 h1
      by_cases h2 : c = 46 ∧ q ≠ 0
      · rw [if_pos h2]
        show acc 0 2 r = _
        rw [ih 2 (by omega), P_eq hp, P_eq (parts_other (by omega) hp), h2.1, eT_dot hq h2.2]
      · rw [if_neg h2]
        by_cases h3 : c = 47
        · subst h3
          rw [P_eq (parts_sep 47 r)]
          by_cases h4 : q = 1
          · subst h4
            rw [if_pos ⟨rfl, rfl⟩]
            show acc 0 0 r = _
            rw [ih 0 (by omega), P0]
            simp [eT, isPath]
          · rw [if_neg (by omega)]
            have : q = 0 ∨ q = 2 := by omega
            rcases this with rfl | rfl <;> simp [eT, isElem]
        · rw [if_neg (by omega), P_eq (parts_other h3 hp), eT_no hq h1f (by omega)]
          rfl

/-! Numbers and words. -/
def nT (t : Nat) (p : B) : Bool := if t = 0 then isNum p else if t = 1 then p.isEmpty else p.all dig
theorem isNum_cons (c : Nat) (p : B) : isNum (c :: p) = (dig c && p.all dig && (p.isEmpty || c != 48)) := by simp [isNum]
theorem nT_48 (p : B) : nT 0 (48 :: p) = nT 1 p := by
  simp only [nT, isNum_cons]
  cases p <;> simp [dig]
theorem nT_dig {c : Nat} (p : B) (h : dig c = true) (h2 : c ≠ 48) : nT 0 (c :: p) = nT 2 p := by
  simp [nT, isNum_cons, h, h2]
theorem nT_2 {c : Nat} (p : B) (h : dig c = true) : nT 2 (c :: p) = nT 2 p := by simp [nT, h]
theorem nT_1 (c : Nat) (p : B) : nT 1 (c :: p) = false := by simp [nT]
theorem nT_no {t c : Nat} (p : B) (h : dig c = false) (ht : t < 3) : nT t (c :: p) = false := by
  have h3 : t = 0 ∨ t = 1 ∨ t = 2 := by omega
  rcases h3 with rfl | rfl | rfl <;> simp [nT, isNum_cons, h]
def wT (t : Nat) (p : B) : Bool := if t = 0 then isWord p else if t = 1 then p.all wch && (!p.all dig || p.isEmpty) else if t = 2 then p.all wch else if t = 3 then p.all wch else p.all wch && !p.all dig
def W (t : Nat) (s : B) : Bool := match parts 46 s with | p :: ps => wT t p && ps.all isWord | [] => false
theorem W_eq {q : Nat} {s p : B} {ps : List B} (h : parts 46 s = p :: ps) : W q s = (wT q p && ps.all isWord) := by unfold W; rw [h]
theorem W0 (s : B) : W 0 s = (parts 46 s).all isWord := by
  obtain ⟨p, ps, h⟩ := parts_cons 46 s
  rw [W_eq h, h]; rfl
theorem word_next : ∀ t < 5, ∀ c < 256, next 1 (10 + t) c = if dig c then (if t = 0 then (if c = 48 then some 11 else some 12) else if t = 1 ∨ t = 4 then some 14 else if t = 2 then some 12 else some 13) else if tailc c then some 13 else if c = 46 ∧ t ≠ 0 ∧ t ≠ 4 then some 10 else none := by decide +kernel
theorem wch_eq (c : Nat) : wch c = (dig c || tailc c) := by simp [wch, tailc, Bool.or_assoc]
theorem isWord_cons (c : Nat) (p : B) : isWord (c :: p) = (wch c && p.all wch && (!(dig c && p.all dig) || (p.isEmpty || c != 48))) := by
  simp only [isWord, isNum_cons, List.all_cons, List.isEmpty_cons, Bool.not_false, Bool.true_and]
  cases dig c <;> cases p.all dig <;> simp
theorem tail_dig : ∀ c < 256, tailc c = true → dig c = false := by decide +kernel
theorem wT_tail {t c : Nat} (p : B) (hc : c < 256) (h : tailc c = true) (ht : t < 5) : wT t (c :: p) = wT 3 p := by
  have hd := tail_dig c hc h
  have hw : wch c = true := by rw [wch_eq, h]; simp
  have h3 : t = 0 ∨ t = 1 ∨ t = 2 ∨ t = 3 ∨ t = 4 := by omega
  rcases h3 with rfl | rfl | rfl | rfl | rfl <;> simp [wT, isWord_cons, hd, hw]
theorem wT_48 (p : B) : wT 0 (48 :: p) = wT 1 p := by simp [wT, isWord_cons, wch, dig]
theorem wT_dig {c : Nat} (p : B) (h : dig c = true) (h2 : c ≠ 48) : wT 0 (c :: p) = wT 2 p := by simp [wT, isWord_cons, wch, h, h2]
theorem wT_14 {c t : Nat} (p : B) (h : dig c = true) (ht : t = 1 ∨ t = 4) : wT t (c :: p) = wT 4 p := by rcases ht with rfl | rfl <;> simp [wT, wch, h]
theorem wT_23 {c t : Nat} (p : B) (h : dig c = true) (ht : t = 2 ∨ t = 3) : wT t (c :: p) = wT t p := by rcases ht with rfl | rfl <;> simp [wT, wch, h]
theorem wT_no {c t : Nat} (p : B) (h : wch c = false) (ht : t < 5) : wT t (c :: p) = false := by
  have h3 : t = 0 ∨ t = 1 ∨ t = 2 ∨ t = 3 ∨ t = 4 := by omega
  rcases h3 with rfl | rfl | rfl | rfl | rfl <;> simp [wT, isWord_cons, h]
theorem acc_word : ∀ (s : B) (t : Nat), oct s → t < 5 → acc 1 (10 + t) s = W t s
  | [], t, _, ht => by
    have h3 : t = 0 ∨ t = 1 ∨ t = 2 ∨ t = 3 ∨ t = 4 := by omega
    rcases h3 with rfl | rfl | rfl | rfl | rfl <;> rfl
  | c :: r, t, ho, ht => by
    have hc : c < 256 := ho c List.mem_cons_self
    have hr : oct r := fun x hx => ho x (List.mem_cons_of_mem _ hx)
    have ih := fun q' h => acc_word r q' hr h
    obtain ⟨p, ps, hp⟩ := parts_cons 46 r
    rw [acc_cons, word_next t ht c hc]
    by_cases hd : dig c = true
    · have h46 : c ≠ 46 := by rintro rfl; revert hd; decide
      rw [if_pos hd, W_eq (parts_other h46 hp)]
      by_cases t0 : t = 0
      · subst t0
        rw [if_pos rfl]
        by_cases h48 : c = 48
        · subst h48
          rw [if_pos rfl, wT_48, ← W_eq hp]; exact ih 1 (by omega)
        · rw [if_neg h48, wT_dig p hd h48, ← W_eq hp]; exact ih 2 (by omega)
      · rw [if_neg t0]
        by_cases t14 : t = 1 ∨ t = 4
        · rw [if_pos t14, wT_14 p hd t14, ← W_eq hp]; exact ih 4 (by omega)
        · rw [if_neg t14]
          by_cases t2 : t = 2
          · subst t2; rw [if_pos rfl, wT_23 p hd (.inl rfl), ← W_eq hp]; exact ih 2 (by omega)
          · obtain rfl : t = 3 := by omega
            rw [if_neg (by omega), wT_23 p hd (.inr rfl), ← W_eq hp]; exact ih 3 (by omega)
    · rw [if_neg hd]
      by_cases hl : tailc c = true
      · have h46 : c ≠ 46 := by rintro rfl; revert hl; decide
        rw [if_pos hl, W_eq (parts_other h46 hp), wT_tail p hc hl ht, ← W_eq hp]; exact ih 3 (by omega)
      · rw [if_neg hl]
        have hw : wch c = false := by rw [wch_eq, Bool.eq_false_iff.2 hd, Bool.eq_false_iff.2 hl]; rfl
        by_cases h46 : c = 46
        · subst h46
          rw [W_eq (parts_sep 46 r), ← W0]
          by_cases h04 : t ≠ 0 ∧ t ≠ 4
          · rw [if_pos ⟨rfl, h04⟩]
            show acc 1 10 r = _
            rw [ih 0 (by omega)]
            have h3 : t = 1 ∨ t = 2 ∨ t = 3 := by omega
            rcases h3 with rfl | rfl | rfl <;> simp [wT]
          · rw [if_neg (fun h => h04 h.2)]
            have h3 : t = 0 ∨ t = 4 := by omega
            rcases h3 with rfl | rfl <;> simp [wT, isWord]
        · rw [if_neg (fun h => h46 h.1), W_eq (parts_other h46 hp), wT_no p hw ht]; rfl
def V (i t : Nat) (s : B) : Bool := match parts 46 (cutDash s).1 with | p :: ps => nT t p && (ps.length + i == 2) && ps.all isNum && preOk (cutDash s).2 | [] => false
theorem V_eq {i t : Nat} {s p : B} {ps : List B} (h : parts 46 (cutDash s).1 = p :: ps) : V i t s = (nT t p && (ps.length + i == 2) && ps.all isNum && preOk (cutDash s).2) := by unfold V; rw [h]
theorem vers_next : ∀ i < 3, ∀ t < 3, ∀ c < 256, next 1 (1 + 3 * i + t) c = if dig c then (if t = 0 then (if c = 48 then some (2 + 3 * i) else some (3 + 3 * i)) else if t = 1 then none else some (3 + 3 * i)) else if t = 0 then none else if c = 46 ∧ i < 2 then some (1 + 3 * (i + 1)) else if c = 45 ∧ i = 2 then some 10 else none := by decide +kernel
theorem nT_nil {t : Nat} (ht : t < 3) : nT t [] = (t != 0) := by
  have h3 : t = 0 ∨ t = 1 ∨ t = 2 := by omega
  rcases h3 with rfl | rfl | rfl <;> rfl
theorem acc_vers : ∀ (s : B) (i t : Nat), oct s → i < 3 → t < 3 → acc 1 (1 + 3 * i + t) s = V i t s
  | [], i, t, _, hi, ht => by
    have h1 : i = 0 ∨ i = 1 ∨ i = 2 := by omega
    have h3 : t = 0 ∨ t = 1 ∨ t = 2 := by omega
    rcases h1 with rfl | rfl | rfl <;> rcases h3 with rfl | rfl | rfl <;> rfl
  | c :: r, i, t, ho, hi, ht => by
    have hc : c < 256 := ho c List.mem_cons_self
    have hr : oct r := fun x hx => ho x (List.mem_cons_of_mem _ hx)
    have ih := fun i' t' h h' => acc_vers r i' t' hr h h'
    obtain ⟨p, ps, hp⟩ := parts_cons 46 (cutDash r).1
    rw [acc_cons, vers_next i hi t ht c hc]
    by_cases hd : dig c = true
    · have h46 : c ≠ 46 := by rintro rfl; revert hd; decide
      have h45 : c ≠ 45 := by rintro rfl; revert hd; decide
      have e1 : (cutDash (c :: r)).1 = c :: (cutDash r).1 := by simp [cutDash, h45]
      have e2 : (cutDash (c :: r)).2 = (cutDash r).2 := by simp [cutDash, h45]
      have hq : parts 46 (cutDash (c :: r)).1 = (c :: p) :: ps := by rw [e1]; exact parts_other h46 hp
      rw [if_pos hd, V_eq hq, e2]
      by_cases t0 : t = 0
      · subst t0
        rw [if_pos rfl]
        by_cases h48 : c = 48
        · subst h48
          rw [if_pos rfl, nT_48, ← V_eq hp]
          show acc 1 (2 + 3 * i) r = _
          rw [← ih i 1 hi (by omega)]; congr 1; omega
        · rw [if_neg h48, nT_dig p hd h48, ← V_eq hp]
          show acc 1 (3 + 3 * i) r = _
          rw [← ih i 2 hi (by omega)]; congr 1; omega
      · rw [if_neg t0]
        by_cases t1 : t = 1
        · subst t1; rw [if_pos rfl, nT_1]; rfl
        · obtain rfl : t = 2 := by omega
          rw [if_neg t1, nT_2 p hd, ← V_eq hp]
          show acc 1 (3 + 3 * i) r = _
          rw [← ih i 2 hi (by omega)]; congr 1; omega
    · have hdf := Bool.eq_false_iff.2 hd
      rw [if_neg hd]
      by_cases h45 : c = 45
      · subst h45
        have e1 : parts 46 (cutDash (45 :: r)).1 = [] :: [] := rfl
        rw [V_eq e1, nT_nil ht]
        have e2 : preOk (cutDash (45 :: r)).2 = W 0 r := by rw [W0]; rfl
        rw [e2]
        by_cases t0 : t = 0
        · subst t0; rw [if_pos rfl]; rfl
        · rw [if_neg t0, if_neg (by omega)]
          by_cases i2 : i = 2
          · subst i2
            rw [if_pos ⟨rfl, rfl⟩]
            show acc 1 10 r = _
            rw [acc_word r 0 hr (by omega)]
            simp [t0]
          · rw [if_neg (fun h => i2 h.2)]
            have h2 : ((([] : List B).length + i == 2) : Bool) = false := beq_eq_false_iff_ne.2 (by simp; omega)
            rw [h2]; simp
      · have e1 : (cutDash (c :: r)).1 = c :: (cutDash r).1 := by simp [cutDash, h45]
        have e2 : (cutDash (c :: r)).2 = (cutDash r).2 := by simp [cutDash, h45]
        by_cases h46 : c = 46
        · subst h46
          have hq : parts 46 (cutDash (46 :: r)).1 = [] :: (p :: ps) := by rw [e1, parts_sep, hp]
          rw [V_eq hq, e2, nT_nil ht]
          by_cases t0 : t = 0
          · subst t0; rw [if_pos rfl]; rfl
          · rw [if_neg t0]
            by_cases i2 : i < 2
            · rw [if_pos ⟨rfl, i2⟩]
              show acc 1 (1 + 3 * (i + 1)) r = _
              rw [show 1 + 3 * (i + 1) = 1 + 3 * (i + 1) + 0 from rfl, ih (i + 1) 0 (by omega) (by omega), V_eq hp]
              have t0' : (t != 0) = true := by simp [t0]
              rw [t0', List.length_cons, List.all_cons]
              rw [show (ps.length + 1 + i == 2) = (ps.length + (i + 1) == 2) from by congr 1; omega]
              have : nT 0 p = isNum p := rfl
              rw [this]
              cases isNum p <;> cases ps.all isNum <;> cases (ps.length + (i + 1) == 2) <;> simp
            · rw [if_neg (fun h => i2 h.2), if_neg (by omega)]
              have : (((p :: ps).length + i == 2) : Bool) = false := beq_eq_false_iff_ne.2 (by simp; omega)
              rw [this]; simp
        · have hq : parts 46 (cutDash (c :: r)).1 = (c :: p) :: ps := by rw [e1]; exact parts_other h46 hp
          rw [V_eq hq, nT_no p hdf ht]
          by_cases t0 : t = 0
          · rw [if_pos t0]; rfl
          · rw [if_neg t0, if_neg (fun h => h46 h.1), if_neg (fun h => h45 h.1)]; rfl
theorem first_next : ∀ c < 256, next 1 0 c = if c = 118 then some 1 else none := by decide +kernel
theorem acc_version (s : B) (ho : oct s) : acc 1 0 s = isVersion s := by
  cases s with
  | nil => rfl
  | cons c r =>
    have hc : c < 256 := ho c List.mem_cons_self
    have hr : oct r := fun x hx => ho x (List.mem_cons_of_mem _ hx)
    rw [acc_cons, first_next c hc]
    by_cases h : c = 118
    · subst h
      rw [if_pos rfl]
      show acc 1 1 r = _
      rw [show (1 : Nat) = 1 + 3 * 0 + 0 from rfl, acc_vers r 0 0 hr (by omega) (by omega)]
      obtain ⟨p, ps, hp⟩ := parts_cons 46 (cutDash r).1
      rw [V_eq hp]
      simp only [isVersion, coreOk, hp, List.length_cons, List.all_cons]
      have : nT 0 p = isNum p := rfl
      rw [this, show (ps.length + 0 == 2) = (ps.length + 1 == 3) from by rw [Bool.eq_iff_iff]; simp]
      cases isNum p <;> cases ps.all isNum <;> cases (ps.length + 1 == 3) <;> simp
    · rw [if_neg h]
      have : isVersion (c :: r) = false := by
        unfold isVersion
        split
        · rename_i heq
          exact absurd (List.cons.inj heq).1 h
        · rfl
      rw [this]
def G (i t : Nat) (s : B) : Bool := match parts 46 s with | p :: ps => nT t p && ps.all isNum && (ps.length + i == 1 || ps.length + i == 2) | [] => false
theorem G_eq {i t : Nat} {s p : B} {ps : List B} (h : parts 46 s = p :: ps) : G i t s = (nT t p && ps.all isNum && (ps.length + i == 1 || ps.length + i == 2)) := by unfold G; rw [h]
theorem go_next : ∀ i < 3, ∀ t < 3, ∀ c < 256, next 2 (3 * i + t) c = if dig c then (if t = 0 then (if c = 48 then some (3 * i + 1) else some (3 * i + 2)) else if t = 1 then none else some (3 * i + 2)) else if t = 0 then none else if c = 46 ∧ i < 2 then some (3 * (i + 1)) else none := by decide +kernel
theorem acc_go' : ∀ (s : B) (i t : Nat), oct s → i < 3 → t < 3 → acc 2 (3 * i + t) s = G i t s
  | [], i, t, _, hi, ht => by
    have h1 : i = 0 ∨ i = 1 ∨ i = 2 := by omega
    have h3 : t = 0 ∨ t = 1 ∨ t = 2 := by omega
    rcases h1 with rfl | rfl | rfl <;> rcases h3 with rfl | rfl | rfl <;> rfl
  | c :: r, i, t, ho, hi, ht => by
    have hc : c < 256 := ho c List.mem_cons_self
    have hr : oct r := fun x hx => ho x (List.mem_cons_of_mem _ hx)
    have ih := fun i' t' h h' => acc_go' r i' t' hr h h'
    obtain ⟨p, ps, hp⟩ := parts_cons 46 r
    rw [acc_cons, go_next i hi t ht c hc]
    by_cases hd : dig c = true
    · have h46 : c ≠ 46 := by rintro rfl; revert hd; decide
      rw [if_pos hd, G_eq (parts_other h46 hp)]
      by_cases t0 : t = 0
      · subst t0
        rw [if_pos rfl]
        by_cases h48 : c = 48
        · subst h48
          rw [if_pos rfl, nT_48, ← G_eq hp]; exact ih i 1 hi (by omega)
        · rw [if_neg h48, nT_dig p hd h48, ← G_eq hp]; exact ih i 2 hi (by omega)
      · rw [if_neg t0]
        by_cases t1 : t = 1
        · subst t1; rw [if_pos rfl, nT_1]; rfl
        · obtain rfl : t = 2 := by omega
          rw [if_neg t1, nT_2 p hd, ← G_eq hp]; exact ih i 2 hi (by omega)
    · have hdf := Bool.eq_false_iff.2 hd
      rw [if_neg hd]
      by_cases h46 : c = 46
      · subst h46
        rw [G_eq (parts_sep 46 r), hp, nT_nil ht]
        by_cases t0 : t = 0
        · subst t0; rw [if_pos rfl]; rfl
        · rw [if_neg t0]
          have t0' : (t != 0) = true := by simp [t0]
          rw [t0', List.length_cons, List.all_cons]
          by_cases i2 : i < 2
          · rw [if_pos ⟨rfl, i2⟩]
            show acc 2 (3 * (i + 1)) r = _
            rw [show 3 * (i + 1) = 3 * (i + 1) + 0 from rfl, ih (i + 1) 0 (by omega) (by omega), G_eq hp]
            rw [show ps.length + 1 + i = ps.length + (i + 1) from by omega]
            simp [nT]
          · rw [if_neg (fun h => i2 h.2)]
            have e1 : ((ps.length + 1 + i == 1) : Bool) = false := beq_eq_false_iff_ne.2 (by omega)
            have e2 : ((ps.length + 1 + i == 2) : Bool) = false := beq_eq_false_iff_ne.2 (by omega)
            rw [e1, e2]; simp
      · rw [G_eq (parts_other h46 hp), nT_no p hdf ht]
        by_cases t0 : t = 0
        · rw [if_pos t0]; rfl
        · rw [if_neg t0, if_neg (fun h => h46 h.1)]; rfl
theorem acc_go (s : B) (ho : oct s) : acc 2 0 s = isGo s := by
  rw [show (0 : Nat) = 3 * 0 + 0 from rfl, acc_go' s 0 0 ho (by omega) (by omega)]
  obtain ⟨p, ps, hp⟩ := parts_cons 46 s
  rw [G_eq hp]
  simp only [isGo, coreOk, hp, List.length_cons, List.all_cons]
  have : nT 0 p = isNum p := rfl
  rw [this, show (ps.length + 0 == 1) = (ps.length + 1 == 2) from by rw [Bool.eq_iff_iff]; simp, show (ps.length + 0 == 2) = (ps.length + 1 == 3) from by rw [Bool.eq_iff_iff]; simp]
  cases isNum p <;> cases ps.all isNum <;> cases (ps.length + 1 == 3) <;> cases (ps.length + 1 == 2) <;> rfl
theorem acc_kind (k : Nat) (hk : k < 3) (s : B) (ho : oct s) : acc k 0 s = isKind k s := by
  have h3 : k = 0 ∨ k = 1 ∨ k = 2 := by omega
  rcases h3 with rfl | rfl | rfl
  · rw [acc_path s 0 ho (by omega), P0]; rfl
  · rw [acc_version s ho]; rfl
  · rw [acc_go s ho]; rfl
end Gw
