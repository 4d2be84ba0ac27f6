/- M0: several texts of this claim one behind the other: PlainA, PlainV, PlainO, PlainN. What each shows stands in its theorems; conditions: sizes of texts, as the definitions of the functions say. -/
/- Plain words about texts as lists of octets (numbers below 256), and the automata of the three kinds of words. Nothing of Go stands in here. -/
set_option linter.unusedVariables false
namespace Gw
abbrev B := List Nat
def dig (c : Nat) : Bool := 48 ≤ c && c ≤ 57
def let_ (c : Nat) : Bool := (65 ≤ c && c ≤ 90) || (97 ≤ c && c ≤ 122)
/-- a letter, a digit, or one of - _ ~ -/
def inner (c : Nat) : Bool := dig c || let_ c || c == 45 || c == 95 || c == 126
def wch (c : Nat) : Bool := dig c || let_ c || c == 45
def tailc (c : Nat) : Bool := let_ c || c == 45
def parts (sep : Nat) : B → List B
  | [] => [[]]
  | c :: r => if c = sep then [] :: parts sep r else match parts sep r with
    | p :: ps => (c :: p) :: ps
    | [] => [[c]]
theorem parts_ne (sep : Nat) : ∀ s, parts sep s ≠ []
  | [] => by simp [parts]
  | c :: r => by
    unfold parts
    split
    · simp
    · split <;> simp
theorem parts_cons (sep : Nat) (s : B) : ∃ p ps, parts sep s = p :: ps := by
  cases h : parts sep s with
  | nil => exact absurd h (parts_ne sep s)
  | cons p ps => exact ⟨p, ps, rfl⟩
theorem parts_sep (sep : Nat) (r : B) : parts sep (sep :: r) = [] :: parts sep r := by simp [parts]
theorem parts_other {sep c : Nat} (h : c ≠ sep) {r p : B} {ps : List B} (hr : parts sep r = p :: ps) : parts sep (c :: r) = (c :: p) :: ps := by simp [parts, h, hr]
def isNum (s : B) : Bool := s.all dig && match s with | [] => false | c :: r => r.isEmpty || c != 48
def isElem (s : B) : Bool := match s with | [] => false | c :: r => c != 46 && (c :: r).getLast? != some 46 && (c :: r).all (fun c => inner c || c == 46)
def isPath (s : B) : Bool := (parts 47 s).all isElem
def isWord (s : B) : Bool := !s.isEmpty && s.all wch && (!s.all dig || isNum s)
/-- What is ahead of the first -, and what is behind it, if there is one. -/
def cutDash : B → B × Option B
  | [] => ([], none)
  | c :: r => if c = 45 then ([], some r) else ((c :: (cutDash r).1), (cutDash r).2)
def preOk : Option B → Bool
  | none => true
  | some r => (parts 46 r).all isWord
def coreOk (n : Nat) (core : B) : Bool := (parts 46 core).length == n && (parts 46 core).all isNum
def isVersion : B → Bool
  | 118 :: r => coreOk 3 (cutDash r).1 && preOk (cutDash r).2
  | _ => false
def isGo (s : B) : Bool := coreOk 2 s || coreOk 3 s
def isKind (k : Nat) (s : B) : Bool := if k = 0 then isPath s else if k = 1 then isVersion s else isGo s

/-! The automata. -/
structure St where
  moves : List (B × Nat)
  ends : Bool
  rest : B
def z : St := ⟨[], false, []⟩
def Bsome : B := [49, 50, 51, 52, 53, 54, 55, 56, 57]
def Bdigits : B := 48 :: Bsome
def Bletters : B := [97, 98, 99, 100, 101, 102, 103, 104, 105, 106, 107, 108, 109, 110, 111, 112, 113, 114, 115, 116, 117, 118, 119, 120, 121, 122, 65, 66, 67, 68, 69, 70, 71, 72, 73, 74, 75, 76, 77, 78, 79, 80, 81, 82, 83, 84, 85, 86, 87, 88, 89, 90]
def Binner : B := Bdigits ++ Bletters ++ [45, 95, 126]
def Btail : B := Bletters ++ [45]
def pathT : List St := [⟨[(Binner, 1)], false, [97]⟩, ⟨[(Binner, 1), ([46], 2), ([47], 0)], true, []⟩, ⟨[(Binner, 1), ([46], 2)], false, [97]⟩]
def versionT : List St := [
  ⟨[([118], 1)], false, [118, 48, 46, 48, 46, 48]⟩,
  ⟨[([48], 2), (Bsome, 3)], false, [48, 46, 48, 46, 48]⟩,
  ⟨[([46], 4)], false, [46, 48, 46, 48]⟩,
  ⟨[(Bdigits, 3), ([46], 4)], false, [46, 48, 46, 48]⟩,
  ⟨[([48], 5), (Bsome, 6)], false, [48, 46, 48]⟩,
  ⟨[([46], 7)], false, [46, 48]⟩,
  ⟨[(Bdigits, 6), ([46], 7)], false, [46, 48]⟩,
  ⟨[([48], 8), (Bsome, 9)], false, [48]⟩,
  ⟨[([45], 10)], true, []⟩,
  ⟨[(Bdigits, 9), ([45], 10)], true, []⟩,
  ⟨[([48], 11), (Bsome, 12), (Btail, 13)], false, [48]⟩,
  ⟨[(Bdigits, 14), (Btail, 13), ([46], 10)], true, []⟩,
  ⟨[(Bdigits, 12), (Btail, 13), ([46], 10)], true, []⟩,
  ⟨[(Bdigits ++ Btail, 13), ([46], 10)], true, []⟩,
  ⟨[(Bdigits, 14), (Btail, 13)], false, [97]⟩]
def goT : List St := [
  ⟨[([48], 1), (Bsome, 2)], false, [48, 46, 48]⟩,
  ⟨[([46], 3)], false, [46, 48]⟩,
  ⟨[(Bdigits, 2), ([46], 3)], false, [46, 48]⟩,
  ⟨[([48], 4), (Bsome, 5)], false, [48]⟩,
  ⟨[([46], 6)], true, []⟩,
  ⟨[(Bdigits, 5), ([46], 6)], true, []⟩,
  ⟨[([48], 7), (Bsome, 8)], false, [48]⟩,
  ⟨[], true, []⟩,
  ⟨[(Bdigits, 8)], true, []⟩]
def tab (k : Nat) : List St := if k = 0 then pathT else if k = 1 then versionT else if k = 2 then goT else []
def stepM (l : List (B × Nat)) (c : Nat) : Option Nat := match l with
  | [] => none
  | m :: r => if m.1.contains c then some m.2 else stepM r c
def at_ (k q : Nat) : St := (tab k).getD q z
def next (k q c : Nat) : Option Nat := stepM (at_ k q).moves c
/-- How much is read, and the state behind that. -/
def run (k q : Nat) : B → Nat × Nat
  | [] => (0, q)
  | c :: r => match next k q c with
    | none => (0, q)
    | some q' => ((run k q' r).1 + 1, (run k q' r).2)
def goes (k q : Nat) : B → Option Nat
  | [] => some q
  | c :: r => match next k q c with
    | none => none
    | some q' => goes k q' r
def acc (k q : Nat) (s : B) : Bool := match goes k q s with | none => false | some q' => (at_ k q').ends
def oct (s : B) : Prop := ∀ c ∈ s, c < 256

theorem path_next : ∀ q < 3, ∀ c < 256, next 0 q c = if inner c then some 1 else if c = 46 ∧ q ≠ 0 then some 2 else if c = 47 ∧ q = 1 then some 0 else none := by decide +kernel
end Gw

set_option linter.unusedVariables false
namespace Gw
abbrev VP := B × B × B × List B
def vpre (a b c : B) (pre : Option B) : Option VP := match pre with
  | none => some (a, b, c, [])
  | some p => if (parts 46 p).all isWord then some (a, b, c, parts 46 p) else none
def vcore (core : B) (pre : Option B) : Option VP := match parts 46 core with
  | [a, b, c] => if isNum a && isNum b && isNum c then vpre a b c pre else none
  | _ => none
def vparts : B → Option VP
  | 118 :: r => vcore (cutDash r).1 (cutDash r).2
  | _ => none
theorem vcore_some (core : B) (pre : Option B) : (vcore core pre).isSome = (coreOk 3 core && preOk pre) := by
  unfold vcore coreOk vpre
  rcases hp : parts 46 core with _ | ⟨a, _ | ⟨b, _ | ⟨c, _ | ⟨d, l⟩⟩⟩⟩
  · rfl
  · rfl
  · rfl
  · simp only [List.length_cons, List.length_nil, List.all_cons, List.all_nil, Bool.and_true]
    cases isNum a <;> cases isNum b <;> cases isNum c <;> try rfl
    cases pre with
    | none => rfl
    | some p =>
      simp only [preOk]
      cases (parts 46 p).all isWord <;> rfl
  · simp
theorem vparts_some (s : B) : (vparts s).isSome = isVersion s := by
  unfold vparts isVersion
  split
  · exact vcore_some _ _
  · rename_i h
    first
      | rfl
      | (split
         · exact absurd rfl (h _)
         · rfl)
end Gw

set_option linter.unusedVariables false
namespace Gw
def orI (x y : Int) : Int := if x = 0 then y else x
/-- A comparison that is an order among what P lets in. -/
structure TO {α : Type} (P : α → Prop) (c : α → α → Int) : Prop where
  tri : ∀ a b, c a b = -1 ∨ c a b = 0 ∨ c a b = 1
  sym : ∀ a b, P a → P b → c b a = - c a b
  eq : ∀ a b, P a → P b → (c a b = 0 ↔ a = b)
  tr : ∀ a b d, P a → P b → P d → c a b < 0 → c b d < 0 → c a d < 0
def cmpN (n m : Nat) : Int := if n < m then -1 else if m < n then 1 else 0
def lexC : List Nat → List Nat → Int
  | [], [] => 0
  | [], _ :: _ => -1
  | _ :: _, [] => 1
  | a :: x, b :: y => if a < b then -1 else if b < a then 1 else lexC x y
def numC (a b : B) : Int := orI (cmpN a.length b.length) (lexC a b)
def wordC (a b : B) : Int := if isNum a then (if isNum b then numC a b else -1) else if isNum b then 1 else lexC a b
def wordsC : List B → List B → Int
  | [], [] => 0
  | [], _ :: _ => -1
  | _ :: _, [] => 1
  | a :: x, b :: y => orI (wordC a b) (wordsC x y)
def preC (x y : List B) : Int := if x = [] ∨ y = [] then cmpN y.length x.length else wordsC x y
def preK : List B → Int := fun l => if l = [] then 1 else 0
def flagC (x y : List B) : Int := if x = [] then (if y = [] then 0 else 1) else if y = [] then -1 else 0
def verC (x y : VP) : Int := orI (numC x.1 y.1) (orI (numC x.2.1 y.2.1) (orI (numC x.2.2.1 y.2.2.1) (orI (flagC x.2.2.2 y.2.2.2) (wordsC x.2.2.2 y.2.2.2))))
theorem orI_tri {x y : Int} (hx : x = -1 ∨ x = 0 ∨ x = 1) (hy : y = -1 ∨ y = 0 ∨ y = 1) : orI x y = -1 ∨ orI x y = 0 ∨ orI x y = 1 := by
  unfold orI; split <;> assumption
theorem cmpN_to : TO (fun _ : Nat => True) cmpN := by
  refine ⟨fun a b => ?_, fun a b _ _ => ?_, fun a b _ _ => ?_, fun a b d _ _ _ => ?_⟩ <;> unfold cmpN <;> (repeat' split) <;> omega
theorem lexC_tri : ∀ a b, lexC a b = -1 ∨ lexC a b = 0 ∨ lexC a b = 1
  | [], [] => by simp [lexC]
  | [], _ :: _ => by simp [lexC]
  | _ :: _, [] => by simp [lexC]
  | a :: x, b :: y => by
    have := lexC_tri x y
    unfold lexC
    repeat' split
    all_goals first | omega | exact this
theorem lexC_sym : ∀ a b, lexC b a = - lexC a b
  | [], [] => by simp [lexC]
  | [], _ :: _ => by simp [lexC]
  | _ :: _, [] => by simp [lexC]
  | a :: x, b :: y => by
    have := lexC_sym x y
    unfold lexC
    repeat' split
    all_goals first | omega | exact this
theorem lexC_eq : ∀ a b, lexC a b = 0 ↔ a = b
  | [], [] => by simp [lexC]
  | [], _ :: _ => by simp [lexC]
  | _ :: _, [] => by simp [lexC]
  | a :: x, b :: y => by
    have := lexC_eq x y
    unfold lexC
    rw [List.cons.injEq]
    repeat' split
    all_goals first | (simp; omega) | (rw [this]; constructor <;> intro h <;> first | exact h.2 | exact ⟨by omega, h⟩)
theorem lexC_tr : ∀ a b d, lexC a b < 0 → lexC b d < 0 → lexC a d < 0
  | [], [], _, h, _ => by simp [lexC] at h
  | [], _ :: _, [], _, h => by simp [lexC] at h
  | [], _ :: _, _ :: _, _, _ => by simp [lexC]
  | _ :: _, [], _, h, _ => by simp [lexC] at h
  | _ :: _, _ :: _, [], _, h => by simp [lexC] at h
  | a :: x, b :: y, d :: z, h1, h2 => by
    unfold lexC at *
    repeat' split
    all_goals (try omega)
    have hab : ¬ a < b := fun h => by
      rw [if_pos h] at h1
      split at h2
      · omega
      · split at h2 <;> omega
    have hba : ¬ b < a := fun h => by rw [if_neg hab, if_pos h] at h1; omega
    rw [if_neg hab, if_neg hba] at h1
    have hbd : ¬ b < d := by omega
    have hdb : ¬ d < b := by omega
    rw [if_neg hbd, if_neg hdb] at h2
    exact lexC_tr x y z h1 h2
theorem lexC_to : TO (fun _ : B => True) lexC := ⟨lexC_tri, fun a b _ _ => lexC_sym a b, fun a b _ _ => lexC_eq a b, fun a b d _ _ _ => lexC_tr a b d⟩
/-- One key ahead of another. -/
theorem TO.or {α : Type} {P : α → Prop} {c1 c2 : α → α → Int} (t1 : ∀ a b, c1 a b = -1 ∨ c1 a b = 0 ∨ c1 a b = 1) (s1 : ∀ a b, P a → P b → c1 b a = - c1 a b)
    (z1 : ∀ a b d, P a → P b → P d → c1 a b ≤ 0 → c1 b d ≤ 0 → c1 a d ≤ 0 ∧ (c1 a d = 0 → c1 a b = 0 ∧ c1 b d = 0))
    (t2 : ∀ a b, c2 a b = -1 ∨ c2 a b = 0 ∨ c2 a b = 1) (s2 : ∀ a b, P a → P b → c1 a b = 0 → c2 b a = - c2 a b)
    (e : ∀ a b, P a → P b → (c1 a b = 0 ∧ c2 a b = 0 ↔ a = b))
    (r2 : ∀ a b d, P a → P b → P d → c1 a b = 0 → c1 b d = 0 → c2 a b < 0 → c2 b d < 0 → c2 a d < 0) : TO P (fun a b => orI (c1 a b) (c2 a b)) := by
  refine ⟨fun a b => orI_tri (t1 a b) (t2 a b), fun a b ha hb => ?_, fun a b ha hb => ?_, fun a b d ha hb hd h1 h2 => ?_⟩
  · have := s1 a b ha hb
    have h2 := s2 a b ha hb
    show orI (c1 b a) (c2 b a) = - orI (c1 a b) (c2 a b)
    unfold orI
    split <;> split <;> first | omega | (rename_i h; exact h2 (by omega))
  · rw [← e a b ha hb]
    show orI (c1 a b) (c2 a b) = 0 ↔ _
    unfold orI
    split <;> rename_i h
    · exact ⟨fun h2 => ⟨h, h2⟩, fun h2 => h2.2⟩
    · exact ⟨fun h2 => absurd h2 h, fun h2 => absurd h2.1 h⟩
  · have h1' : orI (c1 a b) (c2 a b) < 0 := h1
    have h2' : orI (c1 b d) (c2 b d) < 0 := h2
    show orI (c1 a d) (c2 a d) < 0
    have k1 : c1 a b ≤ 0 := by unfold orI at h1'; split at h1' <;> omega
    have k2 : c1 b d ≤ 0 := by unfold orI at h2'; split at h2' <;> omega
    have z := z1 a b d ha hb hd k1 k2
    unfold orI
    split <;> rename_i h
    · have zz := z.2 h
      unfold orI at h1' h2'
      rw [if_pos zz.1] at h1'
      rw [if_pos zz.2] at h2'
      exact r2 a b d ha hb hd zz.1 zz.2 h1' h2'
    · omega
theorem TO.le {α : Type} {P : α → Prop} {c : α → α → Int} (h : TO P c) : ∀ a b d, P a → P b → P d → c a b ≤ 0 → c b d ≤ 0 → c a d ≤ 0 ∧ (c a d = 0 → c a b = 0 ∧ c b d = 0) := by
  intro a b d ha hb hd h1 h2
  by_cases e1 : c a b = 0
  · have := (h.eq a b ha hb).1 e1
    subst this
    exact ⟨h2, fun h3 => ⟨e1, h3⟩⟩
  · by_cases e2 : c b d = 0
    · have := (h.eq b d hb hd).1 e2
      subst this
      exact ⟨h1, fun h3 => ⟨h3, e2⟩⟩
    · have := h.tr a b d ha hb hd (by omega) (by omega)
      exact ⟨by omega, fun h3 => by omega⟩
/-- Two keys of their own. -/
theorem TO.keys {α β γ : Type} {P : α → Prop} {Q : β → Prop} {R : γ → Prop} {c : β → β → Int} {d : γ → γ → Int} (f : α → β) (g : α → γ) (hc : TO Q c) (hd : TO R d) (hf : ∀ a, P a → Q (f a)) (hg : ∀ a, P a → R (g a)) (inj : ∀ a b, f a = f b → g a = g b → a = b) : TO P (fun a b => orI (c (f a) (f b)) (d (g a) (g b))) := by
  refine TO.or (fun a b => hc.tri _ _) (fun a b ha hb => hc.sym _ _ (hf a ha) (hf b hb)) (fun a b d ha hb hd => hc.le _ _ _ (hf a ha) (hf b hb) (hf d hd)) (fun a b => hd.tri _ _) (fun a b ha hb _ => hd.sym _ _ (hg a ha) (hg b hb)) (fun a b ha hb => ?_) (fun a b d' ha hb hd' _ _ => hd.tr _ _ _ (hg a ha) (hg b hb) (hg d' hd'))
  rw [hc.eq _ _ (hf a ha) (hf b hb), hd.eq _ _ (hg a ha) (hg b hb)]
  exact ⟨fun h => inj a b h.1 h.2, fun h => by subst h; exact ⟨rfl, rfl⟩⟩
theorem numC_to : TO (fun _ : B => True) numC := by
  refine TO.or (c1 := fun a b : B => cmpN a.length b.length) (fun a b => cmpN_to.tri _ _) (fun a b _ _ => cmpN_to.sym _ _ trivial trivial) (fun a b d _ _ _ => cmpN_to.le _ _ _ trivial trivial trivial) lexC_tri (fun a b _ _ _ => lexC_sym a b) (fun a b _ _ => ?_) (fun a b d _ _ _ _ _ => lexC_tr a b d)
  rw [lexC_eq]
  exact ⟨fun h => h.2, fun h => by subst h; exact ⟨(cmpN_to.eq _ _ trivial trivial).2 rfl, rfl⟩⟩
theorem wordC_to : TO (fun _ : B => True) wordC := by
  refine ⟨fun a b => ?_, fun a b _ _ => ?_, fun a b _ _ => ?_, fun a b d _ _ _ => ?_⟩
  · have h1 := numC_to.tri a b
    have h2 := lexC_tri a b
    unfold wordC
    repeat' split
    all_goals first | assumption | omega
  · have h1 := numC_to.sym a b trivial trivial
    have h2 := lexC_sym a b
    unfold wordC
    cases isNum a <;> cases isNum b <;> simp_all
  · have h1 := numC_to.eq a b trivial trivial
    have h2 := lexC_eq a b
    unfold wordC
    by_cases ha : isNum a = true <;> by_cases hb : isNum b = true <;> simp only [ha, hb, if_true, if_false, Bool.false_eq_true] <;> first | exact h1 | exact h2 | skip
    · exact ⟨fun h => absurd h (by decide), fun h => by subst h; exact absurd ha hb⟩
    · exact ⟨fun h => absurd h (by decide), fun h => by subst h; exact absurd hb ha⟩
  · have h1 := numC_to.tr a b d trivial trivial trivial
    have h2 := lexC_tr a b d
    unfold wordC
    cases isNum a <;> cases isNum b <;> cases isNum d <;> simp <;> assumption
theorem wordsC_to : TO (fun _ : List B => True) wordsC := by
  have tri : ∀ a b, wordsC a b = -1 ∨ wordsC a b = 0 ∨ wordsC a b = 1 := by
    intro a
    induction a with
    | nil => intro b; cases b <;> simp [wordsC]
    | cons x a ih => intro b; cases b with
      | nil => simp [wordsC]
      | cons y b => exact orI_tri (wordC_to.tri _ _) (ih b)
  refine ⟨tri, fun a => ?_, fun a => ?_, fun a => ?_⟩
  · induction a with
    | nil => intro b _ _; cases b <;> simp [wordsC]
    | cons x a ih =>
      intro b _ _
      cases b with
      | nil => simp [wordsC]
      | cons y b =>
        have h1 := wordC_to.sym x y trivial trivial
        have h2 := ih b trivial trivial
        simp only [wordsC]
        unfold orI
        split <;> split <;> omega
  · induction a with
    | nil => intro b _ _; cases b <;> simp [wordsC]
    | cons x a ih =>
      intro b _ _
      cases b with
      | nil => simp [wordsC]
      | cons y b =>
        have h1 := wordC_to.eq x y trivial trivial
        have h2 := ih b trivial trivial
        simp only [wordsC, List.cons.injEq]
        unfold orI
        split <;> rename_i h
        · rw [h2]; exact ⟨fun h3 => ⟨h1.1 h, h3⟩, fun h3 => h3.2⟩
        · exact ⟨fun h3 => absurd h3 h, fun h3 => absurd (h1.2 h3.1) h⟩
  · induction a with
    | nil =>
      intro b d _ _ _ h1 h2
      cases b with
      | nil => simp [wordsC] at h1
      | cons y b => cases d with
        | nil => simp [wordsC] at h2
        | cons => simp [wordsC]
    | cons x a ih =>
      intro b d _ _ _ h1 h2
      cases b with
      | nil => simp [wordsC] at h1
      | cons y b => cases d with
        | nil => simp [wordsC] at h2
        | cons z d =>
          have h3 := ih b d trivial trivial trivial
          simp only [wordsC] at h1 h2 ⊢
          have k1 : wordC x y ≤ 0 := by unfold orI at h1; split at h1 <;> omega
          have k2 : wordC y z ≤ 0 := by unfold orI at h2; split at h2 <;> omega
          have z := wordC_to.le x y z trivial trivial trivial k1 k2
          unfold orI at *
          split
          · rename_i h
            rw [if_pos (z.2 h).1] at h1
            rw [if_pos (z.2 h).2] at h2
            exact h3 h1 h2
          · omega
theorem pre_to : TO (fun _ : List B => True) (fun x y => orI (flagC x y) (wordsC x y)) := by
  refine TO.or (fun a b => ?_) (fun a b _ _ => ?_) (fun a b d _ _ _ => ?_) wordsC_to.tri (fun a b _ _ _ => wordsC_to.sym a b trivial trivial) (fun a b _ _ => ?_) (fun a b d _ _ _ _ _ => wordsC_to.tr a b d trivial trivial trivial)
  · unfold flagC; repeat' split
    all_goals omega
  · unfold flagC; repeat' split
    all_goals omega
  · unfold flagC; repeat' split
    all_goals omega
  · rw [wordsC_to.eq _ _ trivial trivial]
    exact ⟨fun h => h.2, fun h => by subst h; refine ⟨?_, rfl⟩; unfold flagC; split <;> rfl⟩
theorem verC_to : TO (fun _ : VP => True) verC :=
  TO.keys (fun x : VP => x.1) (fun x : VP => x.2) numC_to
    (TO.keys (P := fun _ => True) (fun x : B × B × List B => x.1) (fun x => x.2) numC_to
      (TO.keys (P := fun _ => True) (fun x : B × List B => x.1) (fun x => x.2) numC_to pre_to (fun _ _ => trivial) (fun _ _ => trivial) (fun a b h1 h2 => Prod.ext h1 h2))
      (fun _ _ => trivial) (fun _ _ => trivial) (fun a b h1 h2 => Prod.ext h1 h2))
    (fun _ _ => trivial) (fun _ _ => trivial) (fun a b h1 h2 => Prod.ext h1 h2)
theorem preC_eq (x y : List B) : preC x y = orI (flagC x y) (wordsC x y) := by
  unfold preC flagC orI
  cases x <;> cases y <;> simp [wordsC, cmpN]
end Gw

set_option linter.unusedVariables false
namespace Gw
def glueS (sep : Nat) : List B → B
  | [] => []
  | [p] => p
  | p :: q :: r => p ++ sep :: glueS sep (q :: r)
theorem glue_parts (sep : Nat) : ∀ s, glueS sep (parts sep s) = s
  | [] => rfl
  | c :: r => by
    have ih := glue_parts sep r
    obtain ⟨p, ps, hp⟩ := parts_cons sep r
    by_cases h : c = sep
    · subst h
      rw [parts_sep, hp]
      rw [hp] at ih
      simp [glueS, ih]
    · rw [parts_other h hp]
      rw [hp] at ih
      cases ps with
      | nil => simp [glueS] at ih ⊢; exact ih
      | cons q qs => simp [glueS] at ih ⊢; exact ih
theorem parts_inj {sep : Nat} {s t : B} (h : parts sep s = parts sep t) : s = t := by rw [← glue_parts sep s, h, glue_parts]
theorem cut_back : ∀ s, s = (cutDash s).1 ++ (match (cutDash s).2 with | none => [] | some r => 45 :: r)
  | [] => rfl
  | c :: r => by
    have ih := cut_back r
    unfold cutDash
    split
    · rename_i h; subst h; simp
    · show c :: r = (c :: (cutDash r).1) ++ _
      rw [List.cons_append]
      exact congrArg (List.cons c) ih
theorem vcore_inj {c c' : B} {p p' : Option B} {v : VP} (h : vcore c p = some v) (h' : vcore c' p' = some v) : c = c' ∧ p = p' := by
  have key : ∀ {c : B} {p : Option B}, vcore c p = some v → parts 46 c = [v.1, v.2.1, v.2.2.1] ∧ (match p with | none => v.2.2.2 = [] | some r => v.2.2.2 = parts 46 r) := by
    intro c p h
    unfold vcore at h
    split at h
    · rename_i a b d hp
      split at h
      · unfold vpre at h
        split at h
        · injection h with h
          subst h
          exact ⟨hp, rfl⟩
        · split at h
          · injection h with h
            subst h
            exact ⟨hp, rfl⟩
          · cases h
      · cases h
    · cases h
  obtain ⟨h1, h2⟩ := key h
  obtain ⟨h3, h4⟩ := key h'
  refine ⟨parts_inj (h1.trans h3.symm), ?_⟩
  cases p with
  | none =>
    cases p' with
    | none => rfl
    | some r => exact absurd (h4.symm.trans h2) (parts_ne _ _)
  | some r =>
    cases p' with
    | none => exact absurd (h2.symm.trans h4) (parts_ne _ _)
    | some r' => rw [parts_inj (h2.symm.trans h4)]
theorem vparts_inj {s t : B} {v : VP} (h : vparts s = some v) (h' : vparts t = some v) : s = t := by
  unfold vparts at h h'
  split at h
  · split at h'
    · rename_i r _ r'
      obtain ⟨h1, h2⟩ := vcore_inj h h'
      have e1 := cut_back r
      have e2 := cut_back r'
      rw [h1, h2] at e1
      rw [e1.trans e2.symm]
    · cases h'
  · cases h
/-- A version's parts; of what is none some that is none of any. -/
def vOf (s : B) : VP := (vparts s).getD ([], [], [], [])
/-- A node as texts: its path, its version. -/
abbrev NP := B × B
def isNode (n : NP) : Bool := isPath n.1 && isVersion n.2
def nodC (a b : NP) : Int := orI (lexC a.1 b.1) (verC (vOf a.2) (vOf b.2))
theorem vOf_inj {s t : B} (hs : isVersion s = true) (ht : isVersion t = true) (h : vOf s = vOf t) : s = t := by
  rw [← vparts_some] at hs ht
  obtain ⟨v, hv⟩ := Option.isSome_iff_exists.1 hs
  obtain ⟨u, hu⟩ := Option.isSome_iff_exists.1 ht
  unfold vOf at h
  rw [hv, hu] at h
  simp only [Option.getD_some] at h
  subst h
  exact vparts_inj hv hu
theorem nodC_to : TO (fun n : NP => isVersion n.2 = true) nodC := by
  refine TO.or (fun a b => lexC_tri _ _) (fun a b _ _ => lexC_sym _ _) (fun a b d _ _ _ => lexC_to.le _ _ _ trivial trivial trivial) (fun a b => verC_to.tri _ _) (fun a b _ _ _ => verC_to.sym _ _ trivial trivial) (fun a b ha hb => ?_) (fun a b d _ _ _ _ _ => verC_to.tr _ _ _ trivial trivial trivial)
  rw [lexC_eq, verC_to.eq _ _ trivial trivial]
  exact ⟨fun h => Prod.ext h.1 (vOf_inj ha hb h.2), fun h => by subst h; exact ⟨rfl, rfl⟩⟩
theorem nodC_self (a : NP) : nodC a a = 0 := by
  unfold nodC orI
  rw [(lexC_eq _ _).2 rfl, if_pos rfl, (verC_to.eq _ _ trivial trivial).2 rfl]
end Gw
