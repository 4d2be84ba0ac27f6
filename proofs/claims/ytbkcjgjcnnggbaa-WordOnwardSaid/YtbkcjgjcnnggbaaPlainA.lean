/- Plain words about texts as lists of octets (numbers below 256), and the automata of the three kinds of words. Nothing of Go stands in here. -/
set_option linter.unusedVariables false
namespace Gw
abbrev B := List Nat
def dig (c : Nat) : Bool := 48 ≤ c && c ≤ 57
def let_ (c : Nat) : Bool := (65 ≤ c && c ≤ 90) || (97 ≤ c && c ≤ 122)
/-- a letter, a digit, or one of - _ ~ -/
def inner (c : Nat) : Bool := dig c || let_ c || c == 45 || c == 95 || c == 126
def wch (c : Nat) : Bool := dig c || let_ c || c == 45
def tailc (c : Nat) : Bool := let_ c || c == 45
def parts (sep : Nat) : B → List B
  | [] => [[]]
  | c :: r => if c = sep then [] :: parts sep r else match parts sep r with
    | p :: ps => (c :: p) :: ps
    | [] => [[c]]
theorem parts_ne (sep : Nat) : ∀ s, parts sep s ≠ []
  | [] => by simp [parts]
  | c :: r => by
    unfold parts
    split
    · simp
    · split <;> simp
theorem parts_cons (sep : Nat) (s : B) : ∃ p ps, parts sep s = p :: ps := by
  cases h : parts sep s with
  | nil => exact absurd h (parts_ne sep s)
  | cons p ps => exact ⟨p, ps, rfl⟩
theorem parts_sep (sep : Nat) (r : B) : parts sep (sep :: r) = [] :: parts sep r := by simp [parts]
theorem parts_other {sep c : Nat} (h : c ≠ sep) {r p : B} {ps : List B} (hr : parts sep r = p :: ps) : parts sep (c :: r) = (c :: p) :: ps := by simp [parts, h, hr]
def isNum (s : B) : Bool := s.all dig && match s with | [] => false | c :: r => r.isEmpty || c != 48
def isElem (s : B) : Bool := match s with | [] => false | c :: r => c != 46 && (c :: r).getLast? != some 46 && (c :: r).all (fun c => inner c || c == 46)
def isPath (s : B) : Bool := (parts 47 s).all isElem
def isWord (s : B) : Bool := !s.isEmpty && s.all wch && (!s.all dig || isNum s)
/-- What is ahead of the first -, and what is behind it, if there is one. -/
def cutDash : B → B × Option B
  | [] => ([], none)
  | c :: r => if c = 45 then ([], some r) else ((c :: (cutDash r).1), (cutDash r).2)
def preOk : Option B → Bool
  | none => true
  | some r => (parts 46 r).all isWord
def coreOk (n : Nat) (core : B) : Bool := (parts 46 core).length == n && (parts 46 core).all isNum
def isVersion : B → Bool
  | 118 :: r => coreOk 3 (cutDash r).1 && preOk (cutDash r).2
  | _ => false
def isGo (s : B) : Bool := coreOk 2 s || coreOk 3 s
def isKind (k : Nat) (s : B) : Bool := if k = 0 then isPath s else if k = 1 then isVersion s else isGo s

/-! The automata. -/
structure St where
  moves : List (B × Nat)
  ends : Bool
  rest : B
def z : St := ⟨[], false, []⟩
def Bsome : B := [49, 50, 51, 52, 53, 54, 55, 56, 57]
def Bdigits : B := 48 :: Bsome
def Bletters : B := [97, 98, 99, 100, 101, 102, 103, 104, 105, 106, 107, 108, 109, 110, 111, 112, 113, 114, 115, 116, 117, 118, 119, 120, 121, 122, 65, 66, 67, 68, 69, 70, 71, 72, 73, 74, 75, 76, 77, 78, 79, 80, 81, 82, 83, 84, 85, 86, 87, 88, 89, 90]
def Binner : B := Bdigits ++ Bletters ++ [45, 95, 126]
def Btail : B := Bletters ++ [45]
def pathT : List St := [⟨[(Binner, 1)], false, [97]⟩, ⟨[(Binner, 1), ([46], 2), ([47], 0)], true, []⟩, ⟨[(Binner, 1), ([46], 2)], false, [97]⟩]
def versionT : List St := [
  ⟨[([118], 1)], false, [118, 48, 46, 48, 46, 48]⟩,
  ⟨[([48], 2), (Bsome, 3)], false, [48, 46, 48, 46, 48]⟩,
  ⟨[([46], 4)], false, [46, 48, 46, 48]⟩,
  ⟨[(Bdigits, 3), ([46], 4)], false, [46, 48, 46, 48]⟩,
  ⟨[([48], 5), (Bsome, 6)], false, [48, 46, 48]⟩,
  ⟨[([46], 7)], false, [46, 48]⟩,
  ⟨[(Bdigits, 6), ([46], 7)], false, [46, 48]⟩,
  ⟨[([48], 8), (Bsome, 9)], false, [48]⟩,
  ⟨[([45], 10)], true, []⟩,
  ⟨[(Bdigits, 9), ([45], 10)], true, []⟩,
  ⟨[([48], 11), (Bsome, 12), (Btail, 13)], false, [48]⟩,
  ⟨[(Bdigits, 14), (Btail, 13), ([46], 10)], true, []⟩,
  ⟨[(Bdigits, 12), (Btail, 13), ([46], 10)], true, []⟩,
  ⟨[(Bdigits ++ Btail, 13), ([46], 10)], true, []⟩,
  ⟨[(Bdigits, 14), (Btail, 13)], false, [97]⟩]
def goT : List St := [
  ⟨[([48], 1), (Bsome, 2)], false, [48, 46, 48]⟩,
  ⟨[([46], 3)], false, [46, 48]⟩,
  ⟨[(Bdigits, 2), ([46], 3)], false, [46, 48]⟩,
  ⟨[([48], 4), (Bsome, 5)], false, [48]⟩,
  ⟨[([46], 6)], true, []⟩,
  ⟨[(Bdigits, 5), ([46], 6)], true, []⟩,
  ⟨[([48], 7), (Bsome, 8)], false, [48]⟩,
  ⟨[], true, []⟩,
  ⟨[(Bdigits, 8)], true, []⟩]
def tab (k : Nat) : List St := if k = 0 then pathT else if k = 1 then versionT else if k = 2 then goT else []
def stepM (l : List (B × Nat)) (c : Nat) : Option Nat := match l with
  | [] => none
  | m :: r => if m.1.contains c then some m.2 else stepM r c
def at_ (k q : Nat) : St := (tab k).getD q z
def next (k q c : Nat) : Option Nat := stepM (at_ k q).moves c
/-- How much is read, and the state behind that. -/
def run (k q : Nat) : B → Nat × Nat
  | [] => (0, q)
  | c :: r => match next k q c with
    | none => (0, q)
    | some q' => ((run k q' r).1 + 1, (run k q' r).2)
def goes (k q : Nat) : B → Option Nat
  | [] => some q
  | c :: r => match next k q c with
    | none => none
    | some q' => goes k q' r
def acc (k q : Nat) (s : B) : Bool := match goes k q s with | none => false | some q' => (at_ k q').ends
def oct (s : B) : Prop := ∀ c ∈ s, c < 256

theorem path_next : ∀ q < 3, ∀ c < 256, next 0 q c = if inner c then some 1 else if c = 46 ∧ q ≠ 0 then some 2 else if c = 47 ∧ q = 1 then some 0 else none := by decide +kernel
end Gw
