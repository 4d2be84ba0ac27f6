/- Part 0 of this claim: several texts one behind the other: EvDef, EvRep, EvOpA. What each shows stands in its theorems; conditions: sizes of texts and lists, as the functions' definitions say. -/
import Derived.WalkKit
import Derived.Deep.MidRow
section
namespace Go.Ev
open Go
set_option linter.unusedVariables false
inductive PV where
 | s (x : Value)
 | tt
 | ff
 | sl (k z : Nat) (xs : List PV)
 | ag (cs : List PV)
 | tu (vs : List PV)
 | pt (t o : Nat)
 | rp (cs : List PV)
 | fr (n z : Nat)
 | vw (t v z lo hi : Nat)
 | el (t v z i o : Nat)
 | rw (v z : Nat) (xs : List PV)
 | xo (z : Nat) (xs : List PV)
 | nl (n : Nat)
 | cl (f : Nat) (cs : List PV)
 | any
 deriving Inhabited
def PV.cells : PV → List PV
 | .ag cs => cs
 | p => [p]
def PV.ro : PV → PV
 | .sl _ z xs => .sl 0 z xs
 | .tt => .s (.bool true)
 | .ff => .s (.bool false)
 | .cl _ _ => .any
 | .vw .. => .any
 | .el .. => .any
 | p => p
def PV.isAny : PV → Bool | .any => true | _ => false
def PV.rc : PV → PV
 | .sl (_ + 2) z xs => .sl 0 z xs
 | .tt => .s (.bool true)
 | .ff => .s (.bool false)
 | p => p
def PV.isX : PV → Bool | .xo _ _ => true | .any => true | _ => false
def PV.nlx : PV → PV
 | .xo _ xs => .nl xs.length
 | .sl _ z xs => .sl 0 z xs
 | p => p
def noX (xs : List PV) : Prop := ∀ x ∈ xs, ∀ p ∈ x.cells, p.isX = false
def PV.withCells (x : PV) (cs : List PV) : PV :=
 match x with
 | .ag _ => .ag cs
 | _ => cs.headD .any
def PV.nb : PV → PV
 | .tt => .s (.bool true)
 | .ff => .s (.bool false)
 | p => p
def PV.flat : PV → List PV
 | .ag cs => cs.map PV.rc
 | p => [p.nb]
def PV.elem : PV → PV
 | .ag cs => .ag (cs.map PV.ro)
 | p => p.ro
abbrev St := Nat → PV
def lk : List (Nat × PV) → St
 | [], _ => .any
 | (k, p) :: r, l => bif Nat.beq l k then p else lk r l
inductive AM where
 | ret (ws : List (Nat × PV))
 | get (l : Nat) (k : PV → AM)
 | need (p : Prop) (k : AM)
 | opt (o : Option PV) (k : PV → AM)
 | optc (o : Option PV) (k : PV → AM)
 | all (S : PV → Prop) (k : PV → AM)
 | ite (b : Bool) (x y : AM)
 | call (f : FuncId) (args : List PV) (k : PV → AM)
 | bad
inductive TyK where
 | sc
 | str
 | bo
 | it (k : IntKind)
 | sl (e : Nat)
 | st (fs : List (Nat × Bool × Nat))
 | ar (n e : Nat)
structure TyI where
 k : TyK
 size : Nat
 bytes : Nat
 zero : List Value
structure Tab where
 l : List (Nat × TyI)
 x : List (Nat × Nat) := []
 fz : List Nat := []
 ov : List Nat := []
 fu : Bool := false
 fn : List Nat := []
def getL : List (Nat × TyI) → Nat → Option TyI
 | [], _ => none
 | (k, i) :: r, t => bif Nat.beq t k then some i else getL r t
def Tab.get (T : Tab) (t : Nat) : Option TyI := getL T.l t
def memN : List Nat → Nat → Bool
 | [], _ => false
 | k :: r, d => Nat.beq d k || memN r d
def getX : List (Nat × Nat) → Nat → Option Nat
 | [], _ => none
 | (k, z) :: r, d => bif Nat.beq d k then some z else getX r d
def Tab.isX (T : Tab) (d : Nat) : Bool := match getX T.x d with | some _ => true | none => false
def Tab.isXo (T : Tab) (d : Option Nat) : Bool := match d with | some d => T.isX d | none => false
def Tab.isStr (T : Tab) (t : Nat) : Bool := match T.get t with | some i => (match i.k with | .str => true | _ => false) | none => false
def Tab.isBo (T : Tab) (t : Nat) : Bool := match T.get t with | some i => (match i.k with | .bo => true | _ => false) | none => false
def Tab.isSl (T : Tab) (t : Nat) : Bool := match T.get t with | some i => (match i.k with | .sl _ => true | _ => false) | none => false
def TyI.agg (i : TyI) : Bool := match i.k with | .st _ => true | .ar _ _ => true | _ => false
def PV.force (p : PV) (K : PV → Prop) : Prop :=
 match p with
 | .s x => (match x with
  | .int k n => K (.s (.int k n))
  | .bool b => K (.s (.bool b))
  | .string q => K (.s (.string q))
  | x => K (.s x))
 | .tt => K .tt
 | .ff => K .ff
 | .sl k z xs => (match k with | 0 => K (.sl 0 z xs) | k + 1 => K (.sl (k + 1) z xs))
 | .ag cs => K (.ag cs)
 | .tu vs => K (.tu vs)
 | .pt t o => K (.pt t o)
 | .rp cs => K (.rp cs)
 | .fr n z => K (.fr n z)
 | .vw t v z lo hi => K (.vw t v z lo hi)
 | .el t v z i o => K (.el t v z i o)
 | .rw v z xs => K (.rw v z xs)
 | .xo z xs => K (.xo z xs)
 | .nl n => K (.nl n)
 | .cl f cs => K (.cl f cs)
 | .any => K .any
def forceL : List PV → (List PV → Prop) → Prop
 | [], K => K []
 | p :: r, K => p.force fun p => forceL r fun r => K (p :: r)
def PV.deep (p : PV) (K : PV → Prop) : Prop :=
 p.force fun p => match p with
 | .ag cs => forceL cs fun cs => K (.ag cs)
 | .tu cs => forceL cs fun cs => K (.tu cs)
 | .rp cs => forceL cs fun cs => K (.rp cs)
 | p => K p
def forceW : List (Nat × PV) → (List (Nat × PV) → Prop) → Prop
 | [], K => K []
 | (l, p) :: r, K => p.deep fun p => forceW r fun r => K ((l, p) :: r)
abbrev Orc := FuncId → List PV → PV → Prop
def AM.run (PC : Orc) (σ : St) : AM → (List Nat → List (Nat × PV) → Prop) → Prop
 | .ret ws, K => forceW ws fun ws => K [] ws
 | .get l k, K => (σ l).force fun p => (k p).run PC σ (fun R ws => K (l :: R) ws)
 | .need p k, K => p ∧ k.run PC σ K
 | .opt o k, K => ∃ p, o = some p ∧ (k p).run PC σ K
 | .optc o k, K => match o with | some p => (k p).run PC σ K | none => False
 | .all S k, K => ∀ p, S p → (k p).run PC σ K
 | .ite b x y, K => (b = true → x.run PC σ K) ∧ (b = false → y.run PC σ K)
 | .call f args k, K => ∃ r, PC f args r ∧ (k r).run PC σ K
 | .bad, _ => False
def cellPV (v : Value) : PV := match v with | .slice none 0 0 => .sl 1 0 [] | v => .s v
def constPV (v : Value) : PV := match v with | .slice none 0 0 => .sl 1 0 [] | .agg cs => bif cs.toList.all (·.oneCell') then .ag (cs.toList.map cellPV) else .s (.agg cs) | .bool true => .tt | .bool false => .ff | v => .s v
def evO (x : Operand) (k : PV → AM) : AM :=
 match x with
 | .tmp t => .get (3 * t) k
 | .const v => k (constPV v)
 | .func f => k (.s (.func (.func f) #[] #[]))
 | .global _ => .bad
def evOs : List Operand → (List PV → AM) → AM
 | [], k => k []
 | x :: r, k => evO x fun p => evOs r fun ps => k (p :: ps)
def idx (xs : List PV) (i : Int) : Option PV := if 0 ≤ i then xs[i.toNat]? else none
def strIdx (s : ByteArray) (i : Int) : Option PV := if 0 ≤ i then (s[i.toNat]?).map (fun b => .s (.int .u8 b.toNat)) else none
def splice (cs : List PV) (o : Nat) (ds : List PV) : List PV := cs.take o ++ ds ++ cs.drop (o + ds.length)
def asgn (dst : Option Tmp) (p : PV) : List (Nat × PV) := match dst with | some d => [(3 * d, p)] | none => []
def put (dst : Option Tmp) (p : PV) : AM := .ret (asgn dst p)
def cellsEq : List PV → List PV → Option Bool
 | [], [] => some true
 | .s (.string a) :: r, .s (.string b) :: q => (cellsEq r q).map (fun c => (a.toList == b.toList) && c)
 | .s (.int _ a) :: r, .s (.int _ b) :: q => (cellsEq r q).map (fun c => (a == b) && c)
 | .s (.bool a) :: r, .s (.bool b) :: q => (cellsEq r q).map (fun c => (a == b) && c)
 | _, _ => none
def kindsP : List Value → List PV → Bool
 | [], [] => true
 | .string _ :: r, .s (.string _) :: q => kindsP r q
 | .int k _ :: r, .s (.int k' _) :: q => (match decEq k k' with | .isTrue _ => true | .isFalse _ => false) && kindsP r q
 | .bool _ :: r, .s (.bool _) :: q => kindsP r q
 | _, _ => false
def EqT (P : Program) (zero : List Value) (t : TypeId) : Prop := ∀ (w : World) (xs ys : Array Value) (b : Bool), kindsP zero (xs.toList.map PV.s) = true → kindsP zero (ys.toList.map PV.s) = true → cellsEq (xs.toList.map PV.s) (ys.toList.map PV.s) = some b →
 (Op.equal t (.agg xs) (.agg ys)).run P w = .ok b w ∧ ∀ x y, (eqGuard .eql t x y (.agg xs) (.agg ys)).run P w = .ok () w ∧ (eqGuard .neq t x y (.agg xs) (.agg ys)).run P w = .ok () w
def bopI (dst : Option Tmp) (op : BinOp) (k : IntKind) (x y : Int) : AM :=
 match op with
 | .add => put dst (.s (.int k (k.wrap (x + y))))
 | .sub => put dst (.s (.int k (k.wrap (x - y))))
 | .mul => put dst (.s (.int k (k.wrap (x * y))))
 | .quo => .need (y ≠ 0) (put dst (.s (.int k (k.wrap (x.tdiv y)))))
 | .rem => .need (y ≠ 0) (put dst (.s (.int k (x.tmod y))))
 | .eql => put dst (.s (.bool (x == y)))
 | .neq => put dst (.s (.bool (x != y)))
 | .lss => put dst (.s (.bool (decide (x < y))))
 | .leq => put dst (.s (.bool (decide (x ≤ y))))
 | .gtr => put dst (.s (.bool (decide (x > y))))
 | .geq => put dst (.s (.bool (decide (x ≥ y))))
 | .shr => .need (0 ≤ y) (put dst (.s (.int k (x.fdiv (2 ^ (min y.toNat k.bits))))))
 | .shl => .need (0 ≤ y) (put dst (.s (.int k (k.wrap (x * 2 ^ (min y.toNat k.bits))))))
 | _ => .bad
def bopS (dst : Option Tmp) (op : BinOp) (x y : ByteArray) : AM :=
 match op with
 | .add => .need (((x.size + y.size : Nat) : Int) ≤ IntKind.i64.max) (put dst (.s (.string (x ++ y))))
 | .eql => put dst (.s (.bool (x.toList == y.toList)))
 | .neq => put dst (.s (.bool (!(x.toList == y.toList))))
 | .lss => put dst (.s (.bool (Op.bytesLess x.toList y.toList)))
 | .leq => put dst (.s (.bool (Op.bytesLess x.toList y.toList || x.toList == y.toList)))
 | .gtr => put dst (.s (.bool (!(Op.bytesLess x.toList y.toList || x.toList == y.toList))))
 | .geq => put dst (.s (.bool (!Op.bytesLess x.toList y.toList)))
 | _ => .bad
def isSh : BinOp → Bool | .shr => true | .shl => true | _ => false
def bopA (P : Program) (T : Tab) (dst : Option Tmp) (op : BinOp) (t : TypeId) (p q : PV) : AM :=
 match p, q with
 | .s (.int k x), .s (.int k' y) => bif isSh op then bopI dst op k x y else match decEq k k' with | .isTrue _ => bopI dst op k x y | .isFalse _ => .bad
 | .s (.string x), .s (.string y) => bopS dst op x y
 | .s (.bool x), .s (.bool y) =>
  match op with
  | .eql => bif T.isBo t then put dst (.s (.bool (x == y))) else .bad
  | .neq => bif T.isBo t then put dst (.s (.bool (!(x == y)))) else .bad
  | _ => .bad
 | .ag ps, .ag qs => match T.get t with
  | some i => bif kindsP i.zero ps && kindsP i.zero qs then (match op, cellsEq ps qs with
   | .eql, some b => .need (EqT P i.zero t) (put dst (.s (.bool b)))
   | .neq, some b => .need (EqT P i.zero t) (put dst (.s (.bool (!b))))
   | _, _ => .bad) else .bad
  | none => .bad
 | _, _ => .bad
def PV.dem : PV → PV
 | .sl (_ + 2) z xs => .sl 0 z xs
 | p => p
def PV.demR : PV → PV
 | .tu ps => .tu (ps.map PV.dem)
 | p => p
def retok (d : Nat) (p : PV) : List (Nat × PV) :=
 match p with
 | .sl (z + 2) z' xs => [(3 * d, .sl (d + 2) z' xs), (3 * d + 2, .fr xs.length z)]
 | .tu (.sl (z + 2) z' xs :: r) => [(3 * d, .tu (.sl (d + 2) z' xs :: r.map PV.dem)), (3 * d + 2, .fr xs.length z)]
 | p => [(3 * d, p)]
def retoX (d : Nat) (p : PV) : List (Nat × PV) :=
 match p with
 | .xo z xs => [(3 * d + 1, .rw 0 z xs), (3 * d, .vw d 0 z 0 xs.length)]
 | .tu (.xo z xs :: r) => [(3 * d + 1, .rw 0 z xs), (3 * d, .tu (.vw d 0 z 0 xs.length :: r.map PV.dem))]
 | p => [(3 * d, p)]
def wantsTok (p : PV) : Bool := match p with | .sl (_ + 2) _ _ => true | .tu (.sl (_ + 2) _ _ :: _) => true | _ => false
def wantsX (p : PV) : Bool := match p with | .xo _ _ => true | .tu (.xo _ _ :: _) => true | _ => false
def resA (dst : Option Tmp) (r : PV) : AM :=
 match dst with
 | some d => bif wantsX r then .get (3 * d + 1) fun x => match x with | .any => .ret (retoX d r) | _ => .bad else bif wantsTok r then .get (3 * d + 2) fun x => match x with | .any => .ret (retok d r) | _ => .bad else .ret [(3 * d, r.demR)]
 | none => .ret []
def argOk : PV → Bool | .s _ => true | .tt => true | .ff => true | .sl .. => true | .ag _ => true | .nl _ => true | .rp _ => true | _ => false
def curRw (t v z : Nat) (k : List PV → AM) : AM := .get (3 * t + 1) fun y => match y with | .rw v' z' xs => bif Nat.beq v v' && Nat.beq z z' then k xs else .bad | _ => .bad
def capsA : List PV → (List PV → AM) → AM
 | [], k => k []
 | p :: r, k => match p with
  | .pt t o => .get (3 * t + 1) fun y => match y with | .ag cs => capsA r fun ps => k (.rp ((cs.drop o).map PV.ro) :: ps) | _ => .bad
  | p => bif argOk p then capsA r fun ps => k (p.ro :: ps) else .bad
def argsA (giv : Bool) : List PV → List Nat → (List PV → List (Nat × PV) → Bool → AM) → AM
 | [], _, k => k [] [] false
 | p :: r, us, k => match p with
  | .vw t v z lo hi => curRw t v z fun xs => bif giv then
   (bif Nat.beq lo 0 && !(memN us t) then .opt (some (.xo z (xs.take hi))) fun q => match q with
    | .xo _ ys => .need (noX ys) (argsA giv r (t :: us) fun ps ws rd => k (.xo z ys :: ps) ((3 * t + 1, .s undef) :: ws) rd)
    | _ => .bad else .bad)
   else .opt (some (.sl 0 z ((xs.take hi).drop lo))) fun q => match q with
    | .sl _ _ ys => .need (noX ys) (argsA giv r us fun ps ws rd => k (.sl 0 z ys :: ps) ws true)
    | _ => .bad
  | .cl f cs => capsA cs fun cs' => argsA giv r us fun ps ws rd => k (.cl f cs' :: ps) ws true
  | .pt t o => .get (3 * t + 1) fun y => match y with | .ag cs => argsA giv r us fun ps ws rd => k (.rp ((cs.drop o).map PV.ro) :: ps) ws true | _ => .bad
  | p => bif argOk p then argsA giv r us fun ps ws rd => k (p.ro :: ps) ws rd else .bad
def scal1 : PV → Bool | .s _ => true | .tt => true | .ff => true | .nl _ => true | _ => false
def scal : PV → Bool | .tu ps => ps.all scal1 | p => scal1 p
def okRd (r : PV) : Prop :=
 match r with
 | .xo _ xs => ∀ x ∈ xs, ∀ p ∈ x.cells, scal1 p = true
 | .tu (.xo _ xs :: ps) => (∀ x ∈ xs, ∀ p ∈ x.cells, scal1 p = true) ∧ ps.all scal1 = true
 | _ => False
def AM.pre (ws : List (Nat × PV)) : AM → AM
 | .ret ws' => .ret (ws' ++ ws)
 | .get l k => .get l fun p => (k p).pre ws
 | .need p k => .need p (k.pre ws)
 | .opt o k => .opt o fun p => (k p).pre ws
 | .optc o k => .optc o fun p => (k p).pre ws
 | .all S k => .all S fun p => (k p).pre ws
 | .ite b x y => .ite b (x.pre ws) (y.pre ws)
 | .call f args k => .call f args fun p => (k p).pre ws
 | .bad => .bad
def callA (T : Tab) (dst : Option Tmp) (f : FuncId) (args : List PV) : AM := argsA (T.isXo dst) args [] fun ps ws rd => .call f ps fun r => bif rd && !(scal r) then .need (okRd r) ((resA dst r).pre ws) else (resA dst r).pre ws
def cutL (lim : Option Nat) (ys : List PV) : List PV := match lim with | some n => ys.take n | none => ys
def srcA (z : Nat) (lim : Option Nat) (x : PV) (k : List PV → AM) : AM :=
 match x with
 | .sl _ z' ys => bif Nat.beq z' z || ys.isEmpty then k (cutL lim ys) else .bad
 | .vw t v z' lo hi => bif Nat.beq z' z then curRw t v z fun xs => .opt (some (.sl 0 z (cutL lim ((xs.take hi).drop lo)))) fun q => match q with | .sl _ _ ys => .need (noX ys) (k ys) | _ => .bad else .bad
 | _ => .bad
def appX (i : TyI) (d t v hi : Nat) (xs ys : List PV) : AM :=
 .need (hi + ys.length ≤ maxLen ∧ (hi + ys.length) * i.bytes ≤ 140737488355328)
  (.opt (some (.rw (v + 2) i.size (xs.take hi ++ ys ++ xs.drop (hi + ys.length)))) fun q => .ret [(3 * t + 1, q), (3 * d, .vw t (v + 2) i.size 0 (hi + ys.length))])
def appF (T : Tab) (i : TyI) (d t v hi : Nat) (xs ys : List PV) : AM :=
 .need (hi + ys.length ≤ maxLen ∧ (hi + ys.length) * i.bytes ≤ 140737488355328)
  (.ite (Nat.ble (hi + ys.length) xs.length)
   (.opt (some (.rw (v + 2) i.size (xs.take hi ++ ys ++ xs.drop (hi + ys.length)))) fun q => .ret [(3 * t + 1, q), (3 * d, .vw t (v + 2) i.size 0 (hi + ys.length))])
   (bif T.isX d then .get (3 * d + 1) fun y => match y with
    | .any => .need (noX (xs.take hi)) (.opt (some (.rw 0 i.size (xs.take hi ++ ys))) fun q => .ret [(3 * d + 1, q), (3 * d, .vw d 0 i.size 0 (hi + ys.length))])
    | _ => .bad
   else .bad))
def appXF (T : Tab) (i : TyI) (d t v hi : Nat) (xs ys : List PV) : AM := bif Nat.beq (v % 2) 0 then appX i d t v hi xs ys else appF T i d t v hi xs ys
def appA (T : Tab) (dst : Option Tmp) (t : TypeId) (s x : PV) : AM :=
 match T.get t with
 | some ⟨.sl e, _, _, _⟩ =>
  match T.get e, s, x, dst with
  | some i, .vw tk v z lo hi, x, some d => bif Nat.beq z i.size && Nat.beq lo 0 && Nat.blt 0 i.size then curRw tk v z fun xs => srcA i.size none x fun ys => appXF T i d tk v hi xs ys else .bad
  | some i, .sl k z xs, .sl _ z' ys, some d =>
   bif (Nat.beq z i.size || xs.isEmpty) && (Nat.beq z' i.size || ys.isEmpty) && Nat.blt 0 i.size then
    .need (xs.length + ys.length ≤ maxLen ∧ (xs.length + ys.length) * i.bytes ≤ 140737488355328)
     (match k with
     | 0 => .bad
     | 1 => bif T.isX d then .get (3 * d + 1) fun y => match y with
         | .any => .need (xs = [] ∨ ys ≠ []) (.opt (some (.rw 0 i.size (xs ++ ys))) fun q => .ret [(3 * d + 1, q), (3 * d, .vw d 0 i.size 0 (xs.length + ys.length))])
         | _ => .bad
      else .get (3 * d + 2) fun y => match y with
      | .any => .ret [(3 * d, .sl (d + 2) i.size (xs ++ ys)), (3 * d + 2, .fr (xs ++ ys).length i.size)]
      | _ => .bad
     | j + 2 => .get (3 * j + 2) fun y => match y with
      | .fr n z'' => bif Nat.beq z'' i.size then .need (n = xs.length) (.ret [(3 * d, .sl (j + 2) i.size (xs ++ ys)), (3 * j + 2, .fr (xs ++ ys).length i.size)]) else .bad
      | _ => .bad)
   else .bad
  | _, _, _, _ => .bad
 | _ => .bad
def cellable : PV → Bool | .s (.agg _) => false | .s (.tuple _) => false | .s _ => true | .sl .. => true | .tt => true | .ff => true | .nl _ => true | _ => false
def PV.fzC (p : PV) : PV := match p with | .xo z ys => .sl 0 z ys | .sl 1 z ys => .sl 0 z ys | p => p
def PV.fzE (x : PV) : PV := match x with | .ag cs => .ag (cs.map PV.fzC) | p => p.fzC
def okFi (xs : List PV) : Prop := ∀ x ∈ xs, ∀ p ∈ x.cells, match p with | .xo _ ys => ∀ y ∈ ys, ∀ p ∈ y.cells, p ≠ .any | _ => True
def movA (T : Tab) (dst : Option Tmp) (p : PV) : AM :=
 match dst with
 | none => .ret []
 | some d =>
  match p with
  | .vw t v z lo hi => bif memN T.fz d then curRw t v z fun xs => .opt (some (.sl 0 z ((xs.take hi).drop lo))) fun q => match q with
   | .sl _ _ ys => .need (noX ys) (.ret [(3 * t + 1, .s undef), (3 * d, .sl 0 z ys)])
   | _ => .bad else bif memN T.fn d then curRw t v z fun xs => .opt (some (.rw v z (xs.map PV.fzE))) fun q => .need (okFi xs) (.ret [(3 * t + 1, q), (3 * d, p)]) else .ret [(3 * d, p)]
  | .sl 1 _ xs => match getX T.x d with
   | some z => bif xs.isEmpty && Nat.blt 0 z then .get (3 * d + 1) fun y => match y with
    | .any => .ret [(3 * d + 1, .rw 0 z []), (3 * d, .vw d 0 z 0 0)]
    | _ => .ret [(3 * d, p)]
    else .bad
   | none => .ret [(3 * d, p)]
  | p => .ret [(3 * d, p)]
def loadC (T : Tab) (dst : Option Tmp) (t v z ix off : Nat) (xs : List PV) (x c : PV) : AM :=
 match c with
 | .xo z' ys => match dst with
  | some d => bif T.isX d then .get (3 * d + 1) fun y => match y with
   | .any => .opt (some (.rw v z (xs.set ix (x.withCells (splice x.cells off [.any]))))) fun q => .ret [(3 * t + 1, q), (3 * d + 1, .rw 0 z' ys), (3 * d, .vw d 0 z' 0 ys.length)]
   | _ => .bad
   else .ret [(3 * d, .nl ys.length)]
  | none => .bad
 | c => put dst c.rc
def loadX (T : Tab) (i : TyI) (dst : Option Tmp) (t v z ix off : Nat) : AM :=
 curRw t v z fun xs => .opt xs[ix]? fun x =>
  bif i.agg then (bif Nat.ble (off + i.size) x.cells.length && ((x.cells.drop off).take i.size).all (fun p => !p.isAny) then put dst (.ag (((x.cells.drop off).take i.size).map PV.nlx)) else .bad)
  else .optc x.cells[off]? fun c => loadC T dst t v z ix off xs x c
def storeP (i : TyI) (t v z ix off : Nat) (xs : List PV) (x q : PV) : AM :=
 bif Nat.beq q.cells.length i.size && Nat.ble (off + i.size) x.cells.length && q.cells.all cellable then
  .opt (some (.rw v z (xs.set ix (x.withCells (splice x.cells off (q.cells.map PV.rc)))))) fun q => .ret [(3 * t + 1, q)] else .bad
def storeC (i : TyI) (t v z ix off : Nat) (xs : List PV) (x q : PV) : AM :=
 match q with
 | .vw t2 v2 z2 lo hi => bif Nat.beq lo 0 && Nat.beq i.size 1 && Nat.ble (off + 1) x.cells.length && !(Nat.beq t2 t) && !i.agg then
  curRw t2 v2 z2 fun ys => .opt (some (.xo z2 (ys.take hi))) fun p => match p with
   | .xo _ ys' => .need (noX ys') (.opt (some (.rw v z (xs.set ix (x.withCells (splice x.cells off [.xo z2 ys']))))) fun q => .ret [(3 * t2 + 1, .s undef), (3 * t + 1, q)])
   | _ => .bad else .bad
 | q => storeP i t v z ix off xs x q
def storeX (i : TyI) (t v z ix off : Nat) (q : PV) : AM := curRw t v z fun xs => .opt xs[ix]? fun x => storeC i t v z ix off xs x q
def lenV (lo hi : Nat) : Nat := bif Nat.beq lo 0 then hi else hi - lo
def spliceE (xs : List PV) (k : Nat) (ys : List PV) : List PV := xs.take k ++ ys ++ xs.drop (k + ys.length)
def copyA (T : Tab) (dst : Option Tmp) (t : TypeId) (s x : PV) : AM :=
 match T.get t, s with
 | some ⟨.sl e, _, _, _⟩, .vw tk v z lo hi => match T.get e with
  | some i => bif Nat.beq z i.size then curRw tk v z fun xs => srcA z (some (lenV lo hi)) x fun ys => .opt (some (.rw v z (spliceE xs lo ys))) fun q =>
   .ret ((3 * tk + 1, q) :: asgn dst (.s (.int .i64 ys.length))) else .bad
  | none => .bad
 | _, _ => .bad
def zeroE (i : TyI) : PV := bif i.agg then .ag (i.zero.map cellPV) else (i.zero.map cellPV).headD .any
def clearA (T : Tab) (dst : Option Tmp) (t : TypeId) (s : PV) : AM :=
 match T.get t, s, dst with
 | some ⟨.sl e, _, _, _⟩, .vw tk v z lo hi, none => match T.get e with
  | some i => bif Nat.beq z i.size && Nat.beq (zeroE i).cells.length i.size then curRw tk v z fun xs => .need (hi ≤ xs.length) (.opt (some (.rw v z (spliceE xs lo (List.replicate (lenV lo hi) (zeroE i))))) fun q => .ret [(3 * tk + 1, q)]) else .bad
  | none => .bad
 | _, _, _ => .bad
def capA (dst : Option Tmp) (s : PV) : AM :=
 match s, dst with
 | .vw tk v z lo hi, some d => curRw tk v z fun xs => bif Nat.beq (v % 2) 0 then .all (fun p => ∃ J : List PV, p = .rw v z J ∧ ∀ y ∈ J, y.cells = List.replicate z .any) fun p => match p with
  | .rw _ _ J => .ret [(3 * tk + 1, .rw v z (xs ++ J)), (3 * d, .s (.int .i64 ((xs.length + J.length - lo : Nat) : Int)))]
  | _ => .bad
  else .ret [(3 * d, .s (.int .i64 ((xs.length - lo : Nat) : Int)))]
 | _, _ => .bad
def makeA (T : Tab) (dst : Option Tmp) (t : TypeId) (n c : PV) : AM :=
 match T.get t, n, c, dst with
 | some ⟨.sl e, _, _, _⟩, .s (.int _ n), .s (.int _ c), some d => match T.get e with
  | some i => bif Nat.blt 0 i.size && Nat.beq (zeroE i).cells.length i.size then .get (3 * d + 1) fun y => match y with
   | .any => .need (0 ≤ n ∧ n ≤ c ∧ c ≤ 9223372036854775807 ∧ (i.bytes : Int) * c ≤ 281474976710656) (.opt (some (.rw 0 i.size (List.replicate c.toNat (zeroE i)))) fun q => .ret [(3 * d + 1, q), (3 * d, .vw d 0 i.size 0 n.toNat)])
   | _ => .bad
   else .bad
  | none => .bad
 | _, _, _, _ => .bad
def appZ (T : Tab) (dst : Option Tmp) (t : TypeId) (s : PV) (m : Int) : AM :=
 match T.get t, s, dst with
 | some ⟨.sl e, _, _, _⟩, .vw tk v z lo hi, some d => match T.get e with
  | some i => bif Nat.beq z i.size && Nat.beq lo 0 && Nat.beq (zeroE i).cells.length i.size then curRw tk v z fun xs => .need (0 ≤ m ∧ m ≤ 9223372036854775807) (appXF T i d tk v hi xs (List.replicate m.toNat (zeroE i))) else .bad
  | none => .bad
 | _, _, _ => .bad
def fillP (f : PV → PV) (fs : List (Nat × Bool × Nat)) : List PV → List (Nat × PV) → Option (List PV)
 | cs, [] => some cs
 | cs, (i, v) :: r =>
  match fs[i]? with
  | some (o, _, n) => bif Nat.beq v.cells.length n && Nat.ble (o + n) cs.length && v.cells.all cellable then fillP f fs (splice cs o (v.cells.map f)) r else none
  | none => none
def PV.capV (p : PV) : PV := match p with | .pt t o => .pt t o | p => bif argOk p then p.ro else .any
def capOk (p : PV) : Bool := match p with | .pt .. => true | p => argOk p
def OvOk (P : Program) (f : FuncId) : Prop := ∃ fn tS tR e ti, P.funcs[f]? = some fn ∧ (fn.name == "runtime.NumGoroutine") = false ∧ fn.body.isNone = true ∧ Extern.findNext fn = none ∧ Extern.find fn = some (Extern.SlicesOverlaps.overlaps #[tS, tS] #[tR]) ∧ P.underlying tS = some (.slice e) ∧ P.info? e = some ti
def isOv (T : Tab) : Operand → Bool | .func g => memN T.ov g | _ => false
def ovA (dst : Option Tmp) (ps : List PV) : AM :=
 match ps with
 | [.vw t v z _ _, .vw t' v' z' _ _] => bif Nat.beq t t' then .bad else curRw t v z fun _ => curRw t' v' z' fun _ => put dst (.s (.bool false))
 | _ => .bad
def opA (P : Program) (T : Tab) (o : Oper) : AM :=
 match o.op with
 | .move x | .assign x => evO x fun p => movA T o.dst p
 | .pick c x y => evO c fun b => match b with
  | .s (.bool b) => .ite b (evO x fun p => put o.dst p) (evO y fun p => put o.dst p)
  | .tt => evO x fun p => put o.dst p
  | .ff => evO y fun p => put o.dst p
  | _ => .bad
 | .alloc t => match T.get t, o.dst with
  | some i, some d => .get (3 * d + 1) fun x => match x with
   | .any => .ret [(3 * d + 1, .ag (i.zero.map cellPV)), (3 * d, .pt d 0)]
   | _ => .bad
  | _, _ => .bad
 | .box t x => evO x fun p => match o.dst with
  | some d => bif p.cells.all cellable then .get (3 * d + 1) fun y => match y with
   | .any => .ret [(3 * d + 1, .ag p.flat), (3 * d, .pt d 0)]
   | _ => .bad
   else .bad
  | _ => .bad
 | .load t x => evO x fun p => match T.get t, p with
  | some i, .pt b k => .get (3 * b + 1) fun y => match y with
   | .ag cs => bif i.agg then (bif Nat.ble (k + i.size) cs.length then put o.dst (.ag (((cs.drop k).take i.size).map PV.ro)) else .bad)
    else .optc (cs[k]?) (fun p => put o.dst p)
   | _ => .bad
  | some i, .rp cs => bif i.agg then (bif Nat.ble i.size cs.length then put o.dst (.ag (cs.take i.size)) else .bad) else .optc (cs[0]?) (fun p => put o.dst p.ro)
  | some i, .el tk v z ix off => loadX T i o.dst tk v z ix off
  | _, _ => .bad
 | .store t x v => evO x fun p => evO v fun q => match T.get t, p, o.dst with
  | some i, .pt b k, none => .get (3 * b + 1) fun y => match y with
   | .ag cs => bif Nat.beq q.cells.length i.size && Nat.ble (k + i.size) cs.length && q.cells.all cellable then .ret [(3 * b + 1, .ag (splice cs k q.flat))] else .bad
   | _ => .bad
  | some i, .el tk v z ix off, none => storeX i tk v z ix off q
  | _, _, _ => .bad
 | .fieldAddr t x f => evO x fun p => match T.get t, p with
  | some ⟨.st fs, _, _, _⟩, .pt b k => match fs[f]? with | some (off, _, _) => put o.dst (.pt b (k + off)) | none => .bad
  | some ⟨.st fs, _, _, _⟩, .rp cs => match fs[f]? with | some (off, _, _) => put o.dst (.rp (cs.drop off)) | none => .bad
  | some ⟨.st fs, _, _, _⟩, .el tk v z ix k => match fs[f]? with | some (off, _, _) => put o.dst (.el tk v z ix (k + off)) | none => .bad
  | _, _ => .bad
 | .field t x f => evO x fun p => match T.get t, p with
  | some ⟨.st fs, _, _, _⟩, .ag cs => match fs[f]? with
   | some (off, ag, n) => bif Nat.ble (off + n) cs.length then (bif ag then put o.dst (.ag ((cs.drop off).take n)) else .optc (cs[off]?) (fun p => put o.dst p.ro)) else .bad
   | none => .bad
  | _, _ => .bad
 | .indexAddr t x y => evO x fun p => evO y fun q => match T.get t, p, q with
  | some ⟨.sl e, _, _, _⟩, .sl _ z xs, .s (.int _ i) => match T.get e with
   | some ie => bif Nat.beq z ie.size then .opt (idx xs i) (fun v => put o.dst (.rp v.cells)) else .bad
   | none => .bad
  | some ⟨.sl e, _, _, _⟩, .vw tk v z lo hi, .s (.int _ i) => match T.get e with
   | some ie => bif Nat.beq z ie.size then .need (0 ≤ i ∧ i < (lenV lo hi : Nat)) (put o.dst (.el tk v z (lo + i.toNat) 0)) else .bad
   | none => .bad
  | _, _, _ => .bad
 | .index t x y => evO x fun p => evO y fun q => match p, q with
  | .s (.string s), .s (.int _ i) => bif T.isStr t then .opt (strIdx s i) (fun v => put o.dst v) else .bad
  | _, _ => .bad
 | .nilCheck x => evO x fun p => match p with
  | .pt .. => put o.dst p
  | .el .. => put o.dst p
  | .rp _ => put o.dst p
  | _ => .bad
 | .binOp op t x y _ => evO x fun p => evO y fun q => bopA P T o.dst op t p.nb q.nb
 | .unOp .not _ x => evO x fun p => match p with | .s (.bool b) => put o.dst (.s (.bool (!b))) | .tt => put o.dst .ff | .ff => put o.dst .tt | _ => .bad
 | .unOp .neg _ x => evO x fun p => match p with | .s (.int k n) => put o.dst (.s (.int k (k.wrap (0 - n)))) | _ => .bad
 | .convert a b x => evO x fun p => match p with
  | .s (.int k n) => match T.get b, T.get a with
   | some ⟨.it k', _, _, _⟩, some _ => put o.dst (.s (.int k' (k'.wrap n)))
   | _, _ => .bad
  | .s (.string q) => bif T.isStr a && T.isStr b then put o.dst (.s (.string q)) else .bad
  | _ => .bad
 | .slice t x lo hi mx => evO x fun p => match p with
  | .s (.string s) =>
   let go := fun (l h : Int) => bif T.isStr t then AM.need (0 ≤ l ∧ l ≤ h ∧ h ≤ s.size) (put o.dst (.s (.string (s.extract l.toNat h.toNat)))) else .bad
   match lo, hi, mx with
   | none, none, none => go 0 s.size
   | some a, none, none => evO a fun l => match l with | .s (.int _ l) => go l s.size | _ => .bad
   | none, some b, none => evO b fun h => match h with | .s (.int _ h) => go 0 h | _ => .bad
   | some a, some b, none => evO a fun l => evO b fun h => match l, h with | .s (.int _ l), .s (.int _ h) => go l h | _, _ => .bad
   | _, _, _ => .bad
  | .sl k z xs => match T.get t with
   | some ⟨.sl e, _, _, _⟩ => match T.get e with
    | some ie =>
     let go := fun (k : Nat) (l h : Int) => bif Nat.beq z ie.size then AM.need (0 ≤ l ∧ l ≤ h ∧ h ≤ xs.length) (put o.dst (.sl k z ((xs.take h.toNat).drop l.toNat))) else .bad
     match lo, hi, mx with
     | none, none, none => go 0 0 xs.length
     | some a, none, none => evO a fun l => match l with | .s (.int _ l) => go 0 l xs.length | _ => .bad
     | none, some b, none => evO b fun h => match h with | .s (.int _ h) => go 0 0 h | _ => .bad
     | some a, some b, none => evO a fun l => evO b fun h => match l, h with | .s (.int _ l), .s (.int _ h) => go 0 l h | _, _ => .bad
     | none, some b, some c => evO b fun h => evO c fun m => match h, m with | .s (.int _ h), .s (.int _ m) => AM.need (h = m) (go 1 0 h) | _, _ => .bad
     | _, _, _ => .bad
    | none => .bad
   | _ => .bad
  | .vw tk v z l0 h0 => match T.get t with
   | some ⟨.sl e, _, _, _⟩ => match T.get e with
    | some ie =>
     let go := fun (l h : Int) => bif Nat.beq z ie.size && Nat.blt 0 z then (bif T.isXo o.dst then curRw tk v z fun xs => AM.need (0 ≤ l ∧ l ≤ h ∧ h + l0 ≤ xs.length) (put o.dst (.vw tk v z (l0 + l.toNat) (l0 + h.toNat)))
      else AM.need (0 ≤ l ∧ l ≤ h ∧ h ≤ (lenV l0 h0 : Nat)) (put o.dst (.vw tk v z (l0 + l.toNat) (l0 + h.toNat)))) else .bad
     match lo, hi, mx with
     | some a, none, none => evO a fun l => match l with | .s (.int _ l) => go l (lenV l0 h0 : Nat) | _ => .bad
     | none, some b, none => evO b fun h => match h with | .s (.int _ h) => go 0 h | _ => .bad
     | some a, some b, none => evO a fun l => evO b fun h => match l, h with | .s (.int _ l), .s (.int _ h) => go l h | _, _ => .bad
     | some a, some b, some c => evO a fun l => evO b fun h => evO c fun m => match l, h, m with | .s (.int _ l), .s (.int _ h), .s (.int _ m) => AM.need (0 ≤ l ∧ l ≤ h ∧ h ≤ m ∧ m ≤ (lenV l0 h0 : Nat)) (put o.dst .any) | _, _, _ => .bad
     | _, _, _ => .bad
    | none => .bad
   | _ => .bad
  | _ => .bad
 | .build t ps => match T.get t with
  | some ⟨.st fs, n, _, zero⟩ => evOs (ps.toList.map (·.2)) fun vs => (.optc ((fillP (bif T.isXo o.dst then PV.rc else PV.ro) fs (zero.map cellPV) ((ps.toList.map (·.1)).zip vs)).map PV.ag) fun p => put o.dst p)
  | _ => .bad
 | .buildSlice t n ps => match T.get t with
  | some ⟨.sl e, _, _, _⟩ => match T.get e with
   | some ie => bif (ps.toList.map (·.1)) == List.range n && Nat.ble (n * ie.size) 16777216 then evOs (ps.toList.map (·.2)) fun vs => bif vs.all (fun v => Nat.beq v.cells.length ie.size && v.cells.all cellable) then (bif T.isXo o.dst then (match o.dst with
    | some d => .get (3 * d + 1) fun y => match y with
     | .any => bif Nat.blt 0 ie.size then .ret [(3 * d + 1, .rw 0 ie.size (vs.map fun p => p.withCells (p.cells.map PV.rc))), (3 * d, .vw d 0 ie.size 0 vs.length)] else .bad
     | _ => .bad
    | none => .bad) else put o.dst (.sl 1 ie.size (vs.map PV.elem))) else .bad else .bad
   | none => .bad
  | _ => .bad
 | .extract x i => evO x fun p => match p with | .tu vs => .optc (vs[i]?) (fun p => put o.dst (match p with | .tu _ => .any | p => p)) | _ => .bad
 | .makeFunc fn first captured => bif first.isEmpty && captured.isEmpty then put o.dst (.s (.func fn #[] #[])) else match fn with
  | .func f => bif first.isEmpty then evOs captured.toList fun ps => bif ps.all capOk then put o.dst (.cl f ps) else .bad else .bad
  | _ => .bad
 | .makeSlice t n c => evO n fun n => evO c fun c => makeA T o.dst t n c
 | .call c => match c.callee with
  | .builtin .len => match c.argTypes.toList with
   | [t] => evOs c.args.toList fun ps => match ps with
    | [.sl _ _ xs] => bif T.isSl t then put o.dst (.s (.int .i64 xs.length)) else .bad
    | [.s (.string q)] => bif T.isStr t then put o.dst (.s (.int .i64 q.size)) else .bad
    | [.vw _ _ _ lo hi] => bif T.isSl t then (bif Nat.beq lo 0 then put o.dst (.s (.int .i64 (hi : Nat))) else put o.dst (.s (.int .i64 ((hi - lo : Nat) : Int)))) else .bad
    | [.nl n] => bif T.isSl t then put o.dst (.s (.int .i64 n)) else .bad
    | _ => .bad
   | _ => .bad
  | .builtin .cap => match c.argTypes.toList, c.args.toList with
   | [t], [x] => bif T.isSl t then evO x fun p => capA o.dst p else .bad
   | _, _ => .bad
  | .builtin .copy => match c.argTypes.toList, c.args.toList with
   | [t, t'], [x, y] => bif Nat.beq t t' then evO x fun p => evO y fun q => copyA T o.dst t p q else .bad
   | _, _ => .bad
  | .builtin .clear => match c.argTypes.toList, c.args.toList with
   | [t], [x] => evO x fun p => clearA T o.dst t p
   | _, _ => .bad
  | .builtin .append => match c.argTypes.toList, c.args.toList with
   | [t, t'], [x, y] => bif Nat.beq t t' then evO x fun p => evO y fun q => appA T o.dst t p q else (match T.get t' with
    | some ⟨.it _, _, _, _⟩ => evO x fun p => evO y fun q => match q with | .s (.int _ m) => appZ T o.dst t p m | _ => .bad
    | _ => .bad)
   | _, _ => .bad
  | .value cf => evO cf fun p => evOs c.args.toList fun ps => match p with
   | .s (.func (.func f) u v) => bif Nat.beq u.size 0 && Nat.beq v.size 0 then (bif isOv T cf then .need (OvOk P f) (ovA o.dst ps) else callA T o.dst f ps) else .bad
   | .cl f cs => callA T o.dst f (ps ++ cs.map PV.capV)
   | _ => .bad
  | _ => .bad
 | _ => .bad
def AM.lit : AM → AM
 | .ret ws => match ws with
  | [(l, .s (.bool b))] => .ite b (.ret [(l, .tt)]) (.ret [(l, .ff)])
  | ws => .ret ws
 | .get l k => .get l fun p => (k p).lit
 | .need p k => .need p k.lit
 | .opt o k => .opt o fun p => (k p).lit
 | .optc o k => .optc o fun p => (k p).lit
 | .all S k => .all S fun p => (k p).lit
 | .ite b x y => .ite b x.lit y.lit
 | .call f args k => .call f args fun p => (k p).lit
 | .bad => .bad
def AM.noAll : AM → AM
 | .ret ws => .ret ws
 | .get l k => .get l fun p => (k p).noAll
 | .need p k => .need p k.noAll
 | .opt o k => .opt o fun p => (k p).noAll
 | .optc o k => .optc o fun p => (k p).noAll
 | .all _ _ => .bad
 | .ite b x y => .ite b x.noAll y.noAll
 | .call f args k => .call f args fun p => (k p).noAll
 | .bad => .bad
def isG (ops : Array Oper) (i : Nat) : Bool := ops.toList.any fun o => match o.guard with | some (g, _) => Nat.beq g i | none => false
def opG (P : Program) (T : Tab) (ops : Array Oper) (i : Nat) (o : Oper) : AM :=
 let m := bif isG ops i then (opA P T o).lit else opA P T o
 match o.guard with
 | none => m
 | some (g, want) => match (ops[g]?).bind (·.dst) with
  | some d => .get (3 * d) fun p => match p with
   | .tt => bif want then m else put o.dst (.s undef)
   | .ff => bif want then put o.dst (.s undef) else m
   | .s (.tuple _) => put o.dst (.s undef)
   | _ => .bad
  | none => .bad
def masks : List Oper → List Nat → List Nat
 | [], acc => acc
 | o :: r, acc => masks r (acc ++ [o.after.toList.foldl (fun s e => if Region.binds .any e then s ||| 2 ^ e.on ||| acc.getD e.on 0 else s) 0])
def disj (a b : List Nat) : Bool := a.all fun x => !b.contains x
def okPair (a b : List Nat × List Nat) : Bool := disj a.2 b.1 && disj b.2 a.1 && disj a.2 b.2
def okAll (ms : List Nat) (fs : List (List Nat × List Nat)) : Bool :=
 (List.range fs.length).all fun j => (List.range j).all fun i => (ms.getD j 0).testBit i || okPair (fs.getD i ([], [])) (fs.getD j ([], []))
def edgesOk (ops : List Oper) : Bool := (List.range ops.length).all fun j => match ops[j]? with | some o => o.after.toList.all fun e => !Region.binds .any e || decide (e.on < j) | none => true
def okDraw (ops : List Oper) (fs : List (List Nat × List Nat)) : Bool := edgesOk ops && okAll (masks ops []) fs
def nilT (T : Tab) (draw : Bool) (o : Oper) : Option (Tmp × Bool × Tmp) :=
 match draw, o.guard, o.dst, o.op with
 | false, none, some d, .binOp .eql t (.tmp x) (.const (.slice none 0 0)) _ => bif T.isSl t then some (x, true, d) else none
 | false, none, some d, .binOp .neq t (.tmp x) (.const (.slice none 0 0)) _ => bif T.isSl t then some (x, false, d) else none
 | _, _, _, _ => none
def bPV (b : Bool) : PV := match b with | true => .tt | false => .ff
def runR (PC : Orc) (P : Program) (T : Tab) (ops : Array Oper) (draw : Bool) (Q : List (Nat × PV) → Prop) : Nat → List Oper → List (List Nat × List Nat) → List (Nat × PV) → Prop
 | _, [], acc, σ => match draw with | true => okDraw ops.toList acc.reverse = true ∧ Q σ | false => Q σ
 | i, o :: r, acc, σ => match nilT T draw o with
  | some (x, e, d) => (lk σ (3 * x)).force fun p => match p with
   | .sl _ _ xs => (xs = [] → runR PC P T ops draw Q (i + 1) r acc ((3 * d, bPV e) :: σ)) ∧ runR PC P T ops draw Q (i + 1) r acc ((3 * d, bPV (!e)) :: σ)
   | _ => False
  | none => (bif draw then (opG P T ops i o).noAll else opG P T ops i o).run PC (lk σ) fun R ws => runR PC P T ops draw Q (i + 1) r ((R, ws.map (·.1)) :: acc) (ws ++ σ)
inductive Ex where
 | normal
 | exit (id : Nat)
 | ret
def le1 (p p' : PV) : Prop :=
 match p' with
 | .any => True
 | .sl k' z' xs' => match p with
  | .sl k z xs => xs = xs' ∧ (z = z' ∨ xs = []) ∧ (k' = 0 ∨ k' = k ∨ k = 1)
  | _ => False
 | p' => p.nb = p'.nb
def leL : List PV → List PV → Prop
 | [], [] => True
 | p :: r, p' :: r' => le1 p p' ∧ leL r r'
 | _, _ => False
def PV.isV : PV → Bool | .vw .. => true | .el .. => true | _ => false
def PV.noV (p : PV) : PV := match p with | .vw .. => .any | .el .. => .any | p => p
def nrm (σ : St) : St := fun l =>
 match σ l with
 | .vw t v z lo hi => (match σ (3 * t + 1) with | .rw v' _ _ => bif Nat.beq v v' then .vw t (v % 2) z lo hi else .any | _ => .any)
 | .rw v z xs => .rw (v % 2) z xs
 | .el .. => .any
 | .tu ps => bif ps.any PV.isV then .any else .tu ps
 | .ag cs => bif Nat.beq (l % 3) 1 then .ag (cs.map PV.noV) else .ag cs
 | p => p
def leP (l : Nat) (p p' : PV) : Prop :=
 match p' with
 | .any => True
 | .ag cs' => bif Nat.beq (l % 3) 1 then (match p with | .ag cs => leL cs cs' | _ => False) else p = p'
 | .fr n z => bif Nat.beq (l % 3) 2 then (p = .any ∨ p = .fr n z) else p = p'
 | p' => le1 p p'
def tokOk (σ : St) : PV → Prop
 | .sl (k + 2) _ xs => (match σ (3 * k + 2) with | .fr n _ => xs.length ≤ n | _ => False)
 | .vw t v _ _ _ => (match σ (3 * t + 1) with | .any => False | .rw v' _ _ => Nat.ble v v' = true | _ => True)
 | .el t v _ _ _ => (match σ (3 * t + 1) with | .any => False | .rw v' _ _ => Nat.ble v v' = true | _ => True)
 | _ => True
def allP (f : PV → Prop) : List PV → Prop
 | [] => True
 | p :: r => f p ∧ allP f r
def boxOk (σ : St) : PV → Prop
 | .pt t _ => (match σ (3 * t + 1) with | .ag _ => True | _ => False)
 | _ => True
def wf1 (σ : St) (l : Nat) (p : PV) : Prop :=
 match p with
 | .pt t _ => (match σ (3 * t + 1) with | .ag _ => True | _ => False)
 | .tu ps => allP (tokOk σ) ps
 | .cl _ ps => allP (boxOk σ) ps
 | .rw _ z _ => 0 < z
 | .ag cs => bif Nat.beq (l % 3) 1 then allP (tokOk σ) cs else True
 | p => tokOk σ p
def goU (σ σ' : St) : List (Nat × PV) → Prop
 | [] => True
 | (l, p) :: r => leP l (σ l) p ∧ wf1 σ' l p ∧ goU σ σ' r
def goK (σ σ0 σ' : St) : List Nat → Prop
 | [] => True
 | l :: r => σ l = σ0 l ∧ wf1 σ' l (σ0 l) ∧ goK σ σ0 σ' r
def headS (u : List (Nat × PV)) (ks : List Nat) (σ : List (Nat × PV)) : List (Nat × PV) := u ++ ks.map fun l => (l, nrm (lk σ) l)
def wk (σ σ0 : List (Nat × PV)) (u : List (Nat × PV)) (ks : List Nat) : Prop := goU (nrm (lk σ)) (lk (headS u ks σ0)) u ∧ goK (nrm (lk σ)) (nrm (lk σ0)) (lk (headS u ks σ0)) ks
def PW (PC : Orc) (P : Program) (T : Tab) : Code → (Ex → List (Nat × PV) → Prop) → List (Nat × PV) → Prop
 | .skip, Q, σ => Q .normal σ
 | .region _ ops draw, Q, σ => runR PC P T ops draw (Q .normal) 0 ops.toList [] σ
 | .seq a b, Q, σ => PW PC P T a (fun e σ' => match e with | .normal => PW PC P T b Q σ' | .exit i => Q (.exit i) σ' | .ret => Q .ret σ') σ
 | .cond c x y, Q, σ => (match c with | .tmp t => lk σ (3 * t) | .const v => constPV v | _ => .any).force fun p => match p with
  | .s (.bool b) => (b = true → PW PC P T x Q σ) ∧ (b = false → PW PC P T y Q σ)
  | .tt => PW PC P T x Q σ
  | .ff => PW PC P T y Q σ
  | _ => False
 | .block id c, Q, σ => PW PC P T c (fun e σ' => match e with | .normal => Q .normal σ' | .exit i => bif Nat.beq i id then Q .normal σ' else Q (.exit i) σ' | .ret => Q .ret σ') σ
 | .loop c, Q, σ => ∃ (X : Type) (C : X → Prop) (u : X → List (Nat × PV)) (ks : List Nat) (μ : X → Nat) (x0 : X), C x0 ∧ wk σ σ (u x0) ks ∧ ∀ x, C x →
  PW PC P T c (fun e σ' => match e with | .normal => ∃ x', C x' ∧ μ x' < μ x ∧ wk σ' σ (u x') ks | .exit i => Q (.exit i) σ' | .ret => Q .ret σ') (headS (u x) ks σ)
 | .exit id, Q, σ => Q (.exit id) σ
 | .ret, Q, σ => Q .ret σ
 | _, _, _ => False
def outA (T : Tab) : List ResultVar → (List PV → AM) → AM
 | [], k => k []
 | .tmp t :: r, k => .get (3 * t) fun p => outA T r fun ps => k (p :: ps)
 | .cell a t :: r, k => .get (3 * a) fun p => match T.get t, p with
  | some i, .pt b 0 => .get (3 * b + 1) fun y => match y with
   | .ag cs => bif Nat.beq cs.length i.size then (bif i.agg then outA T r fun ps => k (.ag (cs.map PV.ro) :: ps) else match cs with | [c] => outA T r fun ps => k (c :: ps) | _ => .bad) else .bad
   | _ => .bad
  | _, _ => .bad
def outX (ps : List PV) (k : List PV → AM) : AM :=
 match ps with
 | .vw t v z lo hi :: r => curRw t v z fun xs => bif Nat.beq lo 0 then .opt (some (.xo z (xs.take hi))) fun q => k (q :: r) else .bad
 | ps => k ps
def okR (σ : St) (p r : PV) : Prop :=
 match r with
 | .sl k' z' xs' => (match p with
  | .sl k z xs => xs = xs' ∧ (z = z' ∨ xs = []) ∧ (match k' with
   | 0 => True
   | 1 => k = 1
   | m + 2 => k = 1 ∨ (match k with | j + 2 => σ (3 * j + 2) = .fr xs.length m | _ => False))
  | _ => False)
 | .any => True
 | .tu _ => False
 | .pt _ _ => False
 | .fr _ _ => False
 | .vw .. => False
 | .el .. => False
 | .cl .. => False
 | r => p.nb = r.nb
def okRs (σ : St) : List PV → List PV → Prop
 | [], [] => True
 | p :: ps, r :: rs => okR σ p r ∧ okRs σ ps rs
 | _, _ => False
def okR0 (σ : St) (p r : PV) : Prop :=
 match r with
 | .xo z' xs' => (match p with | .sl k _ xs => k = 1 ∧ xs = [] ∧ xs' = [] ∧ 0 < z' | p => p = .xo z' xs')
 | r => okR σ p r
def okRR (σ : St) (ps : List PV) (r : PV) : Prop :=
 match ps with
 | [p] => okR0 σ p r
 | [] => (match r with | .tu [] => True | _ => False)
 | p :: ps => (match r with | .tu (r0 :: rs) => okR0 σ p r0 ∧ okRs σ ps rs | _ => False)
def argP : PV → Bool
 | .s _ => true
 | .sl 0 _ _ => true
 | .ag _ => true
 | .rp _ => true
 | .nl _ => true
 | .cl _ cs => cs.all fun c => match c with | .rp _ => true | .s _ => true | .sl 0 _ _ => true | _ => false
 | .xo _ _ => true
 | _ => false
def argT : Nat → List PV → List (Nat × PV)
 | _, [] => []
 | i, .xo z xs :: r => (3 * i + 1, .rw 0 z xs) :: argT (i + 1) r
 | i, _ :: r => argT (i + 1) r
def argV (i : Nat) : PV → PV
 | .xo z xs => .vw i 0 z 0 xs.length
 | p => p
def argS : Nat → List PV → List (Nat × PV)
 | _, [] => []
 | i, p :: r => (3 * i, argV i p) :: argS (i + 1) r
def dstOk (nt : Nat) : Code → Bool
 | .region _ ops _ => ops.toList.all fun o => match o.dst with | some d => decide (d < nt) | none => true
 | .seq a b => dstOk nt a && dstOk nt b
 | .cond _ x y => dstOk nt x && dstOk nt y
 | .block _ c => dstOk nt c
 | .loop c => dstOk nt c
 | _ => true
def startS (fu : Bool) (args : List PV) (k : List (Nat × PV) → Prop) : Prop :=
 match fu, args with
 | true, .xo z xs :: r => ∀ J : List PV, (∀ y ∈ J, y.cells = List.replicate z .any) → k ((0, .vw 0 1 z 0 xs.length) :: (1, .rw 1 z (xs ++ J)) :: (argT 0 (.xo z xs :: r) ++ argS 0 (.xo z xs :: r)))
 | _, args => k (argT 0 args ++ argS 0 args)
def FW (PC : Orc) (P : Program) (T : Tab) (fn : Func) (c : Code) (args : List PV) (r : PV) : Prop :=
 startS T.fu args fun s0 => PW PC P T c (fun ex s => match ex with
  | .exit _ => False
  | _ => (outA T fn.results.toList fun ps => outX ps fun ps => .ret (ps.map fun p => (0, p))).run PC (lk s) fun _ ws => okRR (lk s) (ws.map (·.2)) r) s0
end Go.Ev
end
section
namespace Go.Ev
open Go Go.RowKit
set_option linter.unusedVariables false
inductive RepC (F : Nat → Nat → Prop) (w : World) : PV → Value → Prop
 | s (x : Value) : RepC F w (.s x) x
 | tt : RepC F w .tt (.bool true)
 | ff : RepC F w .ff (.bool false)
 | nil (k z : Nat) : RepC F w (.sl k z []) (.slice none 0 0)
 | emp (k z : Nat) (a : Addr) (cap : Nat) (hk : k = 1 → cap = 0) : RepC F w (.sl k z []) (.slice (some a) 0 cap)
 | sl (k z : Nat) (xs : List PV) (b o cap : Nat) (u : Nat → Nat → Value) (hk : k = 1 → cap = xs.length) (hc : xs.length ≤ cap) (hz : ∀ x ∈ xs, x.cells.length = z)
  (hcell : ∀ i j, i < xs.length → j < z → w.cell? ⟨b, o + i * z + j, none⟩ = some (u i j) ∧ F b (o + i * z + j) ∧ (u i j).oneCell' = true)
  (h : ∀ (i : Nat) (x : PV) (j : Nat) (p : PV), xs[i]? = some x → x.cells[j]? = some p → RepC F w p (u i j)) : RepC F w (.sl k z xs) (.slice (some ⟨b, o, none⟩) xs.length cap)
 | ag (cs : List PV) (vs : Array Value) (hl : cs.length = vs.size) (h1 : ∀ v ∈ vs.toList, v.oneCell' = true) (h : ∀ (j : Nat) (p : PV) (v : Value), cs[j]? = some p → vs[j]? = some v → RepC F w p v) : RepC F w (.ag cs) (.agg vs)
 | tu (cs : List PV) (vs : Array Value) (hl : cs.length = vs.size) (h : ∀ (j : Nat) (p : PV) (v : Value), cs[j]? = some p → vs[j]? = some v → RepC F w p v) : RepC F w (.tu cs) (.tuple vs)
 | rp (cs : List PV) (b o : Nat) (u : Nat → Value) (hcell : ∀ j, j < cs.length → w.cell? ⟨b, o + j, none⟩ = some (u j) ∧ F b (o + j) ∧ (u j).oneCell' = true)
  (h : ∀ (j : Nat) (p : PV), cs[j]? = some p → RepC F w p (u j)) : RepC F w (.rp cs) (.pointer (some ⟨b, o, none⟩))
 | nl (n : Nat) (a : Option Addr) (c : Nat) : RepC F w (.nl n) (.slice a n c)
 | cl (f : FuncId) (cs : List PV) (vs : Array Value) (hl : cs.length = vs.size) (h : ∀ (j : Nat) (p : PV) (v : Value), cs[j]? = some p → vs[j]? = some v → RepC F w p v) : RepC F w (.cl f cs) (.func (.func f) #[] vs)
 | any (v : Value) : RepC F w .any v
theorem RepC.mono {F F' : Nat → Nat → Prop} {w w' : World} {p : PV} {v : Value} (h : RepC F w p v)
 (hm : ∀ b o u, w.cell? ⟨b, o, none⟩ = some u → F b o → w'.cell? ⟨b, o, none⟩ = some u ∧ F' b o) : RepC F' w' p v := by
 induction h with
 | s x => exact .s x
 | tt => exact .tt
 | ff => exact .ff
 | nil k z => exact .nil k z
 | emp k z a cap hk => exact .emp k z a cap hk
 | sl k z xs b o cap u hk hc hz hcell h ih =>
  exact .sl k z xs b o cap u hk hc hz (fun i j hi hj => by
   obtain ⟨h1, h2, h3⟩ := hcell i j hi hj
   obtain ⟨g1, g2⟩ := hm _ _ _ h1 h2
   exact ⟨g1, g2, h3⟩) ih
 | ag cs vs hl h1 h ih => exact .ag cs vs hl h1 ih
 | tu cs vs hl h ih => exact .tu cs vs hl ih
 | rp cs b o u hcell h ih =>
  exact .rp cs b o u (fun j hj => by
   obtain ⟨h1, h2, h3⟩ := hcell j hj
   obtain ⟨g1, g2⟩ := hm _ _ _ h1 h2
   exact ⟨g1, g2, h3⟩) ih
 | nl n a c => exact .nl n a c
 | cl f cs vs hl h ih => exact .cl f cs vs hl ih
 | any v => exact .any v
theorem RepC.ro {F : Nat → Nat → Prop} {w : World} {p : PV} {v : Value} (h : RepC F w p v) : RepC F w p.ro v := by
 cases h with
 | s => exact .s _
 | tt => exact .s _
 | ff => exact .s _
 | nil k z => exact .nil 0 z
 | emp k z a cap hk => exact .emp 0 z a cap (fun e => by cases e)
 | sl k z xs b o cap u hk hc hz hcell h => exact .sl 0 z xs b o cap u (fun e => by cases e) hc hz hcell h
 | ag cs vs hl h1 h => exact .ag cs vs hl h1 h
 | tu cs vs hl h => exact .tu cs vs hl h
 | rp cs b o u hcell h => exact .rp cs b o u hcell h
 | nl n a c => exact .nl n a c
 | cl f cs vs hl h => exact .any _
 | any v => exact .any v
theorem RepC.rc {F : Nat → Nat → Prop} {w : World} {p : PV} {v : Value} (h : RepC F w p v) : RepC F w p.rc v := by
 cases h with
 | s => exact .s _
 | tt => exact .s _
 | ff => exact .s _
 | nil k z => match k with | 0 => exact .nil _ _ | 1 => exact .nil _ _ | k + 2 => exact .nil _ _
 | emp k z a cap hk => match k with | 0 => exact .emp _ _ _ _ hk | 1 => exact .emp _ _ _ _ hk | k + 2 => exact .emp _ _ _ _ (fun e => by cases e)
 | sl k z xs b o cap u hk hc hz hcell h => match k with | 0 => exact .sl _ _ _ b o cap u hk hc hz hcell h | 1 => exact .sl _ _ _ b o cap u hk hc hz hcell h | k + 2 => exact .sl _ _ _ b o cap u (fun e => by cases e) hc hz hcell h
 | ag cs vs hl h1 h => exact .ag cs vs hl h1 h
 | tu cs vs hl h => exact .tu cs vs hl h
 | rp cs b o u hcell h => exact .rp cs b o u hcell h
 | nl n a c => exact .nl n a c
 | cl f cs vs hl h => exact .cl f cs vs hl h
 | any v => exact .any v
theorem RepC.nb {F : Nat → Nat → Prop} {w : World} {p : PV} {v : Value} (h : RepC F w p v) : RepC F w p.nb v := by
 cases h with
 | s => exact .s _
 | tt => exact .s _
 | ff => exact .s _
 | nil k z => exact .nil k z
 | emp k z a cap hk => exact .emp k z a cap hk
 | sl k z xs b o cap u hk hc hz hcell h => exact .sl k z xs b o cap u hk hc hz hcell h
 | ag cs vs hl h1 h => exact .ag cs vs hl h1 h
 | tu cs vs hl h => exact .tu cs vs hl h
 | rp cs b o u hcell h => exact .rp cs b o u hcell h
 | nl n a c => exact .nl n a c
 | cl f cs vs hl h => exact .cl f cs vs hl h
 | any v => exact .any v
theorem RepC.s_eq {F : Nat → Nat → Prop} {w : World} {x v : Value} (h : RepC F w (.s x) v) : v = x := by cases h; rfl
theorem RepC.tt_eq {F : Nat → Nat → Prop} {w : World} {v : Value} (h : RepC F w .tt v) : v = .bool true := by cases h; rfl
theorem RepC.ff_eq {F : Nat → Nat → Prop} {w : World} {v : Value} (h : RepC F w .ff v) : v = .bool false := by cases h; rfl
theorem RepC.sl_of {F : Nat → Nat → Prop} {w : World} {k k' z : Nat} {xs : List PV} {v : Value} (h : RepC F w (.sl k z xs) v) (hk' : k' = 1 → k = 1) : RepC F w (.sl k' z xs) v := by
 cases h with
 | nil => exact .nil k' z
 | emp k z a cap hk => exact .emp k' _ a cap (fun e => hk (hk' e))
 | sl k z xs b o cap u hk hc hz hcell h => exact .sl k' z xs b o cap u (fun e => hk (hk' e)) hc hz hcell h
theorem RepC.sl_z {F : Nat → Nat → Prop} {w : World} {k k' z z' : Nat} {v : Value} (h : RepC F w (.sl k z []) v) (hk' : k' = 1 → k = 1) : RepC F w (.sl k' z' []) v := by
 generalize hx : ([] : List PV) = xs at h
 cases h with
 | nil => exact .nil k' z'
 | emp k z a cap hk => exact .emp k' z' a cap (fun e => hk (hk' e))
 | sl k z xs b o cap u hk hc hz hcell h =>
  subst hx
  exact .sl k' z' [] b o cap u (fun e => hk (hk' e)) hc (fun x hx => by cases hx) (fun i j hi _ => by simp at hi) (fun i x j p hi _ => by simp at hi)
theorem RepC.full {F : Nat → Nat → Prop} {w : World} {z : Nat} {xs : List PV} {v : Value} (h : RepC F w (.sl 1 z xs) v) : ∃ A, v = .slice A xs.length xs.length := by
 generalize hp : PV.sl 1 z xs = p at h
 cases h with
 | nil => cases hp; exact ⟨none, rfl⟩
 | emp k z a cap hk => cases hp; rw [hk rfl]; exact ⟨some a, rfl⟩
 | sl k z xs b o cap u hk hc hz hcell h => cases hp; rw [hk rfl]; exact ⟨_, rfl⟩
 | _ => cases hp
abbrev Ow := Nat → Option (Nat × Nat)
def FF (F0 : Nat → Nat → Prop) (ow : Ow) : Nat → Nat → Prop := fun b o => F0 b o ∧ ∀ c l, ow b = some (c, l) → c % 2 = 1 ∧ o < l
def Own (B : Nat) (ow : Ow) (w : World) (σ : St) (p : PV) (v : Value) : Prop :=
 match p with
 | .sl 1 _ xs => ∃ A, v = .slice A xs.length xs.length
 | .sl (k + 2) _ xs => ∀ z, σ (3 * k + 2) = .fr xs.length z → (∃ A, v = .slice A xs.length xs.length) ∨ ∃ e cells, w.ownsRow B e z v xs.length cells ∧ ∀ g, v.ownBlock = some g → ow g = some (2 * k + 1, xs.length * z)
 | _ => True
def RowBlk (C : Nat → PV → Value → Prop) (w : World) (z : Nat) (xs : List PV) (b N : Nat) : Prop :=
 ∃ (cur : Array Value) (e : TypeId), w.heap[b]? = some (.cells cur e (0, 0)) ∧ 0 < z ∧ cur.size = N * z ∧ xs.length ≤ N ∧ (∀ x ∈ xs, x.cells.length = z) ∧
  ∀ (i j : Nat) (x p : PV) (u : Value), xs[i]? = some x → x.cells[j]? = some p → cur[i * z + j]? = some u → C (i * z + j) p u
def okC : PV → Prop | .sl (_ + 2) _ _ => False | .ag _ => False | .tu _ => False | .pt .. => False | .cl .. => False | .rp _ => False | _ => True
def CellP (F0 : Nat → Nat → Prop) (ow : Ow) (w : World) : Nat → PV → Value → Prop := fun _ p u => RepC (FF F0 ow) w p u ∧ True ∧ (p ≠ .any → u.oneCell' = true)
def Nest (F0 : Nat → Nat → Prop) (ow : Ow) (w : World) (c q z : Nat) (xs : List PV) (u : Value) : Prop :=
 (xs = [] ∧ ∃ A, u = .slice A 0 0) ∨ ∃ g N, ow g = some (c, q) ∧ u = .slice (some ⟨g, 0, none⟩) xs.length N ∧ RowBlk (CellP F0 ow w) w z xs g N
def CellX (F0 : Nat → Nat → Prop) (ow : Ow) (w : World) (c : Nat) : Nat → PV → Value → Prop := fun q p u =>
 match p with
 | .xo z xs => Nest F0 ow w c (q + 1) z xs u ∧ 0 < z
 | p => CellP F0 ow w q p u
def RepV (ow : Ow) (w : World) (σ : St) (p : PV) (v : Value) : Prop :=
 match p with
 | .pt t o => ∃ b, ow b = some (2 * t, 0) ∧ v = .pointer (some ⟨b, o, none⟩)
 | .vw t vr z lo hi => lo ≤ hi ∧ ((lo = hi ∧ (∃ A, v = .slice A 0 0) ∧ ∀ xs, σ (3 * t + 1) = .rw vr z xs → xs.length = lo ∧ ∀ b, ow b = some (2 * t, 0) → ∀ cur e, w.heap[b]? = some (.cells cur e (0, 0)) → cur.size = lo * z) ∨
  ∃ b N, hi ≤ N ∧ v = .slice (some ⟨b, lo * z, none⟩) (hi - lo) (N - lo) ∧ ∀ xs, σ (3 * t + 1) = .rw vr z xs → ow b = some (2 * t, 0) ∧ hi ≤ xs.length ∧ ∃ cur e, w.heap[b]? = some (.cells cur e (0, 0)) ∧ cur.size = N * z)
 | .el t vr z i o => ∃ b, v = .pointer (some ⟨b, i * z + o, none⟩) ∧ ∀ xs, σ (3 * t + 1) = .rw vr z xs → ow b = some (2 * t, 0)
 | _ => False
def RepE (F0 : Nat → Nat → Prop) (B : Nat) (ow : Ow) (w : World) (σ : St) (p : PV) (v : Value) : Prop :=
 match p with
 | .vw t vr z lo hi => RepV ow w σ (.vw t vr z lo hi) v
 | p => RepC (FF F0 ow) w p v ∧ Own B ow w σ p v
def RepCl (F0 : Nat → Nat → Prop) (ow : Ow) (w : World) (σ : St) (p : PV) (v : Value) : Prop :=
 match p with
 | .pt t o => RepV ow w σ (.pt t o) v
 | p => RepC (FF F0 ow) w p v
def RepT (F0 : Nat → Nat → Prop) (B : Nat) (ow : Ow) (w : World) (σ : St) (p : PV) (v : Value) : Prop :=
 match p with
 | .pt t o => RepV ow w σ (.pt t o) v
 | .vw t vr z lo hi => RepV ow w σ (.vw t vr z lo hi) v
 | .el t vr z i o => RepV ow w σ (.el t vr z i o) v
 | .cl f cs => ∃ vs : Array Value, v = .func (.func f) #[] vs ∧ cs.length = vs.size ∧ ∀ (j : Nat) (p : PV) (u : Value), cs[j]? = some p → vs[j]? = some u → RepCl F0 ow w σ p u
 | .tu ps => ∃ vs : Array Value, v = .tuple vs ∧ ps.length = vs.size ∧ ∀ (j : Nat) (p : PV) (u : Value), ps[j]? = some p → vs[j]? = some u → RepE F0 B ow w σ p u
 | p => RepC (FF F0 ow) w p v ∧ Own B ow w σ p v
def isT : PV → Bool | .pt .. => true | .vw .. => true | .el .. => true | .cl .. => true | .tu _ => true | _ => false
theorem RepT.rep {F0 : Nat → Nat → Prop} {B : Nat} {ow : Ow} {w : World} {σ : St} {p : PV} {v : Value} (h : RepT F0 B ow w σ p v) (hp : isT p = false) : RepC (FF F0 ow) w p v := by
 cases p <;> first | exact h.1 | cases hp
theorem RepT.own {F0 : Nat → Nat → Prop} {B : Nat} {ow : Ow} {w : World} {σ : St} {p : PV} {v : Value} (h : RepT F0 B ow w σ p v) (hp : isT p = false) : Own B ow w σ p v := by
 cases p <;> first | exact h.2 | cases hp
theorem RepT.mk {F0 : Nat → Nat → Prop} {B : Nat} {ow : Ow} {w : World} {σ : St} {p : PV} {v : Value} (hp : isT p = false) (h : RepC (FF F0 ow) w p v) (h2 : Own B ow w σ p v) : RepT F0 B ow w σ p v := by
 cases p <;> first | exact ⟨h, h2⟩ | cases hp
def plainP : PV → Bool
 | .sl 0 _ _ => true
 | .sl .. => false
 | .pt .. => false
 | .tu _ => false
 | .fr .. => false
 | .vw .. => false
 | .el .. => false
 | .cl .. => false
 | .rw .. => false
 | .xo .. => false
 | _ => true
theorem plain_isT {p : PV} (h : plainP p = true) : isT p = false := by cases p <;> first | rfl | cases h
theorem plain_own {B : Nat} {ow : Ow} {w : World} {σ : St} {p : PV} {v : Value} (hp : plainP p = true) : Own B ow w σ p v := by
 cases p with
 | sl k z xs => cases k with
  | zero => trivial
  | succ k => cases hp
 | _ => trivial
theorem RepT.of_plain {F0 : Nat → Nat → Prop} {B : Nat} {ow : Ow} {w : World} {σ : St} {p : PV} {v : Value} (hp : plainP p = true) (h : RepC (FF F0 ow) w p v) : RepT F0 B ow w σ p v := .mk (plain_isT hp) h (plain_own hp)
theorem Own.congr {B : Nat} {ow : Ow} {w : World} {σ σ' : St} {p : PV} {v : Value} (h : Own B ow w σ p v) (hs : ∀ k, σ' (3 * k + 2) = σ (3 * k + 2)) : Own B ow w σ' p v := by
 unfold Own at *
 split at h
 ·exact h
 ·intro z hz; exact h z ((hs _) ▸ hz)
 ·trivial
theorem RepV.congr {ow : Ow} {w : World} {σ σ' : St} {p : PV} {v : Value} (h : RepV ow w σ p v) (hs : ∀ k, σ' (3 * k + 1) = σ (3 * k + 1)) : RepV ow w σ' p v := by
 cases p with
 | pt t o => exact h
 | vw t vr z lo hi =>
  obtain ⟨h0, h⟩ := h
  refine ⟨h0, ?_⟩
  rcases h with ⟨a, b, c⟩ | ⟨b, N, h1, h2, h3⟩
  ·exact Or.inl ⟨a, b, fun xs hx => c xs ((hs _) ▸ hx)⟩
  ·exact Or.inr ⟨b, N, h1, h2, fun xs hx => h3 xs ((hs _) ▸ hx)⟩
 | el t vr z i o => obtain ⟨b, h1, h2⟩ := h; exact ⟨b, h1, fun xs hx => h2 xs ((hs _) ▸ hx)⟩
 | _ => exact h
theorem RepE.congr {F0 : Nat → Nat → Prop} {B : Nat} {ow : Ow} {w : World} {σ σ' : St} {p : PV} {v : Value} (h : RepE F0 B ow w σ p v) (h1 : ∀ k, σ' (3 * k + 1) = σ (3 * k + 1)) (hs : ∀ k, σ' (3 * k + 2) = σ (3 * k + 2)) : RepE F0 B ow w σ' p v := by
 cases p with
 | vw t vr z lo hi => exact RepV.congr (w := w) (p := .vw t vr z lo hi) h h1
 | _ => exact ⟨h.1, Own.congr h.2 hs⟩
theorem RepCl.congr {F0 : Nat → Nat → Prop} {ow : Ow} {w : World} {σ σ' : St} {p : PV} {v : Value} (h : RepCl F0 ow w σ p v) : RepCl F0 ow w σ' p v := by
 cases p <;> exact h
theorem RepT.congr {F0 : Nat → Nat → Prop} {B : Nat} {ow : Ow} {w : World} {σ σ' : St} {p : PV} {v : Value} (h : RepT F0 B ow w σ p v) (h1 : ∀ k, σ' (3 * k + 1) = σ (3 * k + 1)) (hs : ∀ k, σ' (3 * k + 2) = σ (3 * k + 2)) : RepT F0 B ow w σ' p v := by
 cases p with
 | pt t o => exact h
 | vw t vr z lo hi => exact RepV.congr (w := w) (p := .vw t vr z lo hi) h h1
 | el t vr z i o => exact RepV.congr (w := w) (p := .el t vr z i o) h h1
 | cl f cs => obtain ⟨vs, a, b, c⟩ := h; exact ⟨vs, a, b, fun j p u x y => RepCl.congr (c j p u x y)⟩
 | tu ps => obtain ⟨vs, a, b, c⟩ := h; exact ⟨vs, a, b, fun j p u x y => (c j p u x y).congr h1 hs⟩
 | _ => exact ⟨h.1, Own.congr h.2 hs⟩
def BoxAt (F0 : Nat → Nat → Prop) (B : Nat) (ow : Ow) (w : World) (σ : St) (t b : Nat) : Prop :=
 ∃ (cs : List PV) (c : Array Value) (T : TypeId), σ (3 * t + 1) = .ag cs ∧ w.heap[b]? = some (.cells c T (0, 0)) ∧ cs.length = c.size ∧
  ∀ (j : Nat) (p : PV) (v : Value), cs[j]? = some p → c[j]? = some v → v.oneCell' = true ∧ RepC (FF F0 ow) w p v ∧ Own B ow w σ p v
def RowAt (F0 : Nat → Nat → Prop) (ow : Ow) (w : World) (σ : St) (t b : Nat) : Prop :=
 ∃ v z xs N, σ (3 * t + 1) = .rw v z xs ∧ RowBlk (CellX F0 ow w (2 * t)) w z xs b N ∧ (v % 2 = 1 → N = xs.length)
def ObjAt (F0 : Nat → Nat → Prop) (B : Nat) (ow : Ow) (w : World) (σ : St) (t b : Nat) : Prop := BoxAt F0 B ow w σ t b ∨ RowAt F0 ow w σ t b
theorem RowBlk.map {C C' : Nat → PV → Value → Prop} {w w' : World} {z b N : Nat} {xs : List PV} (h : RowBlk C w z xs b N) (hh : w'.heap[b]? = w.heap[b]?) (hc : ∀ q p u, C q p u → C' q p u) : RowBlk C' w' z xs b N := by
 obtain ⟨cur, e, h1, h2, h3, h4, h6, h7⟩ := h
 exact ⟨cur, e, hh.trans h1, h2, h3, h4, h6, fun i j x p u a b c => hc _ _ _ (h7 i j x p u a b c)⟩
theorem CellP.map {F0 : Nat → Nat → Prop} {ow ow' : Ow} {w w' : World} {q : Nat} {p : PV} {u : Value} (h : CellP F0 ow w q p u) (hrep : ∀ p v, RepC (FF F0 ow) w p v → RepC (FF F0 ow') w' p v) : CellP F0 ow' w' q p u := ⟨hrep _ _ h.1, h.2⟩
theorem Nest.map {F0 : Nat → Nat → Prop} {ow ow' : Ow} {w w' : World} {c c' q q' z : Nat} {xs : List PV} {u : Value} (h : Nest F0 ow w c q z xs u) (hrep : ∀ p v, RepC (FF F0 ow) w p v → RepC (FF F0 ow') w' p v)
 (hn : ∀ g, ow g = some (c, q) → ow' g = some (c', q') ∧ w'.heap[g]? = w.heap[g]?) : Nest F0 ow' w' c' q' z xs u := by
 rcases h with h | ⟨g, N, h1, h2, h3⟩
 ·exact Or.inl h
 ·obtain ⟨k1, k2⟩ := hn g h1
  exact Or.inr ⟨g, N, k1, h2, h3.map k2 fun q p u h => h.map hrep⟩
theorem CellX.map {F0 : Nat → Nat → Prop} {ow ow' : Ow} {w w' : World} {c c' q : Nat} {p : PV} {u : Value} (h : CellX F0 ow w c q p u) (hrep : ∀ p v, RepC (FF F0 ow) w p v → RepC (FF F0 ow') w' p v)
 (hn : ∀ g q, ow g = some (c, q + 1) → ow' g = some (c', q + 1) ∧ w'.heap[g]? = w.heap[g]?) : CellX F0 ow' w' c' q p u := by
 cases p with
 | xo z xs => exact ⟨h.1.map hrep fun g hg => hn g q hg, h.2⟩
 | _ => exact CellP.map (q := q) h hrep
theorem ObjAt.map {F0 : Nat → Nat → Prop} {B : Nat} {ow ow' : Ow} {w w' : World} {σ σ' : St} {t b : Nat} (h : ObjAt F0 B ow w σ t b) (hs : σ' (3 * t + 1) = σ (3 * t + 1)) (hh : w'.heap[b]? = w.heap[b]?) (hrep : ∀ p v, RepC (FF F0 ow) w p v → RepC (FF F0 ow') w' p v)
 (hown : ∀ cs p v, σ (3 * t + 1) = .ag cs → p ∈ cs → Own B ow w σ p v → Own B ow' w' σ' p v) (hn : ∀ g q, ow g = some (2 * t, q + 1) → ow' g = some (2 * t, q + 1) ∧ w'.heap[g]? = w.heap[g]?) : ObjAt F0 B ow' w' σ' t b := by
 rcases h with ⟨cs, c, T, h1, h2, h3, h4⟩ | ⟨v, z, xs, N, h1, h2, h5⟩
 ·exact Or.inl ⟨cs, c, T, hs.trans h1, hh.trans h2, h3, fun j p v x y => ⟨(h4 j p v x y).1, hrep _ _ (h4 j p v x y).2.1, hown cs p v h1 (List.mem_of_getElem? x) (h4 j p v x y).2.2⟩⟩
 ·exact Or.inr ⟨v, z, xs, N, hs.trans h1, h2.map hh fun q p u h => h.map hrep hn, h5⟩
theorem ObjAt.congr {F0 : Nat → Nat → Prop} {B : Nat} {ow : Ow} {w : World} {σ σ' : St} {t b : Nat} (h : ObjAt F0 B ow w σ t b) (h1 : ∀ k, σ' (3 * k + 1) = σ (3 * k + 1)) (h2 : ∀ k, σ' (3 * k + 2) = σ (3 * k + 2)) : ObjAt F0 B ow w σ' t b :=
 h.map (h1 t) rfl (fun _ _ h => h) (fun _ _ _ _ _ h => h.congr h2) (fun _ _ h => ⟨h, rfl⟩)
theorem ObjAt.box {F0 : Nat → Nat → Prop} {B : Nat} {ow : Ow} {w : World} {σ : St} {t b : Nat} {cs : List PV} (h : ObjAt F0 B ow w σ t b) (hs : σ (3 * t + 1) = .ag cs) : BoxAt F0 B ow w σ t b := by
 rcases h with h | ⟨v, z, xs, N, h1, h2⟩
 ·exact h
 ·rw [hs] at h1; cases h1
theorem ObjAt.row {F0 : Nat → Nat → Prop} {B : Nat} {ow : Ow} {w : World} {σ : St} {t b v z : Nat} {xs : List PV} (h : ObjAt F0 B ow w σ t b) (hs : σ (3 * t + 1) = .rw v z xs) : ∃ N, RowBlk (CellX F0 ow w (2 * t)) w z xs b N := by
 rcases h with ⟨cs, c, T, h1, _⟩ | ⟨v, z, xs, N, h1, h2⟩
 ·rw [hs] at h1; cases h1
 ·rw [hs] at h1; cases h1; exact ⟨N, h2.1⟩
theorem ObjAt.full {F0 : Nat → Nat → Prop} {B : Nat} {ow : Ow} {w : World} {σ : St} {t b v z : Nat} {xs : List PV} (h : ObjAt F0 B ow w σ t b) (hs : σ (3 * t + 1) = .rw v z xs) (hv : v % 2 = 1) : RowBlk (CellX F0 ow w (2 * t)) w z xs b xs.length := by
 rcases h with ⟨cs, c, T, h1, _⟩ | ⟨v, z, xs, N, h1, h2, h3⟩
 ·rw [hs] at h1; cases h1
 ·rw [hs] at h1; cases h1; rw [← h3 hv]; exact h2
theorem ObjAt.any {F0 : Nat → Nat → Prop} {B : Nat} {ow : Ow} {w : World} {σ : St} {t b : Nat} (h : ObjAt F0 B ow w σ t b) : σ (3 * t + 1) ≠ .any ∧ ∀ x, σ (3 * t + 1) ≠ .s x := by
 rcases h with ⟨cs, c, T, h1, _⟩ | ⟨v, z, xs, N, h1, h2⟩ <;> (rw [h1]; exact ⟨(fun h => by cases h), (fun x h => by cases h)⟩)
structure W0 where
 w : World
 m : Nat → Prop
structure Bel (B : Nat) (w0 : W0) (w : World) : Prop where
 os : w.os = w0.w.os
 tape : w.tape = w0.w.tape
 output : w.output = w0.w.output
 size : w0.w.heap.size ≤ w.heap.size
 block : ∀ k, k < B → ¬ w0.m k → w.heap[k]? = w0.w.heap[k]?
theorem Bel.trans {B : Nat} {w0 : W0} {b c : World} (h : Bel B w0 b) (k : Bel B ⟨b, w0.m⟩ c) : Bel B w0 c :=
 ⟨k.os.trans h.os, k.tape.trans h.tape, k.output.trans h.output, Nat.le_trans h.size k.size, fun i hi hm => (k.block i hi hm).trans (h.block i hi hm)⟩
theorem Bel.of {B : Nat} {b c : World} {m : Nat → Prop} (h : Below B b c) : Bel B ⟨b, m⟩ c := ⟨h.os, h.tape, h.output, h.size, fun i hi _ => h.block i hi⟩
structure InvO (F0 : Nat → Nat → Prop) (B nt : Nat) (w0 : W0) (ow : Ow) (σ : St) (a : Act) (w : World) : Prop where
 defers : a.defers = []
 size : a.tmps.size = nt
 low : B ≤ w0.w.heap.size
 newF : ∀ b o, B ≤ b ∨ w0.m b → F0 b o
 below : Bel B w0 w
 tms : ∀ t, RepT F0 B ow w σ (σ (3 * t)) (a.tmps.getD t undef)
 boxes : ∀ b t, ow b = some (2 * t, 0) → ObjAt F0 B ow w σ t b
 uniq : ∀ b b' t, ow b = some (2 * t, 0) → ow b' = some (2 * t, 0) → b = b'
 owB : ∀ b c l, ow b = some (c, l) → (B ≤ b ∨ w0.m b) ∧ b < w.heap.size
 wf : ∀ l, wf1 σ l (σ l)
def Inv (F0 : Nat → Nat → Prop) (B nt : Nat) (w0 : W0) (σ : St) (a : Act) (w : World) : Prop := ∃ ow, InvO F0 B nt w0 ow σ a w
end Go.Ev
end
section
namespace Go.Ev
open Go Go.RowKit
set_option linter.unusedVariables false
set_option linter.unusedSimpArgs false
theorem force_eq (p : PV) (K : PV → Prop) : p.force K = K p := by
 unfold PV.force
 split
 ·split <;> rfl
 ·rfl
 ·rfl
 ·split <;> rfl
 all_goals rfl
theorem forceL_eq : ∀ (l : List PV) (K : List PV → Prop), forceL l K = K l
 | [], _ => rfl
 | p :: r, K => by unfold forceL; rw [force_eq, forceL_eq]
theorem deep_eq (p : PV) (K : PV → Prop) : p.deep K = K p := by
 unfold PV.deep
 rw [force_eq]
 split <;> first | rw [forceL_eq] | rfl
theorem forceW_eq : ∀ (l : List (Nat × PV)) (K : List (Nat × PV) → Prop), forceW l K = K l
 | [], _ => rfl
 | (_, p) :: r, K => by unfold forceW; rw [deep_eq, forceW_eq]
def ap : List (Nat × PV) → St → St
 | [], σ => σ
 | (k, p) :: r, σ => fun l => bif Nat.beq l k then p else ap r σ l
theorem lk_append (ws l : List (Nat × PV)) : lk (ws ++ l) = ap ws (lk l) := by
 induction ws with
 | nil => rfl
 | cons x r ih => obtain ⟨k, p⟩ := x; funext i; show (bif Nat.beq i k then p else lk (r ++ l) i) = _; rw [ih]; rfl
theorem ap_self (k : Nat) (p : PV) (r : List (Nat × PV)) (σ : St) : ap ((k, p) :: r) σ k = p := by simp [ap]
theorem ap_ne {k l : Nat} (p : PV) (r : List (Nat × PV)) (σ : St) (h : l ≠ k) : ap ((k, p) :: r) σ l = ap r σ l := by
 have : Nat.beq l k = false := by rw [Bool.eq_false_iff]; intro e; exact h (Nat.eq_of_beq_eq_true e)
 show (bif Nat.beq l k then p else ap r σ l) = _
 rw [this]; rfl
abbrev wfT (σ : St) (p : PV) : Prop := wf1 σ 0 p
theorem tokOk_congr {σ σ' : St} (h1 : ∀ k, σ' (3 * k + 1) = σ (3 * k + 1)) (h : ∀ k, σ' (3 * k + 2) = σ (3 * k + 2)) (p : PV) (hp : tokOk σ p) : tokOk σ' p := by
 unfold tokOk at *
 split at hp
 ·simp only [h]; exact hp
 ·simp only [h1]; exact hp
 ·simp only [h1]; exact hp
 ·trivial
theorem boxOk_congr {σ σ' : St} (h1 : ∀ k, σ' (3 * k + 1) = σ (3 * k + 1)) (p : PV) (hp : boxOk σ p) : boxOk σ' p := by
 unfold boxOk at *
 split at hp
 ·simp only [h1]; exact hp
 ·trivial
theorem allP_mono {f g : PV → Prop} (h : ∀ p, f p → g p) : ∀ l, allP f l → allP g l
 | [], _ => trivial
 | p :: r, ⟨a, b⟩ => ⟨h p a, allP_mono h r b⟩
theorem wf1_congr {σ σ' : St} (hb : ∀ k, σ' (3 * k + 1) = σ (3 * k + 1)) (h : ∀ k, σ' (3 * k + 2) = σ (3 * k + 2)) (l : Nat) (p : PV) (hp : wf1 σ l p) : wf1 σ' l p := by
 unfold wf1 at *
 split at hp
 ·simp only [hb]; exact hp
 ·exact allP_mono (tokOk_congr hb h) _ hp
 ·exact allP_mono (boxOk_congr hb) _ hp
 ·exact hp
 ·cases hq : Nat.beq (l % 3) 1
  ·trivial
  ·rw [hq] at hp
   exact allP_mono (tokOk_congr hb h) _ hp
 ·exact tokOk_congr hb h _ hp
theorem wf1_slot {σ : St} {d : Nat} {p : PV} (h : wfT σ p) : wf1 σ (3 * d) p := by
 unfold wfT wf1 at *
 split at h
 ·exact h
 ·exact h
 ·exact h
 ·exact h
 ·have : Nat.beq (3 * d % 3) 1 = false := by rw [Nat.mul_mod_right]; rfl
  rw [this]; trivial
 ·exact h
theorem wfT_slot {σ : St} {d : Nat} {p : PV} (h : wf1 σ (3 * d) p) : wfT σ p := by
 unfold wfT wf1 at *
 split at h
 ·exact h
 ·exact h
 ·exact h
 ·exact h
 ·trivial
 ·exact h
theorem wfT_plain {σ : St} {p : PV} (h : plainP p = true) : wfT σ p := by
 cases p with
 | sl k z xs => cases k with
  | zero => trivial
  | succ k => simp [plainP] at h
 | pt => simp [plainP] at h
 | tu => simp [plainP] at h
 | fr => trivial
 | vw => simp [plainP] at h
 | el => simp [plainP] at h
 | cl => simp [plainP] at h
 | rw => simp [plainP] at h
 | _ => trivial
theorem InvO.put {B nt : Nat} {w0 : W0} {w : World} {F0 : Nat → Nat → Prop} {ow : Ow} {σ : St} {a : Act} (hI : InvO F0 B nt w0 ow σ a w) {dst : Option Tmp} (hd : ∀ d, dst = some d → d < nt) {p : PV} {v : Value}
 (hp : RepT F0 B ow w σ p v) (hw : wfT σ p) : InvO F0 B nt w0 ow (ap (asgn dst p) σ) (a.put dst v) w := by
 cases dst with
 | none => exact hI
 | some d =>
  have hdl := hd d rfl
  have h1 : ∀ k, ap (asgn (some d) p) σ (3 * k + 1) = σ (3 * k + 1) := fun k => ap_ne p [] σ (by omega)
  have h2 : ∀ k, ap (asgn (some d) p) σ (3 * k + 2) = σ (3 * k + 2) := fun k => ap_ne p [] σ (by omega)
  refine ⟨hI.defers, by show (a.tmps.setIfInBounds d v).size = nt; simp [hI.size], hI.low, hI.newF, hI.below, fun t => ?_, fun b t hb => ?_, hI.uniq, hI.owB, fun l => ?_⟩
  ·show RepT F0 B ow w _ _ ((a.tmps.setIfInBounds d v).getD t undef)
   by_cases ht : t = d
   ·subst ht
    have e1 : (a.tmps.setIfInBounds t v).getD t undef = v := by
     simp [Array.getD_eq_getD_getElem?, hI.size, hdl]
    rw [e1, show ap (asgn (some t) p) σ (3 * t) = p from ap_self _ _ _ _]
    exact hp.congr h1 h2
   ·have e1 : (a.tmps.setIfInBounds d v).getD t undef = a.tmps.getD t undef := by
     simp [Array.getD_eq_getD_getElem?, Array.getElem?_setIfInBounds_ne (Ne.symm ht)]
    rw [e1, show ap (asgn (some d) p) σ (3 * t) = σ (3 * t) from ap_ne p [] σ (by omega)]
    exact (hI.tms t).congr h1 h2
  ·exact (hI.boxes b t hb).congr h1 h2
  ·by_cases hl : l = 3 * d
   ·subst hl
    rw [show ap (asgn (some d) p) σ (3 * d) = p from ap_self _ _ _ _]
    exact wf1_congr h1 h2 _ _ (wf1_slot hw)
   ·rw [show ap (asgn (some d) p) σ l = σ l from ap_ne p [] σ hl]
    exact wf1_congr h1 h2 _ _ (hI.wf l)
theorem cellPV_rep {F : Nat → Nat → Prop} {w : World} (v : Value) : RepC F w (cellPV v) v := by
 unfold cellPV
 split
 ·exact .nil 1 0
 ·exact .s _
theorem constPV_rep {F0 : Nat → Nat → Prop} {B : Nat} {ow : Ow} {w : World} {σ : St} (v : Value) : RepT F0 B ow w σ (constPV v) v ∧ wfT σ (constPV v) := by
 unfold constPV
 split
 ·exact ⟨⟨.nil 1 0, none, rfl⟩, trivial⟩
 ·rename_i cs
  cases hc : cs.toList.all (·.oneCell')
  ·exact ⟨⟨.s _, trivial⟩, trivial⟩
  ·refine ⟨⟨.ag _ _ (by simp) (fun v hv => List.all_eq_true.1 hc v hv) (fun j p v h1 h2 => ?_), trivial⟩, trivial⟩
   rw [List.getElem?_map] at h1
   have h3 : cs.toList[j]? = some v := by simpa using h2
   rw [h3] at h1
   obtain rfl : cellPV v = p := by simpa using h1
   exact cellPV_rep v
 ·exact ⟨⟨.tt, trivial⟩, trivial⟩
 ·exact ⟨⟨.ff, trivial⟩, trivial⟩
 ·exact ⟨⟨.s _, trivial⟩, trivial⟩
section
variable {PC : Orc} {B nt : Nat} {w0 : W0} {w : World} {F0 : Nat → Nat → Prop} {ow : Ow} {σ : St} {a : Act}
theorem evO_inv (hI : InvO F0 B nt w0 ow σ a w) (x : Operand) (k : PV → AM) (K : List Nat → List (Nat × PV) → Prop) (h : (evO x k).run PC σ K) :
 ∃ p R0, RepT F0 B ow w σ p (a.eval x) ∧ wfT σ p ∧ (k p).run PC σ fun R ws => K (R0 ++ R) ws := by
 cases x with
 | tmp t =>
  simp only [evO, AM.run, force_eq] at h
  exact ⟨σ (3 * t), [3 * t], hI.tms t, wfT_slot (hI.wf (3 * t)), h⟩
 | const v =>
  have := constPV_rep (F0 := F0) (B := B) (ow := ow) (w := w) (σ := σ) v
  exact ⟨constPV v, [], this.1, this.2, h⟩
 | func f => exact ⟨.s (.func (.func f) #[] #[]), [], ⟨.s _, trivial⟩, trivial, h⟩
 | global g => exact h.elim
def RepL (F0 : Nat → Nat → Prop) (B : Nat) (ow : Ow) (w : World) (σ : St) : List PV → List Value → Prop
 | [], [] => True
 | p :: ps, v :: vs => (RepT F0 B ow w σ p v ∧ wfT σ p) ∧ RepL F0 B ow w σ ps vs
 | _, _ => False
theorem run_mono {σ : St} : ∀ (m : AM) {K K' : List Nat → List (Nat × PV) → Prop} (hk : ∀ R ws, K R ws → K' R ws), m.run PC σ K → m.run PC σ K'
 | .ret ws, K, K', hk, h => by simp only [AM.run, forceW_eq] at h ⊢; exact hk _ _ h
 | .get l k, K, K', hk, h => by simp only [AM.run, force_eq] at h ⊢; exact run_mono (k (σ l)) (fun R ws => hk _ _) h
 | .need p k, K, K', hk, h => ⟨h.1, run_mono k hk h.2⟩
 | .opt o k, K, K', hk, h => by obtain ⟨p, h1, h2⟩ := h; exact ⟨p, h1, run_mono (k p) hk h2⟩
 | .optc o k, K, K', hk, h => by
  cases o with
  | none => exact h
  | some p => exact run_mono (σ := σ) (k p) hk h
 | .all S k, K, K', hk, h => fun p hp => run_mono (k p) hk (h p hp)
 | .ite b x y, K, K', hk, h => ⟨fun e => run_mono x hk (h.1 e), fun e => run_mono y hk (h.2 e)⟩
 | .call f args k, K, K', hk, h => by obtain ⟨r, h1, h2⟩ := h; exact ⟨r, h1, run_mono (k r) hk h2⟩
 | .bad, _, _, _, h => h
theorem evOs_inv (hI : InvO F0 B nt w0 ow σ a w) : ∀ (xs : List Operand) (k : List PV → AM) (K : List Nat → List (Nat × PV) → Prop) (h : (evOs xs k).run PC σ K),
 ∃ ps R0, RepL F0 B ow w σ ps (xs.map a.eval) ∧ (k ps).run PC σ fun R ws => K (R0 ++ R) ws
 | [], k, K, h => ⟨[], [], trivial, h⟩
 | x :: r, k, K, h => by
  obtain ⟨p, R0, h1, h2, h3⟩ := evO_inv hI x _ _ h
  obtain ⟨ps, R1, h4, h5⟩ := evOs_inv hI r _ _ h3
  exact ⟨p :: ps, R0 ++ R1, ⟨⟨h1, h2⟩, h4⟩, run_mono _ (fun R ws hk => by rw [List.append_assoc]; exact hk) h5⟩
end
def Sim (F0 : Nat → Nat → Prop) (B nt : Nat) (w0 : W0) (σ : St) (K : List Nat → List (Nat × PV) → Prop) : Act → World → Prop := fun a' w' => ∃ R ws, K R ws ∧ Inv F0 B nt w0 (ap ws σ) a' w'
section
variable {P : Program} {Q : Exit → Act → World → Prop} {o : Oper} {a : Act} {w w' : World} {N : Act → World → Prop}
theorem wp_value {v : Value} (hrun : (execOp a.eval o).run P w = .ok (.value v) w') (h : N (a.put o.dst v) w') : o.wp P a w N Q := by
 unfold Oper.wp; rw [hrun]; exact h
theorem wp_skipped (hrun : (execOp a.eval o).run P w = .ok .skip w') (h : N (a.put o.dst undef) w') : o.wp P a w N Q := by
 unfold Oper.wp; rw [hrun]; exact h
end
section
variable {P : Program} {PC : Orc} {Q : Exit → Act → World → Prop} {o : Oper} {a : Act} {w w' : World} {B nt : Nat} {w0 : W0} {F0 : Nat → Nat → Prop} {ow : Ow} {σ : St} {K : List Nat → List (Nat × PV) → Prop}
theorem sim_put (hI : InvO F0 B nt w0 ow σ a w) (hd : ∀ d, o.dst = some d → d < nt) {v : Value} {p : PV} {R0 : List Nat} (hrun : (execOp a.eval o).run P w = .ok (.value v) w) (hp : RepT F0 B ow w σ p v) (hw : wfT σ p)
 (h : (Ev.put o.dst p).run PC σ fun R ws => K (R0 ++ R) ws) : o.wp P a w (Sim F0 B nt w0 σ K) Q := by
 simp only [Ev.put, AM.run, forceW_eq] at h
 exact wp_value hrun ⟨_, _, h, ow, hI.put hd hp hw⟩
theorem sim_plain (hI : InvO F0 B nt w0 ow σ a w) (hd : ∀ d, o.dst = some d → d < nt) {v : Value} {p : PV} {R0 : List Nat} (hrun : (execOp a.eval o).run P w = .ok (.value v) w) (hq : plainP p = true) (hp : RepC (FF F0 ow) w p v)
 (h : (Ev.put o.dst p).run PC σ fun R ws => K (R0 ++ R) ws) : o.wp P a w (Sim F0 B nt w0 σ K) Q := sim_put hI hd hrun (.of_plain hq hp) (wfT_plain hq) h
end
end Go.Ev
end
