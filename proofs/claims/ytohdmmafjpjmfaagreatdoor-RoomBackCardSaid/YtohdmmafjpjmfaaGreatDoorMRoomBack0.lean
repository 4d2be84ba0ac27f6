/- Part 0 of this claim: several texts one behind the other: EvDef, EvRep, EvOpA, EvOpB, EvOpC, EvOpD. What each shows stands in its theorems; conditions: sizes of texts and lists, as the functions' definitions say. -/
import Derived.WalkKit
import Derived.Deep.MidRow
section
namespace Go.Ev
open Go
set_option linter.unusedVariables false
inductive PV where
  | s (x : Value)
  | tt
  | ff
  | sl (k z : Nat) (xs : List PV)
  | ag (cs : List PV)
  | tu (vs : List PV)
  | pt (t o : Nat)
  | rp (cs : List PV)
  | fr (n z : Nat)
  | any
  deriving Inhabited
def PV.cells : PV → List PV
  | .ag cs => cs
  | p => [p]
def PV.ro : PV → PV
  | .sl _ z xs => .sl 0 z xs
  | .tt => .s (.bool true)
  | .ff => .s (.bool false)
  | p => p
def PV.nb : PV → PV
  | .tt => .s (.bool true)
  | .ff => .s (.bool false)
  | p => p
def PV.flat : PV → List PV
  | .ag cs => cs.map PV.ro
  | p => [p.nb]
def PV.elem : PV → PV
  | .ag cs => .ag (cs.map PV.ro)
  | p => p.ro
abbrev St := Nat → PV
def lk : List (Nat × PV) → St
  | [], _ => .any
  | (k, p) :: r, l => bif Nat.beq l k then p else lk r l
inductive AM where
  | ret (ws : List (Nat × PV))
  | get (l : Nat) (k : PV → AM)
  | need (p : Prop) (k : AM)
  | opt (o : Option PV) (k : PV → AM)
  | optc (o : Option PV) (k : PV → AM)
  | ite (b : Bool) (x y : AM)
  | call (f : FuncId) (args : List PV) (k : PV → AM)
  | bad
inductive TyK where
  | sc
  | str
  | bo
  | it (k : IntKind)
  | sl (e : Nat)
  | st (fs : List (Nat × Bool × Nat))
  | ar (n e : Nat)
structure TyI where
  k : TyK
  size : Nat
  bytes : Nat
  zero : List Value
abbrev Tab := List (Nat × TyI)
def Tab.get (T : Tab) (t : Nat) : Option TyI :=
  match T with
  | [] => none
  | (k, i) :: r => bif Nat.beq t k then some i else Tab.get r t
def Tab.isStr (T : Tab) (t : Nat) : Bool := match T.get t with | some i => (match i.k with | .str => true | _ => false) | none => false
def Tab.isBo (T : Tab) (t : Nat) : Bool := match T.get t with | some i => (match i.k with | .bo => true | _ => false) | none => false
def Tab.isSl (T : Tab) (t : Nat) : Bool := match T.get t with | some i => (match i.k with | .sl _ => true | _ => false) | none => false
def TyI.agg (i : TyI) : Bool := match i.k with | .st _ => true | .ar _ _ => true | _ => false
def PV.force (p : PV) (K : PV → Prop) : Prop :=
  match p with
  | .s x => (match x with
    | .int k n => K (.s (.int k n))
    | .bool b => K (.s (.bool b))
    | .string q => K (.s (.string q))
    | x => K (.s x))
  | .tt => K .tt
  | .ff => K .ff
  | .sl k z xs => (match k with | 0 => K (.sl 0 z xs) | k + 1 => K (.sl (k + 1) z xs))
  | .ag cs => K (.ag cs)
  | .tu vs => K (.tu vs)
  | .pt t o => K (.pt t o)
  | .rp cs => K (.rp cs)
  | .fr n z => K (.fr n z)
  | .any => K .any
def forceL : List PV → (List PV → Prop) → Prop
  | [], K => K []
  | p :: r, K => p.force fun p => forceL r fun r => K (p :: r)
def PV.deep (p : PV) (K : PV → Prop) : Prop :=
  p.force fun p => match p with
  | .ag cs => forceL cs fun cs => K (.ag cs)
  | .tu cs => forceL cs fun cs => K (.tu cs)
  | .rp cs => forceL cs fun cs => K (.rp cs)
  | p => K p
def forceW : List (Nat × PV) → (List (Nat × PV) → Prop) → Prop
  | [], K => K []
  | (l, p) :: r, K => p.deep fun p => forceW r fun r => K ((l, p) :: r)
abbrev Orc := FuncId → List PV → PV → Prop
def AM.run (PC : Orc) (σ : St) : AM → (List Nat → List (Nat × PV) → Prop) → Prop
  | .ret ws, K => forceW ws fun ws => K [] ws
  | .get l k, K => (σ l).force fun p => (k p).run PC σ (fun R ws => K (l :: R) ws)
  | .need p k, K => p ∧ k.run PC σ K
  | .opt o k, K => ∃ p, o = some p ∧ (k p).run PC σ K
  | .optc o k, K => match o with | some p => (k p).run PC σ K | none => False
  | .ite b x y, K => (b = true → x.run PC σ K) ∧ (b = false → y.run PC σ K)
  | .call f args k, K => ∃ r, PC f args r ∧ (k r).run PC σ K
  | .bad, _ => False
def cellPV (v : Value) : PV := match v with | .slice none 0 0 => .sl 1 0 [] | v => .s v
def constPV (v : Value) : PV := match v with | .slice none 0 0 => .sl 1 0 [] | .agg cs => bif cs.toList.all (·.oneCell') then .ag (cs.toList.map cellPV) else .s (.agg cs) | .bool true => .tt | .bool false => .ff | v => .s v
def evO (x : Operand) (k : PV → AM) : AM :=
  match x with
  | .tmp t => .get (3 * t) k
  | .const v => k (constPV v)
  | .func f => k (.s (.func (.func f) #[] #[]))
  | .global _ => .bad
def evOs : List Operand → (List PV → AM) → AM
  | [], k => k []
  | x :: r, k => evO x fun p => evOs r fun ps => k (p :: ps)
def idx (xs : List PV) (i : Int) : Option PV := if 0 ≤ i then xs[i.toNat]? else none
def strIdx (s : ByteArray) (i : Int) : Option PV := if 0 ≤ i then (s[i.toNat]?).map (fun b => .s (.int .u8 b.toNat)) else none
def splice (cs : List PV) (o : Nat) (ds : List PV) : List PV := cs.take o ++ ds ++ cs.drop (o + ds.length)
def asgn (dst : Option Tmp) (p : PV) : List (Nat × PV) := match dst with | some d => [(3 * d, p)] | none => []
def put (dst : Option Tmp) (p : PV) : AM := .ret (asgn dst p)
def cellsEq : List PV → List PV → Option Bool
  | [], [] => some true
  | .s (.string a) :: r, .s (.string b) :: q => (cellsEq r q).map (fun c => (a.toList == b.toList) && c)
  | .s (.int _ a) :: r, .s (.int _ b) :: q => (cellsEq r q).map (fun c => (a == b) && c)
  | .s (.bool a) :: r, .s (.bool b) :: q => (cellsEq r q).map (fun c => (a == b) && c)
  | _, _ => none
def kindsP : List Value → List PV → Bool
  | [], [] => true
  | .string _ :: r, .s (.string _) :: q => kindsP r q
  | .int k _ :: r, .s (.int k' _) :: q => (match decEq k k' with | .isTrue _ => true | .isFalse _ => false) && kindsP r q
  | .bool _ :: r, .s (.bool _) :: q => kindsP r q
  | _, _ => false
def EqT (P : Program) (zero : List Value) (t : TypeId) : Prop := ∀ (w : World) (xs ys : Array Value) (b : Bool), kindsP zero (xs.toList.map PV.s) = true → kindsP zero (ys.toList.map PV.s) = true → cellsEq (xs.toList.map PV.s) (ys.toList.map PV.s) = some b →
  (Op.equal t (.agg xs) (.agg ys)).run P w = .ok b w ∧ ∀ x y, (eqGuard .eql t x y (.agg xs) (.agg ys)).run P w = .ok () w ∧ (eqGuard .neq t x y (.agg xs) (.agg ys)).run P w = .ok () w
def bopI (dst : Option Tmp) (op : BinOp) (k : IntKind) (x y : Int) : AM :=
  match op with
  | .add => put dst (.s (.int k (k.wrap (x + y))))
  | .sub => put dst (.s (.int k (k.wrap (x - y))))
  | .mul => put dst (.s (.int k (k.wrap (x * y))))
  | .quo => .need (y ≠ 0) (put dst (.s (.int k (k.wrap (x.tdiv y)))))
  | .rem => .need (y ≠ 0) (put dst (.s (.int k (x.tmod y))))
  | .eql => put dst (.s (.bool (x == y)))
  | .neq => put dst (.s (.bool (x != y)))
  | .lss => put dst (.s (.bool (decide (x < y))))
  | .leq => put dst (.s (.bool (decide (x ≤ y))))
  | .gtr => put dst (.s (.bool (decide (x > y))))
  | .geq => put dst (.s (.bool (decide (x ≥ y))))
  | _ => .bad
def bopS (dst : Option Tmp) (op : BinOp) (x y : ByteArray) : AM :=
  match op with
  | .add => .need (((x.size + y.size : Nat) : Int) ≤ IntKind.i64.max) (put dst (.s (.string (x ++ y))))
  | .eql => put dst (.s (.bool (x.toList == y.toList)))
  | .neq => put dst (.s (.bool (!(x.toList == y.toList))))
  | .lss => put dst (.s (.bool (Op.bytesLess x.toList y.toList)))
  | .leq => put dst (.s (.bool (Op.bytesLess x.toList y.toList || x.toList == y.toList)))
  | .gtr => put dst (.s (.bool (!(Op.bytesLess x.toList y.toList || x.toList == y.toList))))
  | .geq => put dst (.s (.bool (!Op.bytesLess x.toList y.toList)))
  | _ => .bad
def bopA (P : Program) (T : Tab) (dst : Option Tmp) (op : BinOp) (t : TypeId) (p q : PV) : AM :=
  match p, q with
  | .s (.int k x), .s (.int k' y) => match decEq k k' with | .isTrue _ => bopI dst op k x y | .isFalse _ => .bad
  | .s (.string x), .s (.string y) => bopS dst op x y
  | .s (.bool x), .s (.bool y) =>
    match op with
    | .eql => bif T.isBo t then put dst (.s (.bool (x == y))) else .bad
    | .neq => bif T.isBo t then put dst (.s (.bool (!(x == y)))) else .bad
    | _ => .bad
  | .ag ps, .ag qs => match T.get t with
    | some i => bif kindsP i.zero ps && kindsP i.zero qs then (match op, cellsEq ps qs with
      | .eql, some b => .need (EqT P i.zero t) (put dst (.s (.bool b)))
      | .neq, some b => .need (EqT P i.zero t) (put dst (.s (.bool (!b))))
      | _, _ => .bad) else .bad
    | none => .bad
  | _, _ => .bad
def PV.dem : PV → PV
  | .sl (_ + 2) z xs => .sl 0 z xs
  | p => p
def PV.demR : PV → PV
  | .tu ps => .tu (ps.map PV.dem)
  | p => p
def retok (d : Nat) (p : PV) : List (Nat × PV) :=
  match p with
  | .sl (z + 2) z' xs => [(3 * d, .sl (d + 2) z' xs), (3 * d + 2, .fr xs.length z)]
  | .tu (.sl (z + 2) z' xs :: r) => [(3 * d, .tu (.sl (d + 2) z' xs :: r.map PV.dem)), (3 * d + 2, .fr xs.length z)]
  | p => [(3 * d, p)]
def wantsTok (p : PV) : Bool := match p with | .sl (_ + 2) _ _ => true | .tu (.sl (_ + 2) _ _ :: _) => true | _ => false
def resA (dst : Option Tmp) (r : PV) : AM :=
  match dst with
  | some d => bif wantsTok r then .get (3 * d + 2) fun x => match x with | .any => .ret (retok d r) | _ => .bad else .ret [(3 * d, r.demR)]
  | none => .ret []
def argOk : PV → Bool | .pt .. => false | .fr .. => false | .any => false | .rp _ => false | _ => true
def callA (dst : Option Tmp) (f : FuncId) (args : List PV) : AM := bif args.all argOk then .call f (args.map PV.ro) (resA dst) else .bad
def appA (T : Tab) (dst : Option Tmp) (t : TypeId) (s x : PV) : AM :=
  match T.get t with
  | some ⟨.sl e, _, _, _⟩ =>
    match T.get e, s, x, dst with
    | some i, .sl k z xs, .sl _ z' ys, some d =>
      bif (Nat.beq z i.size || xs.isEmpty) && (Nat.beq z' i.size || ys.isEmpty) && Nat.blt 0 i.size then
        .need (xs.length + ys.length ≤ maxLen ∧ (xs.length + ys.length) * i.bytes ≤ 140737488355328)
          (match k with
          | 0 => .bad
          | 1 => .get (3 * d + 2) fun y => match y with
            | .any => .ret [(3 * d, .sl (d + 2) i.size (xs ++ ys)), (3 * d + 2, .fr (xs ++ ys).length i.size)]
            | _ => .bad
          | j + 2 => .get (3 * j + 2) fun y => match y with
            | .fr n z'' => bif Nat.beq z'' i.size then .need (n = xs.length) (.ret [(3 * d, .sl (j + 2) i.size (xs ++ ys)), (3 * j + 2, .fr (xs ++ ys).length i.size)]) else .bad
            | _ => .bad)
      else .bad
    | _, _, _, _ => .bad
  | _ => .bad
def cellable : PV → Bool | .s (.agg _) => false | .s (.tuple _) => false | .s _ => true | .sl .. => true | .tt => true | .ff => true | _ => false
def fillP (fs : List (Nat × Bool × Nat)) : List PV → List (Nat × PV) → Option (List PV)
  | cs, [] => some cs
  | cs, (i, v) :: r =>
    match fs[i]? with
    | some (o, _, n) => bif Nat.beq v.cells.length n && Nat.ble (o + n) cs.length && v.cells.all cellable then fillP fs (splice cs o (v.cells.map PV.ro)) r else none
    | none => none
def opA (P : Program) (T : Tab) (o : Oper) : AM :=
  match o.op with
  | .move x | .assign x => evO x fun p => put o.dst p
  | .pick c x y => evO c fun b => match b with
    | .s (.bool b) => .ite b (evO x fun p => put o.dst p) (evO y fun p => put o.dst p)
    | .tt => evO x fun p => put o.dst p
    | .ff => evO y fun p => put o.dst p
    | _ => .bad
  | .alloc t => match T.get t, o.dst with
    | some i, some d => .get (3 * d + 1) fun x => match x with
      | .any => .ret [(3 * d + 1, .ag (i.zero.map cellPV)), (3 * d, .pt d 0)]
      | _ => .bad
    | _, _ => .bad
  | .box t x => evO x fun p => match o.dst with
    | some d => bif p.cells.all cellable then .get (3 * d + 1) fun y => match y with
      | .any => .ret [(3 * d + 1, .ag p.flat), (3 * d, .pt d 0)]
      | _ => .bad
      else .bad
    | _ => .bad
  | .load t x => evO x fun p => match T.get t, p with
    | some i, .pt b k => .get (3 * b + 1) fun y => match y with
      | .ag cs => bif i.agg then (bif Nat.ble (k + i.size) cs.length then put o.dst (.ag (((cs.drop k).take i.size).map PV.ro)) else .bad)
        else .optc (cs[k]?) (fun p => put o.dst p)
      | _ => .bad
    | some i, .rp cs => bif i.agg then (bif Nat.ble i.size cs.length then put o.dst (.ag (cs.take i.size)) else .bad) else .optc (cs[0]?) (fun p => put o.dst p.ro)
    | _, _ => .bad
  | .store t x v => evO x fun p => evO v fun q => match T.get t, p, o.dst with
    | some i, .pt b k, none => .get (3 * b + 1) fun y => match y with
      | .ag cs => bif Nat.beq q.cells.length i.size && Nat.ble (k + i.size) cs.length && q.cells.all cellable then .ret [(3 * b + 1, .ag (splice cs k q.flat))] else .bad
      | _ => .bad
    | _, _, _ => .bad
  | .fieldAddr t x f => evO x fun p => match T.get t, p with
    | some ⟨.st fs, _, _, _⟩, .pt b k => match fs[f]? with | some (off, _, _) => put o.dst (.pt b (k + off)) | none => .bad
    | some ⟨.st fs, _, _, _⟩, .rp cs => match fs[f]? with | some (off, _, _) => put o.dst (.rp (cs.drop off)) | none => .bad
    | _, _ => .bad
  | .field t x f => evO x fun p => match T.get t, p with
    | some ⟨.st fs, _, _, _⟩, .ag cs => match fs[f]? with
      | some (off, ag, n) => bif Nat.ble (off + n) cs.length then (bif ag then put o.dst (.ag ((cs.drop off).take n)) else .optc (cs[off]?) (fun p => put o.dst p.ro)) else .bad
      | none => .bad
    | _, _ => .bad
  | .indexAddr t x y => evO x fun p => evO y fun q => match T.get t, p, q with
    | some ⟨.sl e, _, _, _⟩, .sl _ z xs, .s (.int _ i) => match T.get e with
      | some ie => bif Nat.beq z ie.size then .opt (idx xs i) (fun v => put o.dst (.rp v.cells)) else .bad
      | none => .bad
    | _, _, _ => .bad
  | .index t x y => evO x fun p => evO y fun q => match p, q with
    | .s (.string s), .s (.int _ i) => bif T.isStr t then .opt (strIdx s i) (fun v => put o.dst v) else .bad
    | _, _ => .bad
  | .nilCheck x => evO x fun p => match p with
    | .pt .. => put o.dst p
    | .rp _ => put o.dst p
    | _ => .bad
  | .binOp op t x y _ => evO x fun p => evO y fun q => bopA P T o.dst op t p.nb q.nb
  | .unOp .not _ x => evO x fun p => match p with | .s (.bool b) => put o.dst (.s (.bool (!b))) | .tt => put o.dst .ff | .ff => put o.dst .tt | _ => .bad
  | .unOp .neg _ x => evO x fun p => match p with | .s (.int k n) => put o.dst (.s (.int k (k.wrap (0 - n)))) | _ => .bad
  | .convert a b x => evO x fun p => match p with
    | .s (.int k n) => match T.get b, T.get a with
      | some ⟨.it k', _, _, _⟩, some _ => put o.dst (.s (.int k' (k'.wrap n)))
      | _, _ => .bad
    | .s (.string q) => bif T.isStr a && T.isStr b then put o.dst (.s (.string q)) else .bad
    | _ => .bad
  | .slice t x lo hi mx => evO x fun p => match p with
    | .s (.string s) =>
      let go := fun (l h : Int) => bif T.isStr t then AM.need (0 ≤ l ∧ l ≤ h ∧ h ≤ s.size) (put o.dst (.s (.string (s.extract l.toNat h.toNat)))) else .bad
      match lo, hi, mx with
      | none, none, none => go 0 s.size
      | some a, none, none => evO a fun l => match l with | .s (.int _ l) => go l s.size | _ => .bad
      | none, some b, none => evO b fun h => match h with | .s (.int _ h) => go 0 h | _ => .bad
      | some a, some b, none => evO a fun l => evO b fun h => match l, h with | .s (.int _ l), .s (.int _ h) => go l h | _, _ => .bad
      | _, _, _ => .bad
    | .sl k z xs => match T.get t with
      | some ⟨.sl e, _, _, _⟩ => match T.get e with
        | some ie =>
          let go := fun (k : Nat) (l h : Int) => bif Nat.beq z ie.size then AM.need (0 ≤ l ∧ l ≤ h ∧ h ≤ xs.length) (put o.dst (.sl k z ((xs.take h.toNat).drop l.toNat))) else .bad
          match lo, hi, mx with
          | none, none, none => go 0 0 xs.length
          | some a, none, none => evO a fun l => match l with | .s (.int _ l) => go 0 l xs.length | _ => .bad
          | none, some b, none => evO b fun h => match h with | .s (.int _ h) => go 0 0 h | _ => .bad
          | some a, some b, none => evO a fun l => evO b fun h => match l, h with | .s (.int _ l), .s (.int _ h) => go 0 l h | _, _ => .bad
          | none, some b, some c => evO b fun h => evO c fun m => match h, m with | .s (.int _ h), .s (.int _ m) => AM.need (h = m) (go 1 0 h) | _, _ => .bad
          | _, _, _ => .bad
        | none => .bad
      | _ => .bad
    | _ => .bad
  | .build t ps => match T.get t with
    | some ⟨.st fs, n, _, zero⟩ => evOs (ps.toList.map (·.2)) fun vs => (.optc ((fillP fs (zero.map cellPV) ((ps.toList.map (·.1)).zip vs)).map PV.ag) fun p => put o.dst p)
    | _ => .bad
  | .buildSlice t n ps => match T.get t with
    | some ⟨.sl e, _, _, _⟩ => match T.get e with
      | some ie => bif (ps.toList.map (·.1)) == List.range n && Nat.ble (n * ie.size) 16777216 then evOs (ps.toList.map (·.2)) fun vs => bif vs.all (fun v => Nat.beq v.cells.length ie.size && v.cells.all cellable) then put o.dst (.sl 1 ie.size (vs.map PV.elem)) else .bad else .bad
      | none => .bad
    | _ => .bad
  | .extract x i => evO x fun p => match p with | .tu vs => .optc (vs[i]?) (fun p => put o.dst (match p with | .tu _ => .any | p => p)) | _ => .bad
  | .makeFunc fn first captured => bif first.isEmpty && captured.isEmpty then put o.dst (.s (.func fn #[] #[])) else .bad
  | .call c => match c.callee with
    | .builtin .len => match c.argTypes.toList with
      | [t] => evOs c.args.toList fun ps => match ps with
        | [.sl _ _ xs] => bif T.isSl t then put o.dst (.s (.int .i64 xs.length)) else .bad
        | [.s (.string q)] => bif T.isStr t then put o.dst (.s (.int .i64 q.size)) else .bad
        | _ => .bad
      | _ => .bad
    | .builtin .append => match c.argTypes.toList, c.args.toList with
      | [t, t'], [x, y] => bif Nat.beq t t' then evO x fun p => evO y fun q => appA T o.dst t p q else .bad
      | _, _ => .bad
    | .value f => evO f fun p => evOs c.args.toList fun ps => match p with
      | .s (.func (.func f) u v) => bif Nat.beq u.size 0 && Nat.beq v.size 0 then callA o.dst f ps else .bad
      | _ => .bad
    | _ => .bad
  | _ => .bad
def AM.lit : AM → AM
  | .ret ws => match ws with
    | [(l, .s (.bool b))] => .ite b (.ret [(l, .tt)]) (.ret [(l, .ff)])
    | ws => .ret ws
  | .get l k => .get l fun p => (k p).lit
  | .need p k => .need p k.lit
  | .opt o k => .opt o fun p => (k p).lit
  | .optc o k => .optc o fun p => (k p).lit
  | .ite b x y => .ite b x.lit y.lit
  | .call f args k => .call f args fun p => (k p).lit
  | .bad => .bad
def isG (ops : Array Oper) (i : Nat) : Bool := ops.toList.any fun o => match o.guard with | some (g, _) => Nat.beq g i | none => false
def opG (P : Program) (T : Tab) (ops : Array Oper) (i : Nat) (o : Oper) : AM :=
  let m := bif isG ops i then (opA P T o).lit else opA P T o
  match o.guard with
  | none => m
  | some (g, want) => match (ops[g]?).bind (·.dst) with
    | some d => .get (3 * d) fun p => match p with
      | .tt => bif want then m else put o.dst (.s undef)
      | .ff => bif want then put o.dst (.s undef) else m
      | .s (.tuple _) => put o.dst (.s undef)
      | _ => .bad
    | none => .bad
def masks : List Oper → List Nat → List Nat
  | [], acc => acc
  | o :: r, acc => masks r (acc ++ [o.after.toList.foldl (fun s e => if Region.binds .any e then s ||| 2 ^ e.on ||| acc.getD e.on 0 else s) 0])
def disj (a b : List Nat) : Bool := a.all fun x => !b.contains x
def okPair (a b : List Nat × List Nat) : Bool := disj a.2 b.1 && disj b.2 a.1 && disj a.2 b.2
def okAll (ms : List Nat) (fs : List (List Nat × List Nat)) : Bool :=
  (List.range fs.length).all fun j => (List.range j).all fun i => (ms.getD j 0).testBit i || okPair (fs.getD i ([], [])) (fs.getD j ([], []))
def edgesOk (ops : List Oper) : Bool := (List.range ops.length).all fun j => match ops[j]? with | some o => o.after.toList.all fun e => !Region.binds .any e || decide (e.on < j) | none => true
def okDraw (ops : List Oper) (fs : List (List Nat × List Nat)) : Bool := edgesOk ops && okAll (masks ops []) fs
def nilT (T : Tab) (draw : Bool) (o : Oper) : Option (Tmp × Bool × Tmp) :=
  match draw, o.guard, o.dst, o.op with
  | false, none, some d, .binOp .eql t (.tmp x) (.const (.slice none 0 0)) _ => bif T.isSl t then some (x, true, d) else none
  | false, none, some d, .binOp .neq t (.tmp x) (.const (.slice none 0 0)) _ => bif T.isSl t then some (x, false, d) else none
  | _, _, _, _ => none
def bPV (b : Bool) : PV := match b with | true => .tt | false => .ff
def runR (PC : Orc) (P : Program) (T : Tab) (ops : Array Oper) (draw : Bool) (Q : List (Nat × PV) → Prop) : Nat → List Oper → List (List Nat × List Nat) → List (Nat × PV) → Prop
  | _, [], acc, σ => match draw with | true => okDraw ops.toList acc.reverse = true ∧ Q σ | false => Q σ
  | i, o :: r, acc, σ => match nilT T draw o with
    | some (x, e, d) => (lk σ (3 * x)).force fun p => match p with
      | .sl _ _ xs => (xs = [] → runR PC P T ops draw Q (i + 1) r acc ((3 * d, bPV e) :: σ)) ∧ runR PC P T ops draw Q (i + 1) r acc ((3 * d, bPV (!e)) :: σ)
      | _ => False
    | none => (opG P T ops i o).run PC (lk σ) fun R ws => runR PC P T ops draw Q (i + 1) r ((R, ws.map (·.1)) :: acc) (ws ++ σ)
inductive Ex where
  | normal
  | exit (id : Nat)
  | ret
def le1 (p p' : PV) : Prop :=
  match p' with
  | .any => True
  | .sl k' z' xs' => match p with
    | .sl k z xs => xs = xs' ∧ (z = z' ∨ xs = []) ∧ (k' = 0 ∨ k' = k ∨ k = 1)
    | _ => False
  | p' => p.nb = p'.nb
def leL : List PV → List PV → Prop
  | [], [] => True
  | p :: r, p' :: r' => le1 p p' ∧ leL r r'
  | _, _ => False
def leP (l : Nat) (p p' : PV) : Prop :=
  match p' with
  | .any => True
  | .ag cs' => bif Nat.beq (l % 3) 1 then (match p with | .ag cs => leL cs cs' | _ => False) else p = p'
  | .fr n z => bif Nat.beq (l % 3) 2 then (p = .any ∨ p = .fr n z) else p = p'
  | p' => le1 p p'
def tokOk (σ : St) : PV → Prop
  | .sl (k + 2) _ xs => (match σ (3 * k + 2) with | .fr n _ => xs.length ≤ n | _ => False)
  | _ => True
def allP (f : PV → Prop) : List PV → Prop
  | [] => True
  | p :: r => f p ∧ allP f r
def wf1 (σ : St) (l : Nat) (p : PV) : Prop :=
  match p with
  | .pt t _ => (match σ (3 * t + 1) with | .ag _ => True | _ => False)
  | .tu ps => allP (tokOk σ) ps
  | .ag cs => bif Nat.beq (l % 3) 1 then allP (tokOk σ) cs else True
  | p => tokOk σ p
def goU (σ σ' : St) : List (Nat × PV) → Prop
  | [] => True
  | (l, p) :: r => leP l (σ l) p ∧ wf1 σ' l p ∧ goU σ σ' r
def goK (σ σ0 σ' : St) : List Nat → Prop
  | [] => True
  | l :: r => σ l = σ0 l ∧ wf1 σ' l (σ0 l) ∧ goK σ σ0 σ' r
def headS (u : List (Nat × PV)) (ks : List Nat) (σ : List (Nat × PV)) : List (Nat × PV) := u ++ ks.map fun l => (l, lk σ l)
def wk (σ σ0 : List (Nat × PV)) (u : List (Nat × PV)) (ks : List Nat) : Prop := goU (lk σ) (lk (headS u ks σ0)) u ∧ goK (lk σ) (lk σ0) (lk (headS u ks σ0)) ks
def PW (PC : Orc) (P : Program) (T : Tab) : Code → (Ex → List (Nat × PV) → Prop) → List (Nat × PV) → Prop
  | .skip, Q, σ => Q .normal σ
  | .region _ ops draw, Q, σ => runR PC P T ops draw (Q .normal) 0 ops.toList [] σ
  | .seq a b, Q, σ => PW PC P T a (fun e σ' => match e with | .normal => PW PC P T b Q σ' | .exit i => Q (.exit i) σ' | .ret => Q .ret σ') σ
  | .cond c x y, Q, σ => (match c with | .tmp t => lk σ (3 * t) | .const v => constPV v | _ => .any).force fun p => match p with
    | .s (.bool b) => (b = true → PW PC P T x Q σ) ∧ (b = false → PW PC P T y Q σ)
    | .tt => PW PC P T x Q σ
    | .ff => PW PC P T y Q σ
    | _ => False
  | .block id c, Q, σ => PW PC P T c (fun e σ' => match e with | .normal => Q .normal σ' | .exit i => bif Nat.beq i id then Q .normal σ' else Q (.exit i) σ' | .ret => Q .ret σ') σ
  | .loop c, Q, σ => ∃ (X : Type) (C : X → Prop) (u : X → List (Nat × PV)) (ks : List Nat) (μ : X → Nat) (x0 : X), C x0 ∧ wk σ σ (u x0) ks ∧ ∀ x, C x →
      PW PC P T c (fun e σ' => match e with | .normal => ∃ x', C x' ∧ μ x' < μ x ∧ wk σ' σ (u x') ks | .exit i => Q (.exit i) σ' | .ret => Q .ret σ') (headS (u x) ks σ)
  | .exit id, Q, σ => Q (.exit id) σ
  | .ret, Q, σ => Q .ret σ
  | _, _, _ => False
def outA (T : Tab) : List ResultVar → (List PV → AM) → AM
  | [], k => k []
  | .tmp t :: r, k => .get (3 * t) fun p => outA T r fun ps => k (p :: ps)
  | .cell a t :: r, k => .get (3 * a) fun p => match T.get t, p with
    | some i, .pt b 0 => .get (3 * b + 1) fun y => match y with
      | .ag cs => bif Nat.beq cs.length i.size then (bif i.agg then outA T r fun ps => k (.ag (cs.map PV.ro) :: ps) else match cs with | [c] => outA T r fun ps => k (c :: ps) | _ => .bad) else .bad
      | _ => .bad
    | _, _ => .bad
def okR (σ : St) (p r : PV) : Prop :=
  match r with
  | .sl k' z' xs' => (match p with
    | .sl k z xs => xs = xs' ∧ (z = z' ∨ xs = []) ∧ (match k' with
      | 0 => True
      | 1 => k = 1
      | m + 2 => k = 1 ∨ (match k with | j + 2 => σ (3 * j + 2) = .fr xs.length m | _ => False))
    | _ => False)
  | .any => True
  | .tu _ => False
  | .pt _ _ => False
  | .fr _ _ => False
  | r => p.nb = r.nb
def okRs (σ : St) : List PV → List PV → Prop
  | [], [] => True
  | p :: ps, r :: rs => okR σ p r ∧ okRs σ ps rs
  | _, _ => False
def okRR (σ : St) (ps : List PV) (r : PV) : Prop :=
  match ps with
  | [p] => okR σ p r
  | ps => (match r with | .tu rs => okRs σ ps rs | _ => False)
def argP : PV → Bool
  | .s _ => true
  | .sl 0 _ _ => true
  | .ag _ => true
  | _ => false
def argS : Nat → List PV → List (Nat × PV)
  | _, [] => []
  | i, p :: r => (3 * i, p) :: argS (i + 1) r
def dstOk (nt : Nat) : Code → Bool
  | .region _ ops _ => ops.toList.all fun o => match o.dst with | some d => decide (d < nt) | none => true
  | .seq a b => dstOk nt a && dstOk nt b
  | .cond _ x y => dstOk nt x && dstOk nt y
  | .block _ c => dstOk nt c
  | .loop c => dstOk nt c
  | _ => true
def FW (PC : Orc) (P : Program) (T : Tab) (fn : Func) (c : Code) (args : List PV) (r : PV) : Prop :=
  PW PC P T c (fun ex s => match ex with
    | .exit _ => False
    | _ => (outA T fn.results.toList fun ps => .ret (ps.map fun p => (0, p))).run PC (lk s) fun _ ws => okRR (lk s) (ws.map (·.2)) r) (argS 0 args)
end Go.Ev
end
section
namespace Go.Ev
open Go Go.RowKit
set_option linter.unusedVariables false
inductive RepC (F : Nat → Nat → Prop) (w : World) : PV → Value → Prop
  | s (x : Value) : RepC F w (.s x) x
  | tt : RepC F w .tt (.bool true)
  | ff : RepC F w .ff (.bool false)
  | nil (k z : Nat) : RepC F w (.sl k z []) (.slice none 0 0)
  | emp (k z : Nat) (a : Addr) (cap : Nat) : RepC F w (.sl k z []) (.slice (some a) 0 cap)
  | sl (k z : Nat) (xs : List PV) (b o cap : Nat) (u : Nat → Nat → Value) (hc : xs.length ≤ cap) (hz : ∀ x ∈ xs, x.cells.length = z)
      (hcell : ∀ i j, i < xs.length → j < z → w.cell? ⟨b, o + i * z + j, none⟩ = some (u i j) ∧ F b (o + i * z + j) ∧ (u i j).oneCell' = true)
      (h : ∀ (i : Nat) (x : PV) (j : Nat) (p : PV), xs[i]? = some x → x.cells[j]? = some p → RepC F w p (u i j)) : RepC F w (.sl k z xs) (.slice (some ⟨b, o, none⟩) xs.length cap)
  | ag (cs : List PV) (vs : Array Value) (hl : cs.length = vs.size) (h1 : ∀ v ∈ vs.toList, v.oneCell' = true) (h : ∀ (j : Nat) (p : PV) (v : Value), cs[j]? = some p → vs[j]? = some v → RepC F w p v) : RepC F w (.ag cs) (.agg vs)
  | tu (cs : List PV) (vs : Array Value) (hl : cs.length = vs.size) (h : ∀ (j : Nat) (p : PV) (v : Value), cs[j]? = some p → vs[j]? = some v → RepC F w p v) : RepC F w (.tu cs) (.tuple vs)
  | rp (cs : List PV) (b o : Nat) (u : Nat → Value) (hcell : ∀ j, j < cs.length → w.cell? ⟨b, o + j, none⟩ = some (u j) ∧ F b (o + j) ∧ (u j).oneCell' = true)
      (h : ∀ (j : Nat) (p : PV), cs[j]? = some p → RepC F w p (u j)) : RepC F w (.rp cs) (.pointer (some ⟨b, o, none⟩))
  | any (v : Value) : RepC F w .any v
theorem RepC.mono {F F' : Nat → Nat → Prop} {w w' : World} {p : PV} {v : Value} (h : RepC F w p v)
    (hm : ∀ b o u, w.cell? ⟨b, o, none⟩ = some u → F b o → w'.cell? ⟨b, o, none⟩ = some u ∧ F' b o) : RepC F' w' p v := by
  induction h with
  | s x => exact .s x
  | tt => exact .tt
  | ff => exact .ff
  | nil k z => exact .nil k z
  | emp k z a cap => exact .emp k z a cap
  | sl k z xs b o cap u hc hz hcell h ih =>
    exact .sl k z xs b o cap u hc hz (fun i j hi hj => by
      obtain ⟨h1, h2, h3⟩ := hcell i j hi hj
      obtain ⟨g1, g2⟩ := hm _ _ _ h1 h2
      exact ⟨g1, g2, h3⟩) ih
  | ag cs vs hl h1 h ih => exact .ag cs vs hl h1 ih
  | tu cs vs hl h ih => exact .tu cs vs hl ih
  | rp cs b o u hcell h ih =>
    exact .rp cs b o u (fun j hj => by
      obtain ⟨h1, h2, h3⟩ := hcell j hj
      obtain ⟨g1, g2⟩ := hm _ _ _ h1 h2
      exact ⟨g1, g2, h3⟩) ih
  | any v => exact .any v
theorem RepC.ro {F : Nat → Nat → Prop} {w : World} {p : PV} {v : Value} (h : RepC F w p v) : RepC F w p.ro v := by
  cases h with
  | s => exact .s _
  | tt => exact .s _
  | ff => exact .s _
  | nil k z => exact .nil 0 z
  | emp k z a cap => exact .emp 0 z a cap
  | sl k z xs b o cap u hc hz hcell h => exact .sl 0 z xs b o cap u hc hz hcell h
  | ag cs vs hl h1 h => exact .ag cs vs hl h1 h
  | tu cs vs hl h => exact .tu cs vs hl h
  | rp cs b o u hcell h => exact .rp cs b o u hcell h
  | any v => exact .any v
theorem RepC.nb {F : Nat → Nat → Prop} {w : World} {p : PV} {v : Value} (h : RepC F w p v) : RepC F w p.nb v := by
  cases h with
  | s => exact .s _
  | tt => exact .s _
  | ff => exact .s _
  | nil k z => exact .nil k z
  | emp k z a cap => exact .emp k z a cap
  | sl k z xs b o cap u hc hz hcell h => exact .sl k z xs b o cap u hc hz hcell h
  | ag cs vs hl h1 h => exact .ag cs vs hl h1 h
  | tu cs vs hl h => exact .tu cs vs hl h
  | rp cs b o u hcell h => exact .rp cs b o u hcell h
  | any v => exact .any v
theorem RepC.s_eq {F : Nat → Nat → Prop} {w : World} {x v : Value} (h : RepC F w (.s x) v) : v = x := by cases h; rfl
theorem RepC.tt_eq {F : Nat → Nat → Prop} {w : World} {v : Value} (h : RepC F w .tt v) : v = .bool true := by cases h; rfl
theorem RepC.ff_eq {F : Nat → Nat → Prop} {w : World} {v : Value} (h : RepC F w .ff v) : v = .bool false := by cases h; rfl
theorem RepC.sl_of {F : Nat → Nat → Prop} {w : World} {k k' z : Nat} {xs : List PV} {v : Value} (h : RepC F w (.sl k z xs) v) : RepC F w (.sl k' z xs) v := by
  cases h with
  | nil => exact .nil k' z
  | emp k z a cap => exact .emp k' _ a cap
  | sl k z xs b o cap u hc hz hcell h => exact .sl k' z xs b o cap u hc hz hcell h
theorem RepC.sl_z {F : Nat → Nat → Prop} {w : World} {k k' z z' : Nat} {v : Value} (h : RepC F w (.sl k z []) v) : RepC F w (.sl k' z' []) v := by
  generalize hx : ([] : List PV) = xs at h
  cases h with
  | nil => exact .nil k' z'
  | emp k z a cap => exact .emp k' z' a cap
  | sl k z xs b o cap u hc hz hcell h =>
    subst hx
    exact .sl k' z' [] b o cap u hc (fun x hx => by cases hx) (fun i j hi _ => by simp at hi) (fun i x j p hi _ => by simp at hi)
abbrev Ow := Nat → Option (Nat × Nat)
def FF (F0 : Nat → Nat → Prop) (ow : Ow) : Nat → Nat → Prop := fun b o => F0 b o ∧ ∀ c l, ow b = some (c, l) → o < l
def Own (B : Nat) (ow : Ow) (w : World) (σ : St) (p : PV) (v : Value) : Prop :=
  match p with
  | .sl 1 _ xs => ∃ A, v = .slice A xs.length xs.length
  | .sl (k + 2) _ xs => ∀ z, σ (3 * k + 2) = .fr xs.length z → (∃ A, v = .slice A xs.length xs.length) ∨ ∃ e cells, w.ownsRow B e z v xs.length cells ∧ ∀ g, v.ownBlock = some g → ow g = some (2 * k + 1, xs.length * z)
  | _ => True
def RepT (F0 : Nat → Nat → Prop) (B : Nat) (ow : Ow) (w : World) (σ : St) (p : PV) (v : Value) : Prop :=
  match p with
  | .pt t o => ∃ b, ow b = some (2 * t, 0) ∧ v = .pointer (some ⟨b, o, none⟩)
  | .tu ps => RepC (FF F0 ow) w (.tu ps) v ∧ ∀ (vs : Array Value) (i : Nat) (p : PV) (u : Value), v = .tuple vs → ps[i]? = some p → vs[i]? = some u → Own B ow w σ p u
  | p => RepC (FF F0 ow) w p v ∧ Own B ow w σ p v
theorem RepT.rep {F0 : Nat → Nat → Prop} {B : Nat} {ow : Ow} {w : World} {σ : St} {p : PV} {v : Value} (h : RepT F0 B ow w σ p v) (hp : ∀ t o, p ≠ .pt t o) : RepC (FF F0 ow) w p v := by
  cases p <;> first | exact h.1 | exact absurd rfl (hp _ _)
def plainP : PV → Bool
  | .sl 0 _ _ => true
  | .sl .. => false
  | .pt .. => false
  | .tu _ => false
  | .fr .. => false
  | _ => true
theorem RepT.of_plain {F0 : Nat → Nat → Prop} {B : Nat} {ow : Ow} {w : World} {σ : St} {p : PV} {v : Value} (hp : plainP p = true) (h : RepC (FF F0 ow) w p v) : RepT F0 B ow w σ p v := by
  unfold plainP at hp
  split at hp <;> first | exact ⟨h, trivial⟩ | cases hp | skip
  cases p <;> first | exact ⟨h, trivial⟩ | (rename_i h1 h2 h3 h4 h5; first | exact absurd rfl (h2 _ _ _) | exact absurd rfl (h3 _ _) | exact absurd rfl (h4 _) | exact absurd rfl (h5 _ _))
theorem Own.congr {B : Nat} {ow : Ow} {w : World} {σ σ' : St} {p : PV} {v : Value} (h : Own B ow w σ p v) (hs : ∀ k, σ' (3 * k + 2) = σ (3 * k + 2)) : Own B ow w σ' p v := by
  unfold Own at *
  split at h
  · exact h
  · intro z hz; exact h z ((hs _) ▸ hz)
  · trivial
theorem RepT.congr {F0 : Nat → Nat → Prop} {B : Nat} {ow : Ow} {w : World} {σ σ' : St} {p : PV} {v : Value} (h : RepT F0 B ow w σ p v) (hs : ∀ k, σ' (3 * k + 2) = σ (3 * k + 2)) : RepT F0 B ow w σ' p v := by
  cases p <;> first
    | exact h
    | exact ⟨h.1, fun vs i p u h1 h2 h3 => (h.2 vs i p u h1 h2 h3).congr hs⟩
    | exact ⟨h.1, Own.congr h.2 hs⟩
def BoxAt (F0 : Nat → Nat → Prop) (B : Nat) (ow : Ow) (w : World) (σ : St) (t b : Nat) : Prop :=
  ∃ (cs : List PV) (c : Array Value) (T : TypeId), σ (3 * t + 1) = .ag cs ∧ w.heap[b]? = some (.cells c T (0, 0)) ∧ cs.length = c.size ∧
    ∀ (j : Nat) (p : PV) (v : Value), cs[j]? = some p → c[j]? = some v → v.oneCell' = true ∧ RepC (FF F0 ow) w p v ∧ Own B ow w σ p v
structure InvO (F0 : Nat → Nat → Prop) (B nt : Nat) (w0 : World) (ow : Ow) (σ : St) (a : Act) (w : World) : Prop where
  defers : a.defers = []
  size : a.tmps.size = nt
  low : B ≤ w0.heap.size
  newF : ∀ b o, B ≤ b → F0 b o
  below : Below B w0 w
  tms : ∀ t, RepT F0 B ow w σ (σ (3 * t)) (a.tmps.getD t undef)
  boxes : ∀ b t l, ow b = some (2 * t, l) → l = 0 ∧ BoxAt F0 B ow w σ t b
  uniq : ∀ b b' t l l', ow b = some (2 * t, l) → ow b' = some (2 * t, l') → b = b'
  owB : ∀ b c l, ow b = some (c, l) → B ≤ b ∧ b < w.heap.size
  wf : ∀ l, wf1 σ l (σ l)
def Inv (F0 : Nat → Nat → Prop) (B nt : Nat) (w0 : World) (σ : St) (a : Act) (w : World) : Prop := ∃ ow, InvO F0 B nt w0 ow σ a w
end Go.Ev
end
section
namespace Go.Ev
open Go Go.RowKit
set_option linter.unusedVariables false
set_option linter.unusedSimpArgs false
theorem force_eq (p : PV) (K : PV → Prop) : p.force K = K p := by
  unfold PV.force
  split
  · split <;> rfl
  · rfl
  · rfl
  · split <;> rfl
  all_goals rfl
theorem forceL_eq : ∀ (l : List PV) (K : List PV → Prop), forceL l K = K l
  | [], _ => rfl
  | p :: r, K => by unfold forceL; rw [force_eq, forceL_eq]
theorem deep_eq (p : PV) (K : PV → Prop) : p.deep K = K p := by
  unfold PV.deep
  rw [force_eq]
  split <;> first | rw [forceL_eq] | rfl
theorem forceW_eq : ∀ (l : List (Nat × PV)) (K : List (Nat × PV) → Prop), forceW l K = K l
  | [], _ => rfl
  | (_, p) :: r, K => by unfold forceW; rw [deep_eq, forceW_eq]
def ap : List (Nat × PV) → St → St
  | [], σ => σ
  | (k, p) :: r, σ => fun l => bif Nat.beq l k then p else ap r σ l
theorem lk_append (ws l : List (Nat × PV)) : lk (ws ++ l) = ap ws (lk l) := by
  induction ws with
  | nil => rfl
  | cons x r ih => obtain ⟨k, p⟩ := x; funext i; show (bif Nat.beq i k then p else lk (r ++ l) i) = _; rw [ih]; rfl
theorem ap_self (k : Nat) (p : PV) (r : List (Nat × PV)) (σ : St) : ap ((k, p) :: r) σ k = p := by simp [ap]
theorem ap_ne {k l : Nat} (p : PV) (r : List (Nat × PV)) (σ : St) (h : l ≠ k) : ap ((k, p) :: r) σ l = ap r σ l := by
  have : Nat.beq l k = false := by rw [Bool.eq_false_iff]; intro e; exact h (Nat.eq_of_beq_eq_true e)
  show (bif Nat.beq l k then p else ap r σ l) = _
  rw [this]; rfl
abbrev wfT (σ : St) (p : PV) : Prop := wf1 σ 0 p
theorem tokOk_congr {σ σ' : St} (h : ∀ k, σ' (3 * k + 2) = σ (3 * k + 2)) (p : PV) (hp : tokOk σ p) : tokOk σ' p := by
  unfold tokOk at *
  split at hp
  · simp only [h]; exact hp
  · trivial
theorem allP_mono {f g : PV → Prop} (h : ∀ p, f p → g p) : ∀ l, allP f l → allP g l
  | [], _ => trivial
  | p :: r, ⟨a, b⟩ => ⟨h p a, allP_mono h r b⟩
theorem wf1_congr {σ σ' : St} (hb : ∀ k, σ' (3 * k + 1) = σ (3 * k + 1)) (h : ∀ k, σ' (3 * k + 2) = σ (3 * k + 2)) (l : Nat) (p : PV) (hp : wf1 σ l p) : wf1 σ' l p := by
  unfold wf1 at *
  split at hp
  · simp only [hb]; exact hp
  · exact allP_mono (tokOk_congr h) _ hp
  · cases hq : Nat.beq (l % 3) 1
    · trivial
    · rw [hq] at hp
      exact allP_mono (tokOk_congr h) _ hp
  · exact tokOk_congr h _ hp
theorem wf1_slot {σ : St} {d : Nat} {p : PV} (h : wfT σ p) : wf1 σ (3 * d) p := by
  unfold wfT wf1 at *
  split at h
  · exact h
  · exact h
  · have : Nat.beq (3 * d % 3) 1 = false := by rw [Nat.mul_mod_right]; rfl
    rw [this]; trivial
  · exact h
theorem wfT_slot {σ : St} {d : Nat} {p : PV} (h : wf1 σ (3 * d) p) : wfT σ p := by
  unfold wfT wf1 at *
  split at h
  · exact h
  · exact h
  · trivial
  · exact h
theorem wfT_plain {σ : St} {p : PV} (h : plainP p = true) : wfT σ p := by
  cases p with
  | sl k z xs => cases k with
    | zero => trivial
    | succ k => simp [plainP] at h
  | pt => simp [plainP] at h
  | tu => simp [plainP] at h
  | fr => trivial
  | _ => trivial
theorem InvO.put {B nt : Nat} {w0 w : World} {F0 : Nat → Nat → Prop} {ow : Ow} {σ : St} {a : Act} (hI : InvO F0 B nt w0 ow σ a w) {dst : Option Tmp} (hd : ∀ d, dst = some d → d < nt) {p : PV} {v : Value}
    (hp : RepT F0 B ow w σ p v) (hw : wfT σ p) : InvO F0 B nt w0 ow (ap (asgn dst p) σ) (a.put dst v) w := by
  cases dst with
  | none => exact hI
  | some d =>
    have hdl := hd d rfl
    have h1 : ∀ k, ap (asgn (some d) p) σ (3 * k + 1) = σ (3 * k + 1) := fun k => ap_ne p [] σ (by omega)
    have h2 : ∀ k, ap (asgn (some d) p) σ (3 * k + 2) = σ (3 * k + 2) := fun k => ap_ne p [] σ (by omega)
    refine ⟨hI.defers, by show (a.tmps.setIfInBounds d v).size = nt; simp [hI.size], hI.low, hI.newF, hI.below, fun t => ?_, fun b t l hb => ?_, hI.uniq, hI.owB, fun l => ?_⟩
    · show RepT F0 B ow w _ _ ((a.tmps.setIfInBounds d v).getD t undef)
      by_cases ht : t = d
      · subst ht
        have e1 : (a.tmps.setIfInBounds t v).getD t undef = v := by
          simp [Array.getD_eq_getD_getElem?, hI.size, hdl]
        rw [e1, show ap (asgn (some t) p) σ (3 * t) = p from ap_self _ _ _ _]
        exact hp.congr h2
      · have e1 : (a.tmps.setIfInBounds d v).getD t undef = a.tmps.getD t undef := by
          simp [Array.getD_eq_getD_getElem?, Array.getElem?_setIfInBounds_ne (Ne.symm ht)]
        rw [e1, show ap (asgn (some d) p) σ (3 * t) = σ (3 * t) from ap_ne p [] σ (by omega)]
        exact (hI.tms t).congr h2
    · obtain ⟨e, cs, c, T, g1, g2, g3, g4⟩ := hI.boxes b t l hb
      exact ⟨e, cs, c, T, (h1 t).trans g1, g2, g3, fun j p v x y => ⟨(g4 j p v x y).1, (g4 j p v x y).2.1, (g4 j p v x y).2.2.congr h2⟩⟩
    · by_cases hl : l = 3 * d
      · subst hl
        rw [show ap (asgn (some d) p) σ (3 * d) = p from ap_self _ _ _ _]
        exact wf1_congr h1 h2 _ _ (wf1_slot hw)
      · rw [show ap (asgn (some d) p) σ l = σ l from ap_ne p [] σ hl]
        exact wf1_congr h1 h2 _ _ (hI.wf l)
theorem cellPV_rep {F : Nat → Nat → Prop} {w : World} (v : Value) : RepC F w (cellPV v) v := by
  unfold cellPV
  split
  · exact .nil 1 0
  · exact .s _
theorem constPV_rep {F0 : Nat → Nat → Prop} {B : Nat} {ow : Ow} {w : World} {σ : St} (v : Value) : RepT F0 B ow w σ (constPV v) v ∧ wfT σ (constPV v) := by
  unfold constPV
  split
  · exact ⟨⟨.nil 1 0, none, rfl⟩, trivial⟩
  · rename_i cs
    cases hc : cs.toList.all (·.oneCell')
    · exact ⟨⟨.s _, trivial⟩, trivial⟩
    · refine ⟨⟨.ag _ _ (by simp) (fun v hv => List.all_eq_true.1 hc v hv) (fun j p v h1 h2 => ?_), trivial⟩, trivial⟩
      rw [List.getElem?_map] at h1
      have h3 : cs.toList[j]? = some v := by simpa using h2
      rw [h3] at h1
      obtain rfl : cellPV v = p := by simpa using h1
      exact cellPV_rep v
  · exact ⟨⟨.tt, trivial⟩, trivial⟩
  · exact ⟨⟨.ff, trivial⟩, trivial⟩
  · exact ⟨⟨.s _, trivial⟩, trivial⟩
section
variable {PC : Orc} {B nt : Nat} {w0 w : World} {F0 : Nat → Nat → Prop} {ow : Ow} {σ : St} {a : Act}
theorem evO_inv (hI : InvO F0 B nt w0 ow σ a w) (x : Operand) (k : PV → AM) (K : List Nat → List (Nat × PV) → Prop) (h : (evO x k).run PC σ K) :
    ∃ p R0, RepT F0 B ow w σ p (a.eval x) ∧ wfT σ p ∧ (k p).run PC σ fun R ws => K (R0 ++ R) ws := by
  cases x with
  | tmp t =>
    simp only [evO, AM.run, force_eq] at h
    exact ⟨σ (3 * t), [3 * t], hI.tms t, wfT_slot (hI.wf (3 * t)), h⟩
  | const v =>
    have := constPV_rep (F0 := F0) (B := B) (ow := ow) (w := w) (σ := σ) v
    exact ⟨constPV v, [], this.1, this.2, h⟩
  | func f => exact ⟨.s (.func (.func f) #[] #[]), [], ⟨.s _, trivial⟩, trivial, h⟩
  | global g => exact h.elim
def RepL (F0 : Nat → Nat → Prop) (B : Nat) (ow : Ow) (w : World) (σ : St) : List PV → List Value → Prop
  | [], [] => True
  | p :: ps, v :: vs => (RepT F0 B ow w σ p v ∧ wfT σ p) ∧ RepL F0 B ow w σ ps vs
  | _, _ => False
theorem run_mono {σ : St} : ∀ (m : AM) {K K' : List Nat → List (Nat × PV) → Prop} (hk : ∀ R ws, K R ws → K' R ws), m.run PC σ K → m.run PC σ K'
  | .ret ws, K, K', hk, h => by simp only [AM.run, forceW_eq] at h ⊢; exact hk _ _ h
  | .get l k, K, K', hk, h => by simp only [AM.run, force_eq] at h ⊢; exact run_mono (k (σ l)) (fun R ws => hk _ _) h
  | .need p k, K, K', hk, h => ⟨h.1, run_mono k hk h.2⟩
  | .opt o k, K, K', hk, h => by obtain ⟨p, h1, h2⟩ := h; exact ⟨p, h1, run_mono (k p) hk h2⟩
  | .optc o k, K, K', hk, h => by
    cases o with
    | none => exact h
    | some p => exact run_mono (σ := σ) (k p) hk h
  | .ite b x y, K, K', hk, h => ⟨fun e => run_mono x hk (h.1 e), fun e => run_mono y hk (h.2 e)⟩
  | .call f args k, K, K', hk, h => by obtain ⟨r, h1, h2⟩ := h; exact ⟨r, h1, run_mono (k r) hk h2⟩
  | .bad, _, _, _, h => h
theorem evOs_inv (hI : InvO F0 B nt w0 ow σ a w) : ∀ (xs : List Operand) (k : List PV → AM) (K : List Nat → List (Nat × PV) → Prop) (h : (evOs xs k).run PC σ K),
    ∃ ps R0, RepL F0 B ow w σ ps (xs.map a.eval) ∧ (k ps).run PC σ fun R ws => K (R0 ++ R) ws
  | [], k, K, h => ⟨[], [], trivial, h⟩
  | x :: r, k, K, h => by
    obtain ⟨p, R0, h1, h2, h3⟩ := evO_inv hI x _ _ h
    obtain ⟨ps, R1, h4, h5⟩ := evOs_inv hI r _ _ h3
    exact ⟨p :: ps, R0 ++ R1, ⟨⟨h1, h2⟩, h4⟩, run_mono _ (fun R ws hk => by rw [List.append_assoc]; exact hk) h5⟩
end
def Sim (F0 : Nat → Nat → Prop) (B nt : Nat) (w0 : World) (σ : St) (K : List Nat → List (Nat × PV) → Prop) : Act → World → Prop := fun a' w' => ∃ R ws, K R ws ∧ Inv F0 B nt w0 (ap ws σ) a' w'
section
variable {P : Program} {Q : Exit → Act → World → Prop} {o : Oper} {a : Act} {w w' : World} {N : Act → World → Prop}
theorem wp_value {v : Value} (hrun : (execOp a.eval o).run P w = .ok (.value v) w') (h : N (a.put o.dst v) w') : o.wp P a w N Q := by
  unfold Oper.wp; rw [hrun]; exact h
theorem wp_skipped (hrun : (execOp a.eval o).run P w = .ok .skip w') (h : N (a.put o.dst undef) w') : o.wp P a w N Q := by
  unfold Oper.wp; rw [hrun]; exact h
end
section
variable {P : Program} {PC : Orc} {Q : Exit → Act → World → Prop} {o : Oper} {a : Act} {w w' : World} {B nt : Nat} {w0 : World} {F0 : Nat → Nat → Prop} {ow : Ow} {σ : St} {K : List Nat → List (Nat × PV) → Prop}
theorem sim_put (hI : InvO F0 B nt w0 ow σ a w) (hd : ∀ d, o.dst = some d → d < nt) {v : Value} {p : PV} {R0 : List Nat} (hrun : (execOp a.eval o).run P w = .ok (.value v) w) (hp : RepT F0 B ow w σ p v) (hw : wfT σ p)
    (h : (Ev.put o.dst p).run PC σ fun R ws => K (R0 ++ R) ws) : o.wp P a w (Sim F0 B nt w0 σ K) Q := by
  simp only [Ev.put, AM.run, forceW_eq] at h
  exact wp_value hrun ⟨_, _, h, ow, hI.put hd hp hw⟩
theorem sim_plain (hI : InvO F0 B nt w0 ow σ a w) (hd : ∀ d, o.dst = some d → d < nt) {v : Value} {p : PV} {R0 : List Nat} (hrun : (execOp a.eval o).run P w = .ok (.value v) w) (hq : plainP p = true) (hp : RepC (FF F0 ow) w p v)
    (h : (Ev.put o.dst p).run PC σ fun R ws => K (R0 ++ R) ws) : o.wp P a w (Sim F0 B nt w0 σ K) Q := sim_put hI hd hrun (.of_plain hq hp) (wfT_plain hq) h
end
def kOk (P : Program) (d : TypeDesc) : TyK → Prop
  | .sc => d.isRow = false
  | .str => d = .string
  | .bo => d = .bool
  | .it k => d = .int k
  | .sl e => d = .slice e
  | .st fs => ∃ fields, d = .struct fields ∧ fields.size = fs.length ∧ ∀ (f o : Nat) (ag : Bool) (n : Nat), fs[f]? = some (o, ag, n) → ∃ fd, fields[f]? = some fd ∧ fd.offset = o ∧ (∃ ti, P.info? fd.type = some ti ∧ ti.size = n ∧ 0 < n) ∧ ∃ d', P.underlying fd.type = some d' ∧ d'.isRow = ag
  | .ar n e => d = .array n e
structure TyOk (P : Program) (t : Nat) (i : TyI) : Prop where
  info : ∃ ti z, P.info? t = some ti ∧ ti.size = i.size ∧ ti.bytes = i.bytes ∧ ti.zero = some z ∧ z.cells.toList = i.zero
  len : i.zero.length = i.size
  one : ∀ v ∈ i.zero, v.oneCell' = true
  und : ∃ d, P.underlying t = some d ∧ kOk P d i.k
def TabOk (P : Program) (T : Tab) : Prop := ∀ t i, T.get t = some i → TyOk P t i
theorem TyOk.agg {P : Program} {t : Nat} {i : TyI} (h : TyOk P t i) : ∃ d, P.underlying t = some d ∧ d.isRow = i.agg := by
  obtain ⟨d, h1, h2⟩ := h.und
  refine ⟨d, h1, ?_⟩
  unfold TyI.agg
  cases hk : i.k with
  | sc => rw [hk] at h2; exact h2
  | str => rw [hk] at h2; obtain rfl := h2; rfl
  | bo => rw [hk] at h2; obtain rfl := h2; rfl
  | it k => rw [hk] at h2; obtain rfl := h2; rfl
  | sl e => rw [hk] at h2; obtain rfl := h2; rfl
  | st fs => rw [hk] at h2; obtain ⟨fields, rfl, _⟩ := h2; rfl
  | ar n e => rw [hk] at h2; obtain rfl := h2; rfl
theorem isStr_und {P : Program} {T : Tab} {t : Nat} (hT : TabOk P T) (h : T.isStr t = true) : P.underlying t = some .string := by
  unfold Tab.isStr at h
  split at h
  · rename_i i hi
    obtain ⟨d, h1, h2⟩ := (hT t i hi).und
    split at h
    · rename_i hk; rw [hk] at h2; rw [h1, show d = .string from h2]
    · cases h
  · cases h
theorem isBo_und {P : Program} {T : Tab} {t : Nat} (hT : TabOk P T) (h : T.isBo t = true) : P.underlying t = some .bool := by
  unfold Tab.isBo at h
  split at h
  · rename_i i hi
    obtain ⟨d, h1, h2⟩ := (hT t i hi).und
    split at h
    · rename_i hk; rw [hk] at h2; rw [h1, show d = .bool from h2]
    · cases h
  · cases h
theorem isSl_und {P : Program} {T : Tab} {t : Nat} (hT : TabOk P T) (h : T.isSl t = true) : ∃ e, P.underlying t = some (.slice e) := by
  unfold Tab.isSl at h
  split at h
  · rename_i i hi
    obtain ⟨d, h1, h2⟩ := (hT t i hi).und
    split at h
    · rename_i e hk; rw [hk] at h2; exact ⟨e, by rw [h1, show d = .slice e from h2]⟩
    · cases h
  · cases h
section
variable {P : Program} {T : Tab} {PC : Orc} {Q : Exit → Act → World → Prop} {o : Oper} {a : Act} {w : World} {B nt : Nat} {w0 : World} {F0 : Nat → Nat → Prop} {ow : Ow} {σ : St} {K : List Nat → List (Nat × PV) → Prop}
theorem sim_move {x : Operand} (ho : o.op = .move x ∨ o.op = .assign x) (hI : InvO F0 B nt w0 ow σ a w) (hd : ∀ d, o.dst = some d → d < nt) (h : (opA P T o).run PC σ K) : o.wp P a w (Sim F0 B nt w0 σ K) Q := by
  have h' : (evO x fun p => Ev.put o.dst p).run PC σ K := by
    rcases ho with ho | ho <;> (unfold opA at h; rw [ho] at h; exact h)
  obtain ⟨p, R0, h1, h2, h3⟩ := evO_inv hI x _ _ h'
  refine sim_put hI hd (v := a.eval x) ?_ h1 h2 h3
  rcases ho with ho | ho <;> (unfold execOp; rw [ho]; rfl)
theorem sim_pick {c x y : Operand} (ho : o.op = .pick c x y) (hI : InvO F0 B nt w0 ow σ a w) (hd : ∀ d, o.dst = some d → d < nt) (h : (opA P T o).run PC σ K) : o.wp P a w (Sim F0 B nt w0 σ K) Q := by
  unfold opA at h
  rw [ho] at h
  obtain ⟨p, R0, h1, h2, h3⟩ := evO_inv hI c _ _ h
  have hrun : ∀ b, a.eval c = .bool b → (execOp a.eval o).run P w = .ok (.value (if b then a.eval x else a.eval y)) w := fun b hb => by
    unfold execOp; rw [ho]; simp [hb, asBool]
  split at h3
  · rename_i b
    have e := (h1.rep (fun _ _ => by simp)).s_eq
    cases b
    · obtain ⟨q, R1, g1, g2, g3⟩ := evO_inv hI y _ _ (h3.2 rfl)
      exact sim_put hI hd (hrun false e) g1 g2 (run_mono _ (fun R ws hk => by rw [List.append_assoc]; exact hk) g3)
    · obtain ⟨q, R1, g1, g2, g3⟩ := evO_inv hI x _ _ (h3.1 rfl)
      exact sim_put hI hd (hrun true e) g1 g2 (run_mono _ (fun R ws hk => by rw [List.append_assoc]; exact hk) g3)
  · have e : a.eval c = .bool true := h1.1.tt_eq
    obtain ⟨q, R1, g1, g2, g3⟩ := evO_inv hI x _ _ h3
    exact sim_put hI hd (hrun true e) g1 g2 (run_mono _ (fun R ws hk => by rw [List.append_assoc]; exact hk) g3)
  · have e : a.eval c = .bool false := h1.1.ff_eq
    obtain ⟨q, R1, g1, g2, g3⟩ := evO_inv hI y _ _ h3
    exact sim_put hI hd (hrun false e) g1 g2 (run_mono _ (fun R ws hk => by rw [List.append_assoc]; exact hk) g3)
  · exact h3.elim
theorem sim_nilCheck {x : Operand} (ho : o.op = .nilCheck x) (hI : InvO F0 B nt w0 ow σ a w) (hd : ∀ d, o.dst = some d → d < nt) (h : (opA P T o).run PC σ K) : o.wp P a w (Sim F0 B nt w0 σ K) Q := by
  unfold opA at h
  rw [ho] at h
  obtain ⟨p, R0, h1, h2, h3⟩ := evO_inv hI x _ _ h
  have hrun : ∀ ad, a.eval x = .pointer (some ad) → (execOp a.eval o).run P w = .ok (.value (.pointer (some ad))) w := fun ad hb => by
    unfold execOp; rw [ho]; simp [hb]
  split at h3
  · have h1' := h1
    obtain ⟨b, g1, g2⟩ := h1
    exact sim_put hI hd (hrun _ g2) (g2 ▸ h1') h2 h3
  · have h1' := h1
    obtain ⟨g1, _⟩ := h1
    generalize hv : a.eval x = v at g1
    cases g1 with
    | rp cs b o u hcell hh => exact sim_put hI hd (hrun _ hv) (hv ▸ h1') h2 h3
  · exact h3.elim
theorem sim_extract {x : Operand} {i : Nat} (ho : o.op = .extract x i) (hI : InvO F0 B nt w0 ow σ a w) (hd : ∀ d, o.dst = some d → d < nt) (h : (opA P T o).run PC σ K) : o.wp P a w (Sim F0 B nt w0 σ K) Q := by
  unfold opA at h
  rw [ho] at h
  obtain ⟨p, R0, h1, h2, h3⟩ := evO_inv hI x _ _ h
  split at h3
  · rename_i vs
    obtain ⟨g1, g2⟩ := h1
    generalize hv : a.eval x = v at g1 g2
    cases g1 with
    | tu cs us hl hh =>
      cases hq : vs[i]? with
      | none => rw [hq] at h3; exact h3.elim
      | some q =>
        rw [hq] at h3
        have hi : i < us.size := by have := (List.getElem?_eq_some_iff.1 hq).1; omega
        have hu : us[i]? = some us[i] := Array.getElem?_eq_getElem hi
        have hrun : (execOp a.eval o).run P w = .ok (.value us[i]) w := by
          unfold execOp; rw [ho]; simp [hv, Instr.extract, hi]
        have hr := hh i q us[i] hq hu
        have hown := g2 us i q us[i] rfl hq hu
        have hne : ∀ t o, q ≠ .pt t o := fun t o e => by subst e; cases hr
        have htok : tokOk σ q := by
          have : ∀ (l : List PV) (j : Nat) (q : PV), allP (tokOk σ) l → l[j]? = some q → tokOk σ q := by
            intro l
            induction l with
            | nil => intro j q _ hj; simp at hj
            | cons y r ih =>
              intro j q hl hj
              cases j with
              | zero => simp at hj; subst hj; exact hl.1
              | succ j => exact ih j q hl.2 (by simpa using hj)
          exact this vs i q h2 hq
        cases q with
        | tu ps => exact sim_put (PC := PC) (p := .any) hI hd hrun ⟨.any _, trivial⟩ trivial h3
        | pt t o => exact absurd rfl (hne _ _)
        | sl k z xs => exact sim_put (PC := PC) (p := .sl k z xs) hI hd hrun ⟨hr, hown⟩ htok h3
        | s y => exact sim_put (PC := PC) (p := .s y) hI hd hrun ⟨hr, hown⟩ trivial h3
        | tt => exact sim_put (PC := PC) (p := .tt) hI hd hrun ⟨hr, hown⟩ trivial h3
        | ff => exact sim_put (PC := PC) (p := .ff) hI hd hrun ⟨hr, hown⟩ trivial h3
        | ag cs => exact sim_put (PC := PC) (p := .ag cs) hI hd hrun ⟨hr, hown⟩ trivial h3
        | rp cs => exact sim_put (PC := PC) (p := .rp cs) hI hd hrun ⟨hr, hown⟩ trivial h3
        | fr n z => cases hr
        | any => exact sim_put (PC := PC) (p := .any) hI hd hrun ⟨hr, hown⟩ trivial h3
  · exact h3.elim
theorem sim_unOp {op : UnOp} {t : TypeId} {x : Operand} (ho : o.op = .unOp op t x) (hI : InvO F0 B nt w0 ow σ a w) (hd : ∀ d, o.dst = some d → d < nt) (h : (opA P T o).run PC σ K) : o.wp P a w (Sim F0 B nt w0 σ K) Q := by
  unfold opA at h
  rw [ho] at h
  cases op with
  | not =>
    obtain ⟨p, R0, h1, h2, h3⟩ := evO_inv hI x _ _ h
    have hrun : ∀ b, a.eval x = .bool b → (execOp a.eval o).run P w = .ok (.value (.bool (!b))) w := fun b hb => by
      unfold execOp; rw [ho]; simp [hb, Op.unary]
    split at h3
    · have e := (h1.rep (fun _ _ => by simp)).s_eq
      exact sim_plain hI hd (hrun _ e) rfl (.s _) h3
    · exact sim_plain hI hd (hrun _ h1.1.tt_eq) rfl .ff h3
    · exact sim_plain hI hd (hrun _ h1.1.ff_eq) rfl .tt h3
    · exact h3.elim
  | neg =>
    obtain ⟨p, R0, h1, h2, h3⟩ := evO_inv hI x _ _ h
    split at h3
    · have e := (h1.rep (fun _ _ => by simp)).s_eq
      refine sim_plain hI hd ?_ rfl (.s _) h3
      unfold execOp; rw [ho]; simp [e, Op.unary, Op.intArith]
    · exact h3.elim
  | xor => exact h.elim
  | plus => exact h.elim
theorem sim_convert {s t : TypeId} {x : Operand} (hT : TabOk P T) (ho : o.op = .convert s t x) (hI : InvO F0 B nt w0 ow σ a w) (hd : ∀ d, o.dst = some d → d < nt) (h : (opA P T o).run PC σ K) : o.wp P a w (Sim F0 B nt w0 σ K) Q := by
  unfold opA at h
  rw [ho] at h
  obtain ⟨p, R0, h1, h2, h3⟩ := evO_inv hI x _ _ h
  split at h3
  · have e := (h1.rep (fun _ _ => by simp)).s_eq
    split at h3
    · rename_i k' n1 b1 z1 i2 g1 g2
      obtain ⟨d1, u1, v1⟩ := (hT _ _ g1).und
      obtain ⟨d2, u2, v2⟩ := (hT _ _ g2).und
      rw [show d1 = .int k' from v1] at u1
      refine sim_plain hI hd ?_ rfl (.s _) h3
      unfold execOp; rw [ho]; simp [e, convert, run_underlying u1, run_underlying u2, Conv.intToInt]
    · exact h3.elim
  · have e := (h1.rep (fun _ _ => by simp)).s_eq
    cases hb : T.isStr s && T.isStr t
    · rw [hb] at h3; exact h3.elim
    · rw [hb] at h3
      rw [Bool.and_eq_true] at hb
      refine sim_plain hI hd ?_ rfl (.s _) h3
      unfold execOp; rw [ho]; simp [e, convert, run_underlying (isStr_und hT hb.1), run_underlying (isStr_und hT hb.2)]
  · exact h3.elim
theorem sim_makeFunc {fn : Fn} {fs cs : Array Operand} (ho : o.op = .makeFunc fn fs cs) (hI : InvO F0 B nt w0 ow σ a w) (hd : ∀ d, o.dst = some d → d < nt) (h : (opA P T o).run PC σ K) : o.wp P a w (Sim F0 B nt w0 σ K) Q := by
  unfold opA at h
  rw [ho] at h
  cases hc : fs.isEmpty && cs.isEmpty
  · simp only [hc, cond_false] at h; exact h.elim
  · simp only [hc, cond_true] at h
    rw [Bool.and_eq_true, Array.isEmpty_iff, Array.isEmpty_iff] at hc
    obtain ⟨rfl, rfl⟩ := hc
    refine sim_plain (R0 := []) hI hd ?_ rfl (.s _) h
    unfold execOp; rw [ho]; simp [Instr.makeFunc]
theorem fldOk {t : TypeId} {fs : List (Nat × Bool × Nat)} {i : TyI} (hT : TabOk P T) (ht : T.get t = some i) (hk : i.k = .st fs) : ∃ fields, P.underlying t = some (.struct fields) ∧ ∀ (f off : Nat) (ag : Bool) (n : Nat), fs[f]? = some (off, ag, n) → ∃ fd, fields[f]? = some fd ∧ fd.offset = off ∧ (∃ ti, P.info? fd.type = some ti ∧ ti.size = n ∧ 0 < n) ∧ ∃ d', P.underlying fd.type = some d' ∧ d'.isRow = ag := by
  obtain ⟨d, h1, h2⟩ := (hT t i ht).und
  rw [hk] at h2
  obtain ⟨fields, rfl, _, h3⟩ := h2
  exact ⟨fields, h1, h3⟩
theorem sim_fieldAddr {t : TypeId} {x : Operand} {f : Nat} (hT : TabOk P T) (ho : o.op = .fieldAddr t x f) (hI : InvO F0 B nt w0 ow σ a w) (hd : ∀ d, o.dst = some d → d < nt) (h : (opA P T o).run PC σ K) : o.wp P a w (Sim F0 B nt w0 σ K) Q := by
  unfold opA at h
  rw [ho] at h
  obtain ⟨p, R0, h1, h2, h3⟩ := evO_inv hI x _ _ h
  have hrun : ∀ fs fields fd b k, P.underlying t = some (.struct fields) → fields[f]? = some fd → (∃ ti n, P.info? fd.type = some ti ∧ ti.size = n ∧ 0 < n) → a.eval x = .pointer (some ⟨b, k, none⟩) → fs = fd.offset → (execOp a.eval o).run P w = .ok (.value (.pointer (some ⟨b, k + fs, none⟩))) w := by
    intro fs fields fd b k g1 g2 ⟨ti, n, g5, g6, g7⟩ g3 g4
    subst g4
    have : ti.size ≠ 0 := by omega
    unfold execOp; rw [ho]; simp [g3, Instr.fieldAt, run_underlying g1, g2, Instr.sureAddr, fieldPlace, sizeOf, typeInfo, g5, this, Addr.add_lit]
  split at h3
  · rename_i fs n by_ z b k ht
    split at h3
    · rename_i off ag m hf
      obtain ⟨fields, u1, u2⟩ := fldOk hT ht rfl
      obtain ⟨fd, v1, v2, v3, _⟩ := u2 f off ag m hf
      obtain ⟨g, g1, g2⟩ := h1
      exact sim_put (p := .pt b (k + off)) hI hd (hrun off fields fd g k u1 v1 ⟨_, _, v3.choose_spec⟩ g2 v2.symm) ⟨g, g1, rfl⟩ h2 h3
    · exact h3.elim
  · rename_i fs n by_ z cs ht
    split at h3
    · rename_i off ag m hf
      obtain ⟨fields, u1, u2⟩ := fldOk hT ht rfl
      obtain ⟨fd, v1, v2, v3, _⟩ := u2 f off ag m hf
      obtain ⟨g1, _⟩ := h1
      generalize hv : a.eval x = v at g1
      cases g1 with
      | rp cs b k u hcell hh =>
        refine sim_plain hI hd (hrun off fields fd b k u1 v1 ⟨_, _, v3.choose_spec⟩ hv v2.symm) rfl (.rp _ b (k + off) (fun j => u (off + j)) (fun j hj => ?_) (fun j p hp => ?_)) h3
        · rw [List.length_drop] at hj
          rw [Nat.add_assoc]
          exact hcell (off + j) (by omega)
        · rw [List.getElem?_drop] at hp
          exact hh (off + j) p hp
    · exact h3.elim
  · exact h3.elim
theorem allP_get {f : PV → Prop} : ∀ {l : List PV} {j : Nat} {q : PV}, allP f l → l[j]? = some q → f q
  | [], j, q, _, hj => by simp at hj
  | y :: r, 0, q, hl, hj => by simp at hj; subst hj; exact hl.1
  | y :: r, j + 1, q, hl, hj => allP_get hl.2 (by simpa using hj)
theorem plain_ro {F : Nat → Nat → Prop} {p : PV} {v : Value} (h : RepC F w p v) (h1 : v.oneCell' = true) : plainP p.ro = true := by
  cases h <;> first | rfl | simp [Value.oneCell'] at h1
theorem isAgg_run {t : TypeId} {i : TyI} (hT : TyOk P t i) (w : World) : (isAgg t).run P w = .ok i.agg w := by
  obtain ⟨d, h1, h2⟩ := hT.agg
  unfold isAgg
  rw [Sem.run_bind, run_underlying h1 w, ← h2]
  cases d <;> simp
theorem sizeOf_run {t : TypeId} {i : TyI} (hT : TyOk P t i) (w : World) : (sizeOf t).run P w = .ok i.size w := by
  obtain ⟨ti, z, h1, h2, _⟩ := hT.info
  simp [sizeOf, typeInfo, h1, h2]
theorem loadVar_agg {t : TypeId} {i : TyI} (hT : TyOk P t i) (hag : i.agg = true) (b k : Nat) (cs : List Value) (hl : cs.length = i.size) (hc : w.rangeAt b k cs) : (Instr.loadAt t (.pointer (some ⟨b, k, none⟩))).run P w = .ok (.agg cs.toArray) w := by
  obtain ⟨d, h1, h2⟩ := hT.agg
  obtain ⟨ti, z, g1, g2, _⟩ := hT.info
  exact run_loadAt_mid w b k t cs d hc h1 (h2.trans hag) (by rw [g1]; simp [g2, hl])
theorem loadVar_sc {t : TypeId} {i : TyI} (hT : TyOk P t i) (hag : i.agg = false) (b k : Nat) (v : Value) (hc : w.cell? ⟨b, k, none⟩ = some v) : (Instr.loadAt t (.pointer (some ⟨b, k, none⟩))).run P w = .ok v w := by
  simp [Instr.loadAt, Instr.sureAddr, loadVar, isAgg_run hT, hag, load, Sem.run, hc]
theorem sim_load {t : TypeId} {x : Operand} (hT : TabOk P T) (ho : o.op = .load t x) (hI : InvO F0 B nt w0 ow σ a w) (hd : ∀ d, o.dst = some d → d < nt) (h : (opA P T o).run PC σ K) : o.wp P a w (Sim F0 B nt w0 σ K) Q := by
  unfold opA at h
  rw [ho] at h
  obtain ⟨p, R0, h1, h2, h3⟩ := evO_inv hI x _ _ h
  have hrun : ∀ v, (Instr.loadAt t (a.eval x)).run P w = .ok v w → (execOp a.eval o).run P w = .ok (.value v) w := fun v hv => by
    unfold execOp; rw [ho]; simp [hv]
  split at h3
  · rename_i i b k ht
    have hti := hT t i ht
    obtain ⟨g, g1, g2⟩ := h1
    obtain ⟨_, cs, c, Ty, b1, b2, b3, b4⟩ := hI.boxes g b 0 g1
    have hw := hI.wf (3 * b + 1)
    simp only [AM.run, force_eq, b1] at h3
    rw [b1] at hw
    have htok : allP (tokOk σ) cs := by
      have : Nat.beq ((3 * b + 1) % 3) 1 = true := by rw [show (3 * b + 1) % 3 = 1 by omega]; rfl
      simp only [wf1, this, cond_true] at hw
      exact hw
    have hcell : ∀ j v, c[j]? = some v → w.cell? ⟨g, j, none⟩ = some v := fun j v hv => (cell_of_row w g j c Ty (0, 0) b2).trans hv
    cases hag : i.agg
    · rw [hag] at h3
      simp only [cond_false] at h3
      cases hk : cs[k]? with
      | none => rw [hk] at h3; exact h3.elim
      | some q =>
        rw [hk] at h3
        have hkl : k < c.size := by have := (List.getElem?_eq_some_iff.1 hk).1; omega
        have hv : c[k]? = some c[k] := Array.getElem?_eq_getElem hkl
        obtain ⟨o1, o2, o3⟩ := b4 k q c[k] hk hv
        have hr := hrun _ (g2 ▸ loadVar_sc hti hag g k _ (hcell k _ hv))
        have ht := allP_get htok hk
        have hput : ∀ R ws, K (R0 ++ (3 * b + 1) :: R) ws → K ((R0 ++ [3 * b + 1]) ++ R) ws := fun R ws hk => by rw [List.append_assoc]; exact hk
        replace h3 := run_mono _ hput h3
        cases q with
        | sl k z xs => exact sim_put (PC := PC) (p := .sl k z xs) hI hd hr ⟨o2, o3⟩ ht h3
        | pt t o => cases o2
        | fr n z => cases o2
        | tu ps =>
          generalize hvv : c[k] = v at o1 o2
          cases o2
          simp [Value.oneCell'] at o1
        | s y => exact sim_put (PC := PC) (p := .s y) hI hd hr ⟨o2, o3⟩ trivial h3
        | tt => exact sim_put (PC := PC) (p := .tt) hI hd hr ⟨o2, o3⟩ trivial h3
        | ff => exact sim_put (PC := PC) (p := .ff) hI hd hr ⟨o2, o3⟩ trivial h3
        | ag cs => exact sim_put (PC := PC) (p := .ag cs) hI hd hr ⟨o2, o3⟩ trivial h3
        | rp cs => exact sim_put (PC := PC) (p := .rp cs) hI hd hr ⟨o2, o3⟩ trivial h3
        | any => exact sim_put (PC := PC) (p := .any) hI hd hr ⟨o2, o3⟩ trivial h3
    · rw [hag] at h3
      simp only [cond_true] at h3
      cases hbl : Nat.ble (k + i.size) cs.length
      · rw [hbl] at h3; exact h3.elim
      · rw [hbl] at h3
        have hle := Nat.le_of_ble_eq_true hbl
        have hlen : ((c.toList.drop k).take i.size).length = i.size := by simp; omega
        have hget : ∀ j, j < i.size → ((c.toList.drop k).take i.size)[j]? = c[k + j]? := fun j hj => by
          rw [List.getElem?_take, if_pos hj, List.getElem?_drop]; simp
        have hr := hrun _ (g2 ▸ loadVar_agg hti hag g k ((c.toList.drop k).take i.size) hlen (fun j v hv => by
          have hj : j < i.size := by have := (List.getElem?_eq_some_iff.1 hv).1; omega
          rw [hget j hj] at hv
          exact hcell _ _ hv))
        have hput : ∀ R ws, K (R0 ++ (3 * b + 1) :: R) ws → K ((R0 ++ [3 * b + 1]) ++ R) ws := fun R ws hk => by rw [List.append_assoc]; exact hk
        refine sim_plain (PC := PC) (p := .ag (((cs.drop k).take i.size).map PV.ro)) hI hd hr rfl (.ag _ _ ?_ ?_ ?_) (run_mono _ hput h3)
        · simp; omega
        · intro v hv
          obtain ⟨j, hj, hjv⟩ := List.getElem_of_mem hv
          have hj2 : j < i.size := by simpa [hlen] using hj
          have hv2 : c[k + j]? = some v := by
            rw [← hget j hj2, ← hjv]; exact List.getElem?_eq_getElem (by simpa using hj)
          have hjc : k + j < cs.length := by omega
          exact (b4 (k + j) cs[k + j] v (List.getElem?_eq_getElem hjc) hv2).1
        · intro j p v hp hv
          have hj : j < i.size := by
            have := (Array.getElem?_eq_some_iff.1 hv).1
            simp at this; omega
          rw [List.getElem?_map, List.getElem?_take, if_pos hj, List.getElem?_drop] at hp
          have hv2 : c[k + j]? = some v := by rw [← hget j hj]; simpa using hv
          obtain ⟨q, hq, rfl⟩ := Option.map_eq_some_iff.1 hp
          exact (b4 (k + j) q v hq hv2).2.1.ro
  · rename_i i cs ht
    have hti := hT t i ht
    obtain ⟨g1, _⟩ := h1
    generalize hv : a.eval x = v at g1
    cases g1 with
    | rp cs b k u hcell hh =>
      cases hag : i.agg
      · rw [hag] at h3
        simp only [cond_false] at h3
        cases hk : cs[0]? with
        | none => rw [hk] at h3; exact h3.elim
        | some q =>
          rw [hk] at h3
          obtain ⟨c1, c2, c3⟩ := hcell 0 (List.getElem?_eq_some_iff.1 hk).1
          have hr := hh 0 q hk
          exact sim_plain (PC := PC) hI hd (hrun _ (hv ▸ loadVar_sc hti hag b k _ c1)) (plain_ro hr c3) hr.ro h3
      · rw [hag] at h3
        simp only [cond_true] at h3
        cases hbl : Nat.ble i.size cs.length
        · rw [hbl] at h3; exact h3.elim
        · rw [hbl] at h3
          have hle := Nat.le_of_ble_eq_true hbl
          have hget : ∀ j, j < i.size → ((List.range i.size).map u)[j]? = some (u j) := fun j hj => by simp [hj]
          have hra : w.rangeAt b k ((List.range i.size).map u) := fun j v hv => by
            have hj : j < i.size := by have := (List.getElem?_eq_some_iff.1 hv).1; simpa using this
            rw [hget j hj] at hv
            cases hv
            exact (hcell j (by omega)).1
          refine sim_plain (PC := PC) (p := .ag (cs.take i.size)) hI hd (hrun _ (hv ▸ loadVar_agg hti hag b k ((List.range i.size).map u) (by simp) hra)) rfl (.ag _ _ ?_ ?_ ?_) h3
          · simp; omega
          · intro v hv
            simp only [List.mem_map, List.mem_range] at hv
            obtain ⟨j, hj, rfl⟩ := hv
            exact (hcell j (by omega)).2.2
          · intro j p v hp hv
            have hj : j < i.size := by have := (Array.getElem?_eq_some_iff.1 hv).1; simpa using this
            rw [List.getElem?_take, if_pos hj] at hp
            have hv2 : v = u j := by
              have : ((List.range i.size).map u)[j]? = some v := by simpa using hv
              rw [hget j hj] at this; cases this; rfl
            rw [hv2]
            exact hh j p hp
  · exact h3.elim
theorem sim_field {t : TypeId} {x : Operand} {f : Nat} (hT : TabOk P T) (ho : o.op = .field t x f) (hI : InvO F0 B nt w0 ow σ a w) (hd : ∀ d, o.dst = some d → d < nt) (h : (opA P T o).run PC σ K) : o.wp P a w (Sim F0 B nt w0 σ K) Q := by
  unfold opA at h
  rw [ho] at h
  obtain ⟨p, R0, h1, h2, h3⟩ := evO_inv hI x _ _ h
  split at h3
  · rename_i fs n by_ z cs ht
    split at h3
    · rename_i off ag m hf
      obtain ⟨fields, u1, u2⟩ := fldOk hT ht rfl
      obtain ⟨fd, v1, v2, ⟨ti, v3, v4, v5⟩, d', v6, v7⟩ := u2 f off ag m hf
      obtain ⟨g1, _⟩ := h1
      cases hbl : Nat.ble (off + m) cs.length
      · rw [hbl] at h3; exact h3.elim
      rw [hbl] at h3
      simp only [cond_true] at h3
      have hle := Nat.le_of_ble_eq_true hbl
      generalize hv : a.eval x = v at g1
      cases g1 with
      | ag cs vs hl hone hh =>
        have hagg : (isAgg fd.type).run P w = .ok ag w := by
          unfold isAgg
          rw [Sem.run_bind, run_underlying v6 w, ← v7]
          cases d' <;> simp
        cases ag
        · simp only [cond_false] at h3
          cases hk : cs[off]? with
          | none => rw [hk] at h3; exact h3.elim
          | some q =>
            rw [hk] at h3
            have hko : off < vs.size := by have := (List.getElem?_eq_some_iff.1 hk).1; omega
            have hvk : vs[off]? = some vs[off] := Array.getElem?_eq_getElem hko
            have hr := hh off q _ hk hvk
            refine sim_plain (PC := PC) hI hd (v := vs[off]) ?_ (plain_ro hr (hone _ (by simp))) hr.ro h3
            unfold execOp; rw [ho]; simp [hv, Instr.field, run_underlying u1, v1, asAgg, part, hagg, v2, hvk]
        · simp only [cond_true] at h3
          refine sim_plain (PC := PC) (p := .ag ((cs.drop off).take m)) hI hd (v := .agg (vs.extract off (off + m))) ?_ rfl (.ag _ _ ?_ ?_ ?_) h3
          · unfold execOp; rw [ho]; simp [hv, Instr.field, run_underlying u1, v1, asAgg, part, hagg, v2, sizeOf, typeInfo, v3, v4]
          · simp; omega
          · intro v hv
            refine hone v ?_
            rw [Array.toList_extract] at hv
            exact List.mem_of_mem_drop (List.mem_of_mem_take hv)
          · intro j p v hp hv
            rw [List.getElem?_take] at hp
            split at hp
            · rename_i hj
              rw [List.getElem?_drop] at hp
              rw [Array.getElem?_extract] at hv
              split at hv
              · exact hh (off + j) p v hp hv
              · cases hv
            · cases hp
    · exact h3.elim
  · exact h3.elim
theorem idx_some {xs : List PV} {i : Int} {x : PV} (h : idx xs i = some x) : 0 ≤ i ∧ i.toNat < xs.length ∧ xs[i.toNat]? = some x := by
  unfold idx at h
  split at h
  · exact ⟨by assumption, (List.getElem?_eq_some_iff.1 h).1, h⟩
  · cases h
theorem sim_indexAddr {t : TypeId} {x y : Operand} (hT : TabOk P T) (ho : o.op = .indexAddr t x y) (hI : InvO F0 B nt w0 ow σ a w) (hd : ∀ d, o.dst = some d → d < nt) (h : (opA P T o).run PC σ K) : o.wp P a w (Sim F0 B nt w0 σ K) Q := by
  unfold opA at h
  rw [ho] at h
  obtain ⟨p, R0, h1, h2, h3⟩ := evO_inv hI x _ _ h
  obtain ⟨q, R1, k1, k2, k3⟩ := evO_inv hI y _ _ h3
  replace k3 := run_mono (K' := fun R ws => K ((R0 ++ R1) ++ R) ws) _ (fun R ws hk => by rw [List.append_assoc]; exact hk) k3
  split at k3
  · rename_i e n by_ zz kk z xs ik i ht
    obtain ⟨d, hu, hk⟩ := (hT _ _ ht).und
    obtain rfl : d = .slice e := hk
    have ey := (k1.rep (fun _ _ => by simp)).s_eq
    split at k3
    · rename_i ie hte
      cases hz : Nat.beq z ie.size
      · rw [hz] at k3; exact k3.elim
      rw [hz] at k3
      have hz' := Nat.eq_of_beq_eq_true hz
      obtain ⟨x', hx', k4⟩ := k3
      obtain ⟨i0, i1, i2⟩ := idx_some hx'
      have g1 := h1.rep (fun _ _ => by simp)
      generalize hv : a.eval x = v at g1
      cases g1 with
      | nil => simp at i1
      | emp => simp at i1
      | sl k z xs b off cap u hc hzz hcell hh =>
        have hlen := hzz x' (List.mem_of_getElem? i2)
        refine sim_plain (PC := PC) (p := .rp x'.cells) hI hd (v := .pointer (some ⟨b, off + i.toNat * z, none⟩)) ?_ rfl (.rp _ b (off + i.toNat * z) (u i.toNat) (fun j hj => hcell _ j i1 (by omega)) (fun j p hp => hh _ x' j p i2 hp)) k4
        have hlt : i < (xs.length : Int) := by omega
        unfold execOp; rw [ho]; simp [hv, ey, Instr.indexAt, asIntOf, run_underlying hu, i0, hlt, sizeOf_run (hT _ _ hte), ← hz', Addr.add_lit]
    · exact k3.elim
  · exact k3.elim
theorem sim_index {t : TypeId} {x y : Operand} (hT : TabOk P T) (ho : o.op = .index t x y) (hI : InvO F0 B nt w0 ow σ a w) (hd : ∀ d, o.dst = some d → d < nt) (h : (opA P T o).run PC σ K) : o.wp P a w (Sim F0 B nt w0 σ K) Q := by
  unfold opA at h
  rw [ho] at h
  obtain ⟨p, R0, h1, h2, h3⟩ := evO_inv hI x _ _ h
  obtain ⟨q, R1, k1, k2, k3⟩ := evO_inv hI y _ _ h3
  replace k3 := run_mono (K' := fun R ws => K ((R0 ++ R1) ++ R) ws) _ (fun R ws hk => by rw [List.append_assoc]; exact hk) k3
  split at k3
  · rename_i s ik i
    cases hb : T.isStr t
    · rw [hb] at k3; exact k3.elim
    rw [hb] at k3
    have hu := isStr_und hT hb
    obtain ⟨x', hx', k4⟩ := k3
    have ex := (h1.rep (fun _ _ => by simp)).s_eq
    have ey := (k1.rep (fun _ _ => by simp)).s_eq
    unfold strIdx at hx'
    split at hx'
    · rename_i i0
      obtain ⟨b, hb, rfl⟩ := Option.map_eq_some_iff.1 hx'
      refine sim_plain (PC := PC) hI hd ?_ rfl (.s _) k4
      unfold execOp; rw [ho]; simp [ex, ey, Instr.index, asIntOf, run_underlying hu, i0, hb]
    · cases hx'
  · exact k3.elim
theorem sim_bopI {op : BinOp} {t t' : TypeId} {x y : Operand} (ho : o.op = .binOp op t x y t') (hI : InvO F0 B nt w0 ow σ a w) (hd : ∀ d, o.dst = some d → d < nt) {k : IntKind} {m n : Int} {R0 : List Nat}
    (ex : a.eval x = .int k m) (ey : a.eval y = .int k n) (h : (bopI o.dst op k m n).run PC σ fun R ws => K (R0 ++ R) ws) : o.wp P a w (Sim F0 B nt w0 σ K) Q := by
  have hrun : ∀ v, (binOp op t (.int k m) (.int k n)).run P w = .ok v w → (execOp a.eval o).run P w = .ok (.value v) w := fun v hv => by
    unfold execOp; rw [ho]
    have hg : (eqGuard op t x y (.int k m) (.int k n)).run P w = .ok () w := by
      unfold eqGuard
      cases op <;> rfl
    simp [ex, ey, hg, hv]
  unfold bopI at h
  split at h
  · exact sim_plain hI hd (hrun _ (by simp [binOp, Op.intArith])) rfl (.s _) h
  · exact sim_plain hI hd (hrun _ (by simp [binOp, Op.intArith])) rfl (.s _) h
  · exact sim_plain hI hd (hrun _ (by simp [binOp, Op.intArith])) rfl (.s _) h
  · exact sim_plain hI hd (hrun _ (by simp [binOp, Op.intDiv, h.1])) rfl (.s _) h.2
  · exact sim_plain hI hd (hrun _ (by simp [binOp, Op.intDiv, h.1])) rfl (.s _) h.2
  · exact sim_plain hI hd (hrun _ (by simp [binOp, Op.intCmp])) rfl (.s _) h
  · exact sim_plain hI hd (hrun _ (by simp [binOp, Op.intCmp])) rfl (.s _) h
  · exact sim_plain hI hd (hrun _ (by simp [binOp, Op.intCmp])) rfl (.s _) h
  · exact sim_plain hI hd (hrun _ (by simp [binOp, Op.intCmp])) rfl (.s _) h
  · exact sim_plain hI hd (hrun _ (by simp [binOp, Op.intCmp])) rfl (.s _) h
  · exact sim_plain hI hd (hrun _ (by simp [binOp, Op.intCmp])) rfl (.s _) h
  · exact h.elim
theorem sim_bopS {op : BinOp} {t t' : TypeId} {x y : Operand} (ho : o.op = .binOp op t x y t') (hI : InvO F0 B nt w0 ow σ a w) (hd : ∀ d, o.dst = some d → d < nt) {m n : ByteArray} {R0 : List Nat}
    (ex : a.eval x = .string m) (ey : a.eval y = .string n) (h : (bopS o.dst op m n).run PC σ fun R ws => K (R0 ++ R) ws) : o.wp P a w (Sim F0 B nt w0 σ K) Q := by
  have hrun : ∀ v, (Op.stringOp op m n).run P w = .ok v w → (execOp a.eval o).run P w = .ok (.value v) w := fun v hv => by
    unfold execOp; rw [ho]
    have hg : (eqGuard op t x y (.string m) (.string n)).run P w = .ok () w := by
      unfold eqGuard
      cases op <;> rfl
    have hb : binOp op t (.string m) (.string n) = Op.stringOp op m n := by cases op <;> rfl
    simp [ex, ey, hg, hb, hv]
  unfold bopS at h
  split at h
  · have h1 := h.1
    exact sim_plain hI hd (hrun _ (by
      have : ¬ ((m.size + n.size : Nat) : Int) > IntKind.i64.max := by omega
      unfold Op.stringOp; simp only []; rw [if_neg this]; rfl)) rfl (.s _) h.2
  · exact sim_plain hI hd (hrun _ (by simp [Op.stringOp])) rfl (.s _) h
  · exact sim_plain hI hd (hrun _ (by simp [Op.stringOp])) rfl (.s _) h
  · exact sim_plain hI hd (hrun _ (by simp [Op.stringOp])) rfl (.s _) h
  · exact sim_plain hI hd (hrun _ (by simp [Op.stringOp])) rfl (.s _) h
  · exact sim_plain hI hd (hrun _ (by simp [Op.stringOp])) rfl (.s _) h
  · exact sim_plain hI hd (hrun _ (by simp [Op.stringOp])) rfl (.s _) h
  · exact h.elim
theorem cellsEq_s : ∀ {ps qs : List PV} {b : Bool} {xs ys : List Value}, cellsEq ps qs = some b → ps.length = xs.length → qs.length = ys.length → (∀ (j : Nat) p v, ps[j]? = some p → xs[j]? = some v → RepC (FF F0 ow) w p v) → (∀ (j : Nat) p v, qs[j]? = some p → ys[j]? = some v → RepC (FF F0 ow) w p v) →
    ps = xs.map PV.s ∧ qs = ys.map PV.s
  | [], [], b, xs, ys, _, hx, hy, _, _ => by
    obtain rfl := List.eq_nil_of_length_eq_zero hx.symm
    obtain rfl := List.eq_nil_of_length_eq_zero hy.symm
    exact ⟨rfl, rfl⟩
  | p :: ps, q :: qs, b, x :: xs, y :: ys, h, hx, hy, h1, h2 => by
    have key : ∃ c, cellsEq ps qs = some c ∧ ∃ s t, p = .s s ∧ q = .s t := by
      unfold cellsEq at h
      split at h <;> first
        | (simp_all; done)
        | (simp_all; rcases h with h | h <;> simp [h.1])
    obtain ⟨c, hc, s, t, rfl, rfl⟩ := key
    have ih := cellsEq_s hc (by simpa using hx) (by simpa using hy) (fun j p v a b => h1 (j + 1) p v (by simpa using a) (by simpa using b)) (fun j p v a b => h2 (j + 1) p v (by simpa using a) (by simpa using b))
    have e1 := (h1 0 _ _ rfl rfl).s_eq
    have e2 := (h2 0 _ _ rfl rfl).s_eq
    subst e1 e2
    rw [ih.1, ih.2]
    exact ⟨rfl, rfl⟩
  | p :: ps, q :: qs, b, [], ys, h, hx, hy, h1, h2 => by simp at hx
  | p :: ps, q :: qs, b, x :: xs, [], h, hx, hy, h1, h2 => by simp at hy
  | [], q :: qs, b, xs, ys, h, hx, hy, h1, h2 => by simp [cellsEq] at h
  | p :: ps, [], b, xs, ys, h, hx, hy, h1, h2 => by simp [cellsEq] at h
theorem equal_bool {t : TypeId} (hu : P.underlying t = some .bool) (m n : Bool) (w : World) : (Op.equal t (.bool m) (.bool n)).run P w = .ok (m == n) w := by
  rw [show Op.equal t (.bool m) (.bool n) = Op.equalIn (9999 + 1) t (.bool m) (.bool n) from rfl, Op.equalIn, Sem.run_bind, run_underlying hu]
  rfl
theorem sim_binOp {op : BinOp} {t t' : TypeId} {x y : Operand} (hT : TabOk P T) (ho : o.op = .binOp op t x y t') (hI : InvO F0 B nt w0 ow σ a w) (hd : ∀ d, o.dst = some d → d < nt) (h : (opA P T o).run PC σ K) : o.wp P a w (Sim F0 B nt w0 σ K) Q := by
  unfold opA at h
  rw [ho] at h
  obtain ⟨p, R0, h1, h2, h3⟩ := evO_inv hI x _ _ h
  obtain ⟨q, R1, k1, k2, k3⟩ := evO_inv hI y _ _ h3
  replace k3 := run_mono (K' := fun R ws => K ((R0 ++ R1) ++ R) ws) _ (fun R ws hk => by rw [List.append_assoc]; exact hk) k3
  have nbr : ∀ p v, RepT F0 B ow w σ p v → (∀ t o, p.nb ≠ .pt t o) → RepC (FF F0 ow) w p.nb v := fun p v hp hn => (hp.rep (fun t o e => hn t o (by rw [e]; rfl))).nb
  unfold bopA at k3
  split at k3
  · rename_i k m k' n e1 e2
    have ex := (e1 ▸ nbr p _ h1 (fun _ _ => by rw [e1]; simp)).s_eq
    have ey := (e2 ▸ nbr q _ k1 (fun _ _ => by rw [e2]; simp)).s_eq
    split at k3
    · rename_i hk _
      subst hk
      exact sim_bopI ho hI hd ex ey k3
    · exact k3.elim
  · rename_i m n e1 e2
    have ex := (e1 ▸ nbr p _ h1 (fun _ _ => by rw [e1]; simp)).s_eq
    have ey := (e2 ▸ nbr q _ k1 (fun _ _ => by rw [e2]; simp)).s_eq
    exact sim_bopS ho hI hd ex ey k3
  · rename_i m n e1 e2
    have ex := (e1 ▸ nbr p _ h1 (fun _ _ => by rw [e1]; simp)).s_eq
    have ey := (e2 ▸ nbr q _ k1 (fun _ _ => by rw [e2]; simp)).s_eq
    split at k3
    · cases hb : T.isBo t
      · rw [hb] at k3; exact k3.elim
      rw [hb] at k3
      refine sim_plain hI hd (v := .bool (m == n)) ?_ rfl (.s _) k3
      unfold execOp; rw [ho]; simp [ex, ey, eqGuard, binOp, equal_bool (isBo_und hT hb)]
    · cases hb : T.isBo t
      · rw [hb] at k3; exact k3.elim
      rw [hb] at k3
      refine sim_plain hI hd (v := .bool (!(m == n))) ?_ rfl (.s _) k3
      unfold execOp; rw [ho]; simp [ex, ey, eqGuard, binOp, equal_bool (isBo_und hT hb)]
    · exact k3.elim
  · rename_i ps qs e1 e2
    have ex := e1 ▸ nbr p _ h1 (fun _ _ => by rw [e1]; simp)
    have ey := e2 ▸ nbr q _ k1 (fun _ _ => by rw [e2]; simp)
    generalize hvx : a.eval x = vx at ex
    generalize hvy : a.eval y = vy at ey
    cases ex with
    | ag ps xs hl hone hh =>
      cases ey with
      | ag qs ys hl2 hone2 hh2 =>
        have hcs : ∀ b, cellsEq ps qs = some b → cellsEq (xs.toList.map PV.s) (ys.toList.map PV.s) = some b := fun b hb => by
          obtain ⟨u1, u2⟩ := cellsEq_s (w := w) (F0 := F0) (ow := ow) (xs := xs.toList) (ys := ys.toList) hb (by simpa using hl) (by simpa using hl2) (fun j p v a b => hh j p v a (by simpa using b)) (fun j p v a b => hh2 j p v a (by simpa using b))
          rw [← u1, ← u2]; exact hb
        split at k3
        · rename_i i ht
          cases hkd : kindsP i.zero ps && kindsP i.zero qs
          · rw [hkd] at k3; exact k3.elim
          rw [hkd] at k3
          rw [Bool.and_eq_true] at hkd
          simp only [cond_true] at k3
          split at k3
          · rename_i b hb
            obtain ⟨u1, u2⟩ := cellsEq_s (w := w) (F0 := F0) (ow := ow) (xs := xs.toList) (ys := ys.toList) hb (by simpa using hl) (by simpa using hl2) (fun j p v a b => hh j p v a (by simpa using b)) (fun j p v a b => hh2 j p v a (by simpa using b))
            obtain ⟨g1, g2⟩ := k3.1 w xs ys b (u1 ▸ hkd.1) (u2 ▸ hkd.2) (hcs b hb)
            refine sim_plain hI hd (v := .bool b) ?_ rfl (.s _) k3.2
            unfold execOp; rw [ho]; simp [hvx, hvy, (g2 x y).1, binOp, g1]
          · rename_i b hb
            obtain ⟨u1, u2⟩ := cellsEq_s (w := w) (F0 := F0) (ow := ow) (xs := xs.toList) (ys := ys.toList) hb (by simpa using hl) (by simpa using hl2) (fun j p v a b => hh j p v a (by simpa using b)) (fun j p v a b => hh2 j p v a (by simpa using b))
            obtain ⟨g1, g2⟩ := k3.1 w xs ys b (u1 ▸ hkd.1) (u2 ▸ hkd.2) (hcs b hb)
            refine sim_plain hI hd (v := .bool (!b)) ?_ rfl (.s _) k3.2
            unfold execOp; rw [ho]; simp [hvx, hvy, (g2 x y).2, binOp, g1]
          · exact k3.elim
        · exact k3.elim
  · exact k3.elim
theorem slice_run {t e : TypeId} {lo hi mx : Option Operand} {x : Operand} (ho : o.op = .slice t x lo hi mx) (hu : P.underlying t = some (.slice e)) {r : Value}
    (hr : (Instr.slice t (a.eval x) (lo.map a.eval) (hi.map a.eval) (mx.map a.eval)).run P w = .ok r w) : (execOp a.eval o).run P w = .ok (.value r) w := by
  unfold execOp; rw [ho]; simp [Instr.sliceAt, run_underlying hu, hr]
theorem slice_runS {t : TypeId} {lo hi mx : Option Operand} {x : Operand} (ho : o.op = .slice t x lo hi mx) (hu : P.underlying t = some .string) {r : Value}
    (hr : (Instr.slice t (a.eval x) (lo.map a.eval) (hi.map a.eval) (mx.map a.eval)).run P w = .ok r w) : (execOp a.eval o).run P w = .ok (.value r) w := by
  unfold execOp; rw [ho]; simp [Instr.sliceAt, run_underlying hu, hr]
end
section
variable {P : Program} {T : Tab} {PC : Orc} {Q : Exit → Act → World → Prop} {o : Oper} {a : Act} {w : World} {B nt : Nat} {w0 : World} {F0 : Nat → Nat → Prop} {ow : Ow} {σ : St} {K : List Nat → List (Nat × PV) → Prop}
theorem run_sliceBound (k : IntKind) (i : Int) (y : Nat) (c : BoundsCode) (h0 : 0 ≤ i) (h1 : i ≤ y) : (Instr.sliceBound (.int k i) y c).run P w = .ok i.toNat w := by
  simp [Instr.sliceBound, asIntOf, h0, h1]
def loIs (v : Option Value) (l : Int) : Prop := (v = none ∧ l = 0) ∨ ∃ k, v = some (.int k l)
def hiIs (v : Option Value) (n : Nat) (h : Int) : Prop := (v = none ∧ h = n) ∨ ∃ k, v = some (.int k h)
theorem run_bounds (isS : Bool) (n c : Nat) (hnc : n ≤ c) (lo hi : Option Value) (l h : Int) (hlo : loIs lo l) (hhi : hiIs hi n h) (h0 : 0 ≤ l) (h1 : l ≤ h) (h2 : h ≤ n) :
    (Instr.sliceBounds isS n c lo hi none).run P w = .ok (l.toNat, h.toNat, c) w := by
  have e1 : (h.toNat : Int) = h := Int.toNat_of_nonneg (by omega)
  rcases hlo with ⟨rfl, rfl⟩ | ⟨k, rfl⟩ <;> rcases hhi with ⟨rfl, rfl⟩ | ⟨k', rfl⟩
  · simp [Instr.sliceBounds]
  · simp [Instr.sliceBounds, run_sliceBound k' h c _ (by omega) (by omega)]
  · simp [Instr.sliceBounds, run_sliceBound k l n _ h0 (by omega)]
  · have : (Instr.sliceBound (.int k l) h.toNat .sliceB).run P w = .ok l.toNat w := run_sliceBound k l h.toNat _ h0 (by omega)
    simp [Instr.sliceBounds, run_sliceBound k' h c _ (by omega) (by omega), this]
theorem run_sliceStr {t : TypeId} (hu : P.underlying t = some .string) (s : ByteArray) (lo hi : Option Value) (l h : Int) (hlo : loIs lo l) (hhi : hiIs hi s.size h) (h0 : 0 ≤ l) (h1 : l ≤ h) (h2 : h ≤ s.size) :
    (Instr.slice t (.string s) lo hi none).run P w = .ok (.string (s.extract l.toNat h.toNat)) w := by
  simp [Instr.slice, run_underlying hu, run_bounds false s.size s.size (Nat.le_refl _) lo hi l h hlo hhi h0 h1 h2]
theorem run_sliceSl {t e : TypeId} {ie : TyI} (hu : P.underlying t = some (.slice e)) (hT : TyOk P e ie) (A : Option Addr) (n c : Nat) (hnc : n ≤ c) (lo hi : Option Value) (l h : Int) (hlo : loIs lo l) (hhi : hiIs hi n h) (h0 : 0 ≤ l) (h1 : l ≤ h) (h2 : h ≤ n) :
    (Instr.slice t (.slice A n c) lo hi none).run P w = .ok (.slice (if c = l.toNat then A else A.map (·.add (l.toNat * ie.size))) (h.toNat - l.toNat) (c - l.toNat)) w := by
  simp [Instr.slice, run_underlying hu, run_bounds true n c hnc lo hi l h hlo hhi h0 h1 h2, sizeOf_run hT]
theorem run_slice3 {t e : TypeId} {ie : TyI} (hu : P.underlying t = some (.slice e)) (hT : TyOk P e ie) (A : Option Addr) (n c : Nat) (hnc : n ≤ c) (k k' : IntKind) (h : Int) (h0 : 0 ≤ h) (h2 : h ≤ n) :
    (Instr.slice t (.slice A n c) none (some (.int k h)) (some (.int k' h))).run P w = .ok (.slice A h.toNat h.toNat) w := by
  have e1 : (h.toNat : Int) = h := Int.toNat_of_nonneg (by omega)
  have b1 : (Instr.sliceBound (.int k' h) c .slice3Acap).run P w = .ok h.toNat w := run_sliceBound k' h c _ h0 (by omega)
  have b2 : (Instr.sliceBound (.int k h) h.toNat .slice3B).run P w = .ok h.toNat w := run_sliceBound k h _ _ h0 (by omega)
  simp [Instr.slice, run_underlying hu, Instr.sliceBounds, b1, b2, sizeOf_run hT]
  intro _
  cases A <;> simp [Addr.add]
theorem RepC.sl_len {F : Nat → Nat → Prop} {k z : Nat} {xs : List PV} {v : Value} (hr : RepC F w (.sl k z xs) v) : ∃ A c, v = .slice A xs.length c ∧ xs.length ≤ c := by
  cases hr with
  | nil => exact ⟨none, 0, rfl, Nat.le_refl _⟩
  | emp k z a cap => exact ⟨some a, cap, rfl, Nat.zero_le _⟩
  | sl k z xs b o cap u hc hz hcell hh => exact ⟨_, _, rfl, hc⟩
theorem RepC.cut {F : Nat → Nat → Prop} {k k' z : Nat} {xs : List PV} {A : Option Addr} {n c l h c' : Nat} (hr : RepC F w (.sl k z xs) (.slice A n c)) (h1 : l ≤ h) (h2 : h ≤ xs.length) (hc' : h - l ≤ c') (hn : A = none → c' = 0) :
    RepC F w (.sl k' z ((xs.take h).drop l)) (.slice (if c = l then A else A.map (·.add (l * z))) (h - l) c') := by
  generalize hv : Value.slice A n c = v at hr
  cases hr with
  | nil =>
    injection hv with e1 e2 e3
    subst e1
    subst e2
    subst e3
    simp at h2
    subst h2
    obtain rfl : l = 0 := by omega
    obtain rfl := hn rfl
    simp
    exact .nil _ _
  | emp k z a cap =>
    injection hv with e1 e2 e3
    subst e1
    subst e2
    subst e3
    simp at h2
    subst h2
    obtain rfl : l = 0 := by omega
    have e0 : (if c = 0 then some a else (some a).map (·.add (0 * z))) = some a := by split <;> simp [Addr.add]
    rw [e0]
    simp
    exact .emp _ _ _ _
  | sl k z xs b o cap u hc hz hcell hh =>
    injection hv with e1 e2 e3
    subst e1
    subst e2
    subst e3
    have hlen : ((xs.take h).drop l).length = h - l := by simp; omega
    have hget : ∀ i x, ((xs.take h).drop l)[i]? = some x → xs[l + i]? = some x := fun i x hx => by
      rw [List.getElem?_drop, List.getElem?_take] at hx
      split at hx
      · exact hx
      · cases hx
    by_cases hcl : c = l
    · rw [if_pos hcl]
      have e0 : (xs.take h).drop l = [] := List.eq_nil_of_length_eq_zero (by omega)
      have hz0 : h - l = 0 := by omega
      rw [e0, hz0]
      exact .sl k' z [] b o c' u (Nat.zero_le _) (fun x hx => by cases hx) (fun i j hi _ => by simp at hi) (fun i x j p hi _ => by simp at hi)
    · rw [if_neg hcl, ← hlen]
      simp only [Option.map_some, Addr.add_lit]
      refine .sl k' z _ b (o + l * z) c' (fun i j => u (l + i) j) (by omega) (fun x hx => hz x (List.mem_of_mem_take (List.mem_of_mem_drop hx))) (fun i j hi hj => ?_) (fun i x j p hx hp => hh (l + i) x j p (hget i x hx) hp)
      have := hcell (l + i) j (by omega) hj
      rw [Nat.add_mul] at this
      rw [show o + l * z + i * z + j = o + (l * z + i * z) + j by omega]
      exact this
theorem RepC.cut0 {F : Nat → Nat → Prop} {k k' z : Nat} {xs : List PV} {A : Option Addr} {n c h : Nat} (hr : RepC F w (.sl k z xs) (.slice A n c)) (h2 : h ≤ xs.length) (hn : A = none → h = 0) :
    RepC F w (.sl k' z (xs.take h)) (.slice A h h) := by
  have := RepC.cut (k' := k') (l := 0) (c' := h) hr (Nat.zero_le _) h2 (by omega) hn
  simp only [Nat.zero_mul, List.drop_zero, Nat.sub_zero] at this
  have e : (if c = 0 then A else A.map (·.add 0)) = A := by cases A <;> simp [Addr.add]
  rw [e] at this
  exact this
theorem sim_slice {t : TypeId} {x : Operand} {lo hi mx : Option Operand} (hT : TabOk P T) (ho : o.op = .slice t x lo hi mx) (hI : InvO F0 B nt w0 ow σ a w) (hd : ∀ d, o.dst = some d → d < nt) (h : (opA P T o).run PC σ K) : o.wp P a w (Sim F0 B nt w0 σ K) Q := by
  unfold opA at h
  rw [ho] at h
  obtain ⟨p, R0, h1, h2, h3⟩ := evO_inv hI x _ _ h
  clear h
  split at h3
  · rename_i s
    have ex := (h1.rep (fun _ _ => by simp)).s_eq
    have fin : ∀ (l h : Int) (R1 : List Nat), loIs (lo.map a.eval) l → hiIs (hi.map a.eval) s.size h → mx = none →
        (bif T.isStr t then AM.need (0 ≤ l ∧ l ≤ h ∧ h ≤ s.size) (Ev.put o.dst (.s (.string (s.extract l.toNat h.toNat)))) else .bad).run PC σ (fun R ws => K (R1 ++ R) ws) → o.wp P a w (Sim F0 B nt w0 σ K) Q := by
      intro l h R1 hl hh hm hk
      cases hb : T.isStr t
      · rw [hb] at hk; exact hk.elim
      rw [hb] at hk
      have u1 := isStr_und hT hb
      obtain ⟨⟨u2, u3, u4⟩, u5⟩ := hk
      refine sim_plain (PC := PC) hI hd (slice_runS ho u1 (r := .string (s.extract l.toNat h.toNat)) ?_) rfl (.s _) u5
      subst hm
      rw [ex]
      exact run_sliceStr u1 s _ _ l h hl hh u2 u3 u4
    simp only [] at h3
    split at h3
    · exact fin _ _ _ (Or.inl ⟨rfl, rfl⟩) (Or.inl ⟨rfl, rfl⟩) rfl h3
    · rename_i lo'
      obtain ⟨q, R1, k1, k2, k3⟩ := evO_inv hI lo' _ _ h3
      replace k3 := run_mono (K' := fun R ws => K ((R0 ++ R1) ++ R) ws) _ (fun R ws hk => by rw [List.append_assoc]; exact hk) k3
      split at k3
      · have ey := (k1.rep (fun _ _ => by simp)).s_eq
        exact fin _ _ _ (Or.inr ⟨_, congrArg some ey⟩) (Or.inl ⟨rfl, rfl⟩) rfl k3
      · exact k3.elim
    · rename_i hi'
      obtain ⟨q, R1, k1, k2, k3⟩ := evO_inv hI hi' _ _ h3
      replace k3 := run_mono (K' := fun R ws => K ((R0 ++ R1) ++ R) ws) _ (fun R ws hk => by rw [List.append_assoc]; exact hk) k3
      split at k3
      · have ey := (k1.rep (fun _ _ => by simp)).s_eq
        exact fin _ _ _ (Or.inl ⟨rfl, rfl⟩) (Or.inr ⟨_, congrArg some ey⟩) rfl k3
      · exact k3.elim
    · rename_i lo' hi'
      obtain ⟨q, R1, k1, k2, k3⟩ := evO_inv hI lo' _ _ h3
      obtain ⟨q', R2, m1, m2, m3⟩ := evO_inv hI hi' _ _ k3
      replace m3 := run_mono (K' := fun R ws => K ((R0 ++ (R1 ++ R2)) ++ R) ws) _ (fun R ws hk => by rw [List.append_assoc, List.append_assoc]; exact hk) m3
      split at m3
      · have ey := (k1.rep (fun _ _ => by simp)).s_eq
        have ez := (m1.rep (fun _ _ => by simp)).s_eq
        exact fin _ _ _ (Or.inr ⟨_, congrArg some ey⟩) (Or.inr ⟨_, congrArg some ez⟩) rfl m3
      · exact m3.elim
    · exact h3.elim
  · rename_i k z xs
    split at h3
    · rename_i e n by_ zz ht
      obtain ⟨d, hu, hk⟩ := (hT _ _ ht).und
      obtain rfl : d = .slice e := hk
      split at h3
      · rename_i ie hte
        have hr := h1.rep (fun _ _ => by simp)
        obtain ⟨A, c, ev, hlc⟩ := hr.sl_len
        rw [ev] at hr
        have fin : ∀ (l h : Int) (R1 : List Nat), loIs (lo.map a.eval) l → hiIs (hi.map a.eval) xs.length h → mx = none →
            (bif Nat.beq z ie.size then AM.need (0 ≤ l ∧ l ≤ h ∧ h ≤ xs.length) (Ev.put o.dst (.sl 0 z ((xs.take h.toNat).drop l.toNat))) else .bad).run PC σ (fun R ws => K (R1 ++ R) ws) → o.wp P a w (Sim F0 B nt w0 σ K) Q := by
          intro l h R1 hl hh hm hk
          cases hz : Nat.beq z ie.size
          · rw [hz] at hk; exact hk.elim
          rw [hz] at hk
          have hz' := Nat.eq_of_beq_eq_true hz
          obtain ⟨⟨u2, u3, u4⟩, u5⟩ := hk
          refine sim_plain (PC := PC) hI hd (slice_run ho hu (r := .slice (if c = l.toNat then A else A.map (·.add (l.toNat * ie.size))) (h.toNat - l.toNat) (c - l.toNat)) ?_) rfl ?_ u5
          · subst hm
            rw [ev]
            exact run_sliceSl hu (hT _ _ hte) A _ c hlc _ _ l h hl hh u2 u3 u4
          · rw [← hz']
            refine hr.cut (by omega) (by omega) (by omega) (fun e => ?_)
            subst e
            generalize hvv : Value.slice none xs.length c = vv at hr
            cases hr with
            | nil => injection hvv with _ _ e3; omega
            | emp => injection hvv with e1 _ _; cases e1
            | sl => injection hvv with e1 _ _; cases e1
        simp only [] at h3
        split at h3
        · exact fin _ _ _ (Or.inl ⟨rfl, rfl⟩) (Or.inl ⟨rfl, rfl⟩) rfl h3
        · rename_i lo'
          obtain ⟨q, R1, k1, k2, k3⟩ := evO_inv hI lo' _ _ h3
          replace k3 := run_mono (K' := fun R ws => K ((R0 ++ R1) ++ R) ws) _ (fun R ws hk => by rw [List.append_assoc]; exact hk) k3
          split at k3
          · have ey := (k1.rep (fun _ _ => by simp)).s_eq
            exact fin _ _ _ (Or.inr ⟨_, congrArg some ey⟩) (Or.inl ⟨rfl, rfl⟩) rfl k3
          · exact k3.elim
        · rename_i hi'
          obtain ⟨q, R1, k1, k2, k3⟩ := evO_inv hI hi' _ _ h3
          replace k3 := run_mono (K' := fun R ws => K ((R0 ++ R1) ++ R) ws) _ (fun R ws hk => by rw [List.append_assoc]; exact hk) k3
          split at k3
          · have ey := (k1.rep (fun _ _ => by simp)).s_eq
            exact fin _ _ _ (Or.inl ⟨rfl, rfl⟩) (Or.inr ⟨_, congrArg some ey⟩) rfl k3
          · exact k3.elim
        · rename_i lo' hi'
          obtain ⟨q, R1, k1, k2, k3⟩ := evO_inv hI lo' _ _ h3
          obtain ⟨q', R2, m1, m2, m3⟩ := evO_inv hI hi' _ _ k3
          replace m3 := run_mono (K' := fun R ws => K ((R0 ++ (R1 ++ R2)) ++ R) ws) _ (fun R ws hk => by rw [List.append_assoc, List.append_assoc]; exact hk) m3
          split at m3
          · have ey := (k1.rep (fun _ _ => by simp)).s_eq
            have ez := (m1.rep (fun _ _ => by simp)).s_eq
            exact fin _ _ _ (Or.inr ⟨_, congrArg some ey⟩) (Or.inr ⟨_, congrArg some ez⟩) rfl m3
          · exact m3.elim
        · rename_i hi' mx'
          obtain ⟨q, R1, k1, k2, k3⟩ := evO_inv hI hi' _ _ h3
          obtain ⟨q', R2, m1, m2, m3⟩ := evO_inv hI mx' _ _ k3
          replace m3 := run_mono (K' := fun R ws => K ((R0 ++ (R1 ++ R2)) ++ R) ws) _ (fun R ws hk => by rw [List.append_assoc, List.append_assoc]; exact hk) m3
          split at m3
          · have ey := (k1.rep (fun _ _ => by simp)).s_eq
            have ez := (m1.rep (fun _ _ => by simp)).s_eq
            obtain ⟨rfl, hk⟩ := m3
            cases hz : Nat.beq z ie.size
            · rw [hz] at hk; exact hk.elim
            rw [hz] at hk
            obtain ⟨⟨u2, u3, u4⟩, u5⟩ := hk
            rename_i h _
            have hcut : RepC (FF F0 ow) w (.sl 1 z (xs.take h.toNat)) (.slice A h.toNat h.toNat) := hr.cut0 (by omega) (fun e => by
              subst e
              generalize hvv : Value.slice none xs.length c = vv at hr
              cases hr with
              | nil => injection hvv with _ _ e3; simp at u4; omega
              | emp => injection hvv with e1 _ _; cases e1
              | sl => injection hvv with e1 _ _; cases e1)
            simp only [Int.toNat_zero, List.drop_zero] at u5
            refine sim_put (PC := PC) (p := .sl 1 z (xs.take h.toNat)) hI hd (slice_run ho hu (r := .slice A h.toNat h.toNat) ?_) ⟨hcut, ?_⟩ trivial u5
            · rw [ev]
              show (Instr.slice t _ none (some (a.eval hi')) (some (a.eval mx'))).run P w = _
              rw [ey, ez]
              exact run_slice3 hu (hT _ _ hte) A _ c hlc _ _ h u3 u4
            · have : (xs.take h.toNat).length = h.toNat := by simp; omega
              exact ⟨A, by rw [this]⟩
          · exact m3.elim
        · exact h3.elim
      · exact h3.elim
    · exact h3.elim
  · exact h3.elim
theorem sim_len {c : Call} (hT : TabOk P T) (ho : o.op = .call c) (hc : c.callee = .builtin .len) (hI : InvO F0 B nt w0 ow σ a w) (hd : ∀ d, o.dst = some d → d < nt) (h : (opA P T o).run PC σ K) : o.wp P a w (Sim F0 B nt w0 σ K) Q := by
  unfold opA at h
  rw [ho] at h
  simp only [hc] at h
  split at h
  · rename_i t ht
    have htt : c.argTypes[0]? = some t := by rw [← Array.getElem?_toList, ht]; rfl
    obtain ⟨ps, R0, h1, h3⟩ := evOs_inv hI _ _ _ h
    have hrun : ∀ v r, c.args.toList.map a.eval = [v] → (Builtin.len_ c.argTypes o.type #[v]).run P w = .ok r w → (execOp a.eval o).run P w = .ok (.value r) w := fun v r hv hr => by
      have e : c.args.map a.eval = #[v] := by
        apply Array.toList_inj.1; rw [Array.toList_map]; exact hv
      unfold execOp; rw [ho]; simp [resolve, hc, invoke, builtin, e, hr]
    split at h3
    · rename_i k z xs
      cases hb : T.isSl t
      · rw [hb] at h3; exact h3.elim
      rw [hb] at h3
      obtain ⟨e, hu⟩ := isSl_und hT hb
      generalize hvs : c.args.toList.map a.eval = vs at h1
      match vs, h1 with
      | [v], h1 =>
        obtain ⟨A, cp, ev, _⟩ := (h1.1.1.rep (fun _ _ => by simp)).sl_len
        subst ev
        exact sim_plain hI hd (hrun _ _ hvs (by simp [Builtin.len_, goInt, htt, run_underlying hu])) rfl (.s _) h3
      | [], h1 => exact h1.elim
      | _ :: _ :: _, h1 => exact h1.2.elim
    · rename_i s
      cases hb : T.isStr t
      · rw [hb] at h3; exact h3.elim
      rw [hb] at h3
      have hu := isStr_und hT hb
      generalize hvs : c.args.toList.map a.eval = vs at h1
      match vs, h1 with
      | [v], h1 =>
        have ev := (h1.1.1.rep (fun _ _ => by simp)).s_eq
        subst ev
        exact sim_plain hI hd (hrun _ _ hvs (by simp [Builtin.len_, goInt, htt, run_underlying hu])) rfl (.s _) h3
      | [], h1 => exact h1.elim
      | _ :: _ :: _, h1 => exact h1.2.elim
    · exact h3.elim
  · exact h.elim
end
structure Ext (w w' : World) : Prop where
  os : w'.os = w.os
  tape : w'.tape = w.tape
  output : w'.output = w.output
  size : w.heap.size ≤ w'.heap.size
  block : ∀ k, k < w.heap.size → w'.heap[k]? = w.heap[k]?
theorem Ext.of {w w' : World} (h : Below w.heap.size w w') : Ext w w' := ⟨h.os, h.tape, h.output, h.size, h.block⟩
theorem Ext.below {w w' : World} (h : Ext w w') {B : Nat} (hB : B ≤ w.heap.size) : Below B w w' := ⟨h.os, h.tape, h.output, h.size, fun k hk => h.block k (by omega)⟩
theorem Ext.refl (w : World) : Ext w w := ⟨rfl, rfl, rfl, Nat.le_refl _, fun _ _ => rfl⟩
theorem Ext.cell {w w' : World} (h : Ext w w') {b o : Nat} {u : Value} (hc : w.cell? ⟨b, o, none⟩ = some u) : w'.cell? ⟨b, o, none⟩ = some u :=
  (World.cell?_of_block (h.block b (World.block_lt_of_cell? w ⟨b, o, none⟩ hc))).trans hc
theorem Ext.owns {w w' : World} (h : Ext w w') {B e z n : Nat} {v : Value} {xs : List Value} (ho : w.ownsRow B e z v n xs) : w'.ownsRow B e z v n xs := by
  refine ⟨ho.1, ?_⟩
  rcases ho.2 with hn | ⟨g, cap, cur, rfl, hb, hgg, rest⟩
  · exact .inl hn
  · exact .inr ⟨g, cap, cur, rfl, hb, (h.block g (Array.getElem?_eq_some_iff.1 hgg).1).trans hgg, rest⟩
section
variable {B nt : Nat} {w0 w w' : World} {F0 : Nat → Nat → Prop} {ow ow' : Ow} {σ σ' : St} {a : Act} {p : PV} {v : Value}
theorem RepC.ext (h : RepC (FF F0 ow) w p v) (he : Ext w w') (ho : ∀ b, b < w.heap.size → ow' b = ow b) : RepC (FF F0 ow') w' p v :=
  h.mono fun b o u hc hf => ⟨he.cell hc, hf.1, fun c l e => hf.2 c l (by rw [← ho b (World.block_lt_of_cell? w ⟨b, o, none⟩ hc)]; exact e)⟩
theorem Own.ext (h : Own B ow w σ p v) (he : Ext w w') (ho : ∀ b, b < w.heap.size → ow' b = ow b) : Own B ow' w' σ p v := by
  unfold Own at *
  split at h
  · exact h
  · intro z hz
    rcases h z hz with h | ⟨e, cells, h1, h2⟩
    · exact Or.inl h
    · exact Or.inr ⟨e, cells, he.owns h1, fun g hg => by rw [ho g (h1.lt g hg).2]; exact h2 g hg⟩
  · trivial
theorem RepT.ext (h : RepT F0 B ow w σ p v) (he : Ext w w') (ho : ∀ b, b < w.heap.size → ow' b = ow b) (hb : ∀ b c l, ow b = some (c, l) → b < w.heap.size) : RepT F0 B ow' w' σ p v := by
  cases p with
  | pt t o =>
    obtain ⟨b, h1, h2⟩ := h
    exact ⟨b, by rw [ho b (hb _ _ _ h1)]; exact h1, h2⟩
  | tu ps => exact ⟨h.1.ext he ho, fun vs i p u h1 h2 h3 => (h.2 vs i p u h1 h2 h3).ext he ho⟩
  | _ => exact ⟨RepC.ext h.1 he ho, Own.ext h.2 he ho⟩
theorem BoxAt.ext {t b : Nat} (h : BoxAt F0 B ow w σ t b) (he : Ext w w') (ho : ∀ b, b < w.heap.size → ow' b = ow b) : BoxAt F0 B ow' w' σ t b := by
  obtain ⟨cs, c, T, h1, h2, h3, h4⟩ := h
  exact ⟨cs, c, T, h1, (he.block b (Array.getElem?_eq_some_iff.1 h2).1).trans h2, h3, fun j p v x y => ⟨(h4 j p v x y).1, (h4 j p v x y).2.1.ext he ho, (h4 j p v x y).2.2.ext he ho⟩⟩
theorem InvO.ext (hI : InvO F0 B nt w0 ow σ a w) (he : Ext w w') : InvO F0 B nt w0 ow σ a w' :=
  have hb : ∀ b c l, ow b = some (c, l) → b < w.heap.size := fun b c l h => (hI.owB b c l h).2
  ⟨hI.defers, hI.size, hI.low, hI.newF, hI.below.trans (he.below (Nat.le_trans hI.low hI.below.size)), fun t => (hI.tms t).ext he (fun _ _ => rfl) hb,
   fun b t l h => ⟨(hI.boxes b t l h).1, (hI.boxes b t l h).2.ext he (fun _ _ => rfl)⟩, hI.uniq, fun b c l h => ⟨(hI.owB b c l h).1, Nat.lt_of_lt_of_le (hI.owB b c l h).2 he.size⟩, hI.wf⟩
theorem InvO.lowW (hI : InvO F0 B nt w0 ow σ a w) : B ≤ w.heap.size := Nat.le_trans hI.low hI.below.size
theorem ext_alloc (w : World) (o : Obj) : Ext w (w.alloc o) := ⟨rfl, rfl, rfl, by simp, fun k hk => heap_alloc_old w o hk⟩
theorem ap1_self (k : Nat) (p : PV) (σ : St) : ap [(k, p)] σ k = p := ap_self k p [] σ
theorem ap1_ne {k l : Nat} (p : PV) (σ : St) (h : l ≠ k) : ap [(k, p)] σ l = σ l := ap_ne p [] σ h
theorem wf1_box {d : Nat} {cs : List PV} (l : Nat) (p : PV) (h : wf1 σ l p) : wf1 (ap [(3 * d + 1, .ag cs)] σ) l p := by
  have ht : ∀ k, ap [(3 * d + 1, PV.ag cs)] σ (3 * k + 2) = σ (3 * k + 2) := fun k => ap1_ne _ _ (by omega)
  unfold wf1 at *
  split at h
  · rename_i t o
    by_cases htd : t = d
    · subst htd; rw [ap1_self]; trivial
    · rw [ap1_ne _ _ (by omega)]; exact h
  · exact allP_mono (tokOk_congr ht) _ h
  · cases hq : Nat.beq (l % 3) 1
    · trivial
    · rw [hq] at h; exact allP_mono (tokOk_congr ht) _ h
  · exact tokOk_congr ht _ h
theorem mod_box (d : Nat) : Nat.beq ((3 * d + 1) % 3) 1 = true := by rw [show (3 * d + 1) % 3 = 1 by omega]; rfl
theorem tok_congr1 {d : Nat} {p : PV} : ∀ k, ap [(3 * d + 1, p)] σ (3 * k + 2) = σ (3 * k + 2) := fun k => ap1_ne _ _ (by omega)
theorem InvO.box (hI : InvO F0 B nt w0 ow σ a w) {d : Nat} (hd : σ (3 * d + 1) = .any) (cs : List PV) (c : Array Value) (T : TypeId) (hl : cs.length = c.size)
    (hc : ∀ (j : Nat) (p : PV) (v : Value), cs[j]? = some p → c[j]? = some v → v.oneCell' = true ∧ RepC (FF F0 ow) w p v ∧ Own B ow w σ p v) (ht : allP (tokOk σ) cs) :
    InvO F0 B nt w0 (fun b => if b = w.heap.size then some (2 * d, 0) else ow b) (ap [(3 * d + 1, .ag cs)] σ) a (w.alloc (.cells c T (0, 0))) := by
  have he := ext_alloc w (.cells c T (0, 0))
  have ho : ∀ b, b < w.heap.size → (fun b => if b = w.heap.size then some (2 * d, 0) else ow b) b = ow b := fun b hb => if_neg (by omega)
  have hb : ∀ b c l, ow b = some (c, l) → b < w.heap.size := fun b c l h => (hI.owB b c l h).2
  have hne : ∀ b t l, ow b = some (2 * t, l) → t ≠ d := fun b t l h e => by
    subst e
    obtain ⟨_, cs', c', T', h1, _⟩ := hI.boxes b t l h
    rw [hd] at h1; cases h1
  have htk := tok_congr1 (σ := σ) (d := d) (p := .ag cs)
  refine ⟨hI.defers, hI.size, hI.low, hI.newF, hI.below.trans (he.below hI.lowW), fun t => ?_, fun b t l h => ?_, fun b b' t l l' h h' => ?_, fun b c l h => ?_, fun l => ?_⟩
  · rw [ap1_ne _ _ (by omega)]
    exact ((hI.tms t).ext he ho hb).congr htk
  · by_cases hbs : b = w.heap.size
    · subst hbs
      simp only [if_true] at h
      injection h with h
      injection h with h1 h2
      obtain rfl : d = t := by omega
      refine ⟨h2.symm, cs, c, T, ap1_self _ _ _, heap_alloc_new w _, hl, fun j p v x y => ?_⟩
      obtain ⟨g1, g2, g3⟩ := hc j p v x y
      exact ⟨g1, g2.ext he ho, (g3.ext he ho).congr htk⟩
    · simp only [if_neg hbs] at h
      obtain ⟨e, cs', c', T', g1, g2⟩ := (hI.boxes b t l h)
      obtain ⟨cs'', c'', T'', k1, k2, k3, k4⟩ := (hI.boxes b t l h).2.ext he ho
      have htd := hne b t l h
      exact ⟨e, cs'', c'', T'', by rw [ap1_ne _ _ (by omega)]; exact k1, k2, k3, fun j p v x y => ⟨(k4 j p v x y).1, (k4 j p v x y).2.1, (k4 j p v x y).2.2.congr htk⟩⟩
  · by_cases h1 : b = w.heap.size <;> by_cases h2 : b' = w.heap.size
    · omega
    · simp only [if_pos h1, if_neg h2] at h h'
      injection h with h
      injection h with h3 h4
      exact absurd (show t = d by omega) (hne _ _ _ h')
    · simp only [if_neg h1, if_pos h2] at h h'
      injection h' with h'
      injection h' with h3 h4
      exact absurd (show t = d by omega) (hne _ _ _ h)
    · simp only [if_neg h1, if_neg h2] at h h'
      exact hI.uniq _ _ _ _ _ h h'
  · by_cases h1 : b = w.heap.size
    · exact ⟨by have := hI.lowW; omega, by rw [h1]; simp⟩
    · simp only [if_neg h1] at h
      exact ⟨(hI.owB _ _ _ h).1, Nat.lt_of_lt_of_le (hI.owB _ _ _ h).2 he.size⟩
  · by_cases hld : l = 3 * d + 1
    · subst hld
      rw [ap1_self]
      simp only [wf1, mod_box, cond_true]
      exact allP_mono (tokOk_congr htk) _ ht
    · rw [ap1_ne _ _ hld]
      exact wf1_box _ _ (hI.wf l)
theorem InvO.store (hI : InvO F0 B nt w0 ow σ a w) {d g : Nat} (hg : ow g = some (2 * d, 0)) (cs : List PV) (c c0 : Array Value) (T : TypeId) (h0 : w.heap[g]? = some (.cells c0 T (0, 0))) (hl : cs.length = c.size)
    (hc : ∀ (j : Nat) (p : PV) (v : Value), cs[j]? = some p → c[j]? = some v → v.oneCell' = true ∧ RepC (FF F0 ow) w p v ∧ Own B ow w σ p v) (ht : allP (tokOk σ) cs) :
    InvO F0 B nt w0 ow (ap [(3 * d + 1, .ag cs)] σ) a (w.setRow g c) := by
  have htk := tok_congr1 (σ := σ) (d := d) (p := .ag cs)
  have hrep : ∀ p v, RepC (FF F0 ow) w p v → RepC (FF F0 ow) (w.setRow g c) p v := fun p v h => h.mono fun b o u hcl hf => ⟨by
    have hbg : b ≠ g := fun e => by subst e; exact absurd (hf.2 _ _ hg) (by omega)
    rw [cell_setRow_other w g c ⟨b, o, none⟩ hbg]; exact hcl, hf⟩
  have hown : ∀ p v, Own B ow w σ p v → Own B ow (w.setRow g c) (ap [(3 * d + 1, .ag cs)] σ) p v := fun p v h => by
    refine Own.congr ?_ htk
    unfold Own at *
    split at h
    · exact h
    · intro z hz
      rcases h z hz with h | ⟨e, cells, h1, h2⟩
      · exact Or.inl h
      · refine Or.inr ⟨e, cells, ⟨h1.1, ?_⟩, h2⟩
        rcases h1.2 with hn | ⟨g', cap, cur, rfl, hb, hgg, rest⟩
        · exact Or.inl hn
        · refine Or.inr ⟨g', cap, cur, rfl, hb, ?_, rest⟩
          have hne : g' ≠ g := fun e => by
            subst e
            have := h2 g' rfl
            rw [hg] at this
            injection this with this
            injection this with this _
            omega
          rw [setRow_other w g g' c hne]; exact hgg
    · trivial
  refine ⟨hI.defers, hI.size, hI.low, hI.newF, ?_, fun t => ?_, fun b t l h => ?_, hI.uniq, fun b c' l h => ⟨(hI.owB b c' l h).1, by rw [setRow_size]; exact (hI.owB b c' l h).2⟩, fun l => ?_⟩
  · refine hI.below.trans ⟨rfl, rfl, rfl, by simp, fun k hk => ?_⟩
    have := (hI.owB g _ _ hg).1
    exact setRow_other w g k c (by omega)
  · rw [ap1_ne _ _ (by omega)]
    have h := hI.tms t
    cases hp : σ (3 * t) with
    | pt t' o => rw [hp] at h; exact h
    | tu ps => rw [hp] at h; exact ⟨hrep _ _ h.1, fun vs i p u h1 h2 h3 => hown _ _ (h.2 vs i p u h1 h2 h3)⟩
    | _ => rw [hp] at h; exact ⟨hrep _ _ h.1, hown _ _ h.2⟩
  · by_cases htd : t = d
    · subst htd
      obtain rfl : b = g := hI.uniq _ _ _ _ _ h hg
      refine ⟨(hI.boxes b t l h).1, cs, c, T, ap1_self _ _ _, setRow_heap w b c0 c T (0, 0) h0, hl, fun j p v x y => ?_⟩
      obtain ⟨g1, g2, g3⟩ := hc j p v x y
      exact ⟨g1, hrep _ _ g2, hown _ _ g3⟩
    · obtain ⟨e, cs', c', T', k1, k2, k3, k4⟩ := hI.boxes b t l h
      have hbg : b ≠ g := fun e => by
        subst e
        rw [hg] at h
        injection h with h
        injection h with h _
        omega
      exact ⟨e, cs', c', T', by rw [ap1_ne _ _ (by omega)]; exact k1, by rw [setRow_other w g b c hbg]; exact k2, k3, fun j p v x y => ⟨(k4 j p v x y).1, hrep _ _ (k4 j p v x y).2.1, hown _ _ (k4 j p v x y).2.2⟩⟩
  · by_cases hld : l = 3 * d + 1
    · subst hld
      rw [ap1_self]
      simp only [wf1, mod_box, cond_true]
      exact allP_mono (tokOk_congr htk) _ ht
    · rw [ap1_ne _ _ hld]
      exact wf1_box _ _ (hI.wf l)
end
end Go.Ev
end
