/- The evaluator, second part: operations, regions, code, calls. Definitions alone. -/
import Derived.Test.YtnafjjkjogngjaaE1
set_option linter.unusedVariables false
set_option linter.unusedSimpArgs false
namespace Go.Eng
open Go

structure Eff where
  ok : Bool
  val : V
  heap : Heap
  rd : List Nat := []
  wr : List Nat := []

def Thing.isI (T : TypeId) (k : IntKind) : Thing → Bool
  | .one T' (.int k' _) => T' == T && decide (k' = k)
  | _ => false
def Thing.asI (T : TypeId) (k : IntKind) : Thing → Int
  | .one T' (.int k' n) => if T' == T && decide (k' = k) then n else 0
  | _ => 0
def Thing.isB (T : TypeId) : Thing → Bool
  | .one T' (.bool _) => T' == T
  | _ => false
def Thing.asB (T : TypeId) : Thing → Bool
  | .one T' (.bool b) => T' == T && b
  | _ => false
def Thing.isS (T : TypeId) : Thing → Bool
  | .one T' (.str _) => T' == T
  | _ => false
def Thing.asS (T : TypeId) : Thing → ByteArray
  | .one T' (.str s) => if T' == T then s else ByteArray.empty
  | _ => ByteArray.empty
def Thing.isV (T : TypeId) : Thing → Bool
  | .val T' _ => T' == T
  | _ => false
def Thing.asV (T : TypeId) : Thing → Val
  | .val T' v => if T' == T then v else default
  | _ => default
def Thing.isNil : Thing → Bool
  | .nil => true
  | _ => false

/-- a region's fresh name for an operation's block -/
def pure1 (h : Heap) (v : V) : Option Eff := some { ok := true, val := v, heap := h }

def toD1 : C → Option D
  | .d x => some x
  | _ => none
def toDL : List C → Option (List D)
  | [] => some []
  | c :: cs => match toD1 c, toDL cs with
    | some x, some xs => some (x :: xs)
    | _, _ => none

def putL {α : Type} (cs : List α) (off : Nat) : List α → List α
  | [] => cs
  | x :: xs => putL (cs.set off x) (off + 1) xs

def fieldOf (cx : Cx) (T : TypeId) (i : Nat) : Option (Nat × TypeId) :=
  match cx.tt T with
  | some ⟨.struct fs, _, _, _⟩ => fs[i]?
  | _ => none

def sizeOfT (cx : Cx) (T : TypeId) : Nat := match cx.tt T with
  | some i => i.size
  | none => 0

/-- the parts of a struct's literal, or an array's -/
def fillB (cx : Cx) (T : TypeId) (env : List V) : List (Nat × Operand) → List C → Option (List C)
  | [], cs => some cs
  | (i, x) :: r, cs =>
    match fieldOf cx T i with
    | some (off, F) => match cx.tt F, norm cx F (opv env x) with
      | some fi, .v a ys => if a == fi.agg && ys.length == fi.size && decide (off + ys.length ≤ cs.length) then fillB cx T env r (putL cs off ys) else none
      | _, _ => none
    | none => none

/-- the parts of an array's literal -/
def fillA (cx : Cx) (F : TypeId) (fi : TI) (env : List V) : List (Nat × Operand) → List C → Option (List C)
  | [], cs => some cs
  | (i, x) :: r, cs =>
    match norm cx F (opv env x) with
    | .v a ys => if a == fi.agg && ys.length == fi.size && decide (i * fi.size + ys.length ≤ cs.length) then fillA cx F fi env r (putL cs (i * fi.size) ys) else none
    | _ => none

/-- the elements of a slice's literal -/
def rowsB (cx : Cx) (e : TypeId) (t : ET) (env : List V) (h : Heap) : List (Nat × Operand) → List (Ty t) → List Nat → Bool → Option (List (Ty t) × List Nat × Bool)
  | [], l, ks, p => some (l, ks, p)
  | (i, x) :: r, l, ks, p =>
    match norm cx e (opv env x) with
    | .v _ ys => match demL h ys with
      | some (ds, k, q) => match dec t ds with
        | some y => if i < l.length then rowsB cx e t env h r (l.set i y) (ks ++ k) (p && q) else none
        | none => none
      | none => none
    | _ => none

structure Sl where
  t : ET
  l : List (Ty t)
  full : Bool
  rd : List Nat
  ok : Bool

def slOf (h : Heap) : C → Option Sl
  | .d (.sl _ full t l) => some ⟨t, l, full, [], true⟩
  | .own n t full off len => match lk h n with
    | some (.arr _ t' l) => if e : t' = t then some ⟨t, sub (e ▸ l) off (off + len), full, [n], decide (off + len ≤ l.length)⟩ else none
    | _ => none
  | _ => none

def lenC : C → Option Nat
  | .d (.sl _ _ _ l) => some l.length
  | .d .nils => some 0
  | .own _ _ _ _ len => some len
  | .d (.sc (.str s)) => some s.size
  | _ => none

def bnd (env : List V) : Option Operand → Option (Option Int)
  | none => some none
  | some x => match opv env x with
    | .v false [.d (.sc (.int _ n))] => some (some n)
    | _ => none

/-- low, high, most; and whether they may be: low ≤ high ≤ most ≤ len -/
def cut (len : Nat) (lo hi mx : Option Int) : Bool × Nat × Nat × Bool :=
  let m : Int := mx.getD len
  let h : Int := match hi with
    | some h => h
    | none => len
  let l : Int := lo.getD 0
  ((match lo with | some l => decide (0 ≤ l) && decide (l ≤ h) | none => true) && (match hi with | some h => decide (0 ≤ h) && decide (h ≤ m) | none => true) && (match mx with | some m => decide (0 ≤ m) && decide (m ≤ len) && hi.isSome | none => true),
   (match lo with | some _ => l.toNat | none => 0), (match hi with | some _ => h.toNat | none => len), (match mx with | some m => decide (m = h) | none => match hi with | some h => decide (h = len) | none => true))

def byteAt (s : ByteArray) (i : Nat) : Nat := (s.data[i]?.getD 0).toNat

def fullOf (mx : Option Int) (f full : Bool) : Bool := match mx with
  | some _ => f
  | none => full && f
def offOf (lo : Option Int) (off p : Nat) : Nat := match lo with
  | none => off
  | some _ => off + p
def lenOf (lo : Option Int) (q p : Nat) : Nat := match lo with
  | none => q
  | some _ => q - p

def loadE (cx : Cx) (T : TypeId) (env : List V) (h : Heap) (x : Operand) : Option Eff :=
  match cx.tt T with
  | none => none
  | some i => match opv env x with
    | .v false [.ptr n off] => match lk h n with
      | some (.box _ cs) => if off + i.size ≤ cs.length then some { ok := true, val := .v i.agg (seg cs off i.size), heap := h, rd := [n] } else none
      | _ => none
    | .v false [.ep n t k j] => match lk h n with
      | some (.arr _ t' l) => if e : t' = t then
          (if j + i.size ≤ width t then some { ok := decide (k < l.length), val := .v i.agg (seg ((enc t ((e ▸ l : List (Ty t)).getD k (dflt t))).map .d) j i.size), heap := h, rd := [n] } else none)
        else none
      | _ => none
    | .v false [.d (.ref cs)] => if i.size ≤ cs.length then pure1 h (.v i.agg (seg (cs.map .d) 0 i.size)) else none
    | _ => none

def storeE (cx : Cx) (T : TypeId) (env : List V) (h : Heap) (x y : Operand) : Option Eff :=
  match cx.tt T with
  | none => none
  | some i => match norm cx T (opv env y) with
    | .v _ ys => if ys.length == i.size then
        (match opv env x with
        | .v false [.ptr n off] => match lk h n with
          | some (.box B cs) => if off + i.size ≤ cs.length then some { ok := true, val := .any, heap := h.set n (some (.box B (putL cs off ys))), rd := [n], wr := [n] } else none
          | _ => none
        | .v false [.ep n t k j] => match lk h n, toDL ys with
          | some (.arr B t' l), some ds => if e : t' = t then
              (if j + i.size ≤ width t then match dec t (putL (enc t ((e ▸ l : List (Ty t)).getD k (dflt t))) j ds) with
              | some z => some { ok := decide (k < l.length), val := .any, heap := h.set n (some (.arr B t ((e ▸ l : List (Ty t)).set k z))), rd := [n], wr := [n] }
              | none => none
              else none)
            else none
          | _, _ => none
        | _ => none)
      else none
    | _ => none

def eqSc : Sc → Sc → Option Bool
  | .int k a, .int k' b => if k = k' then some (a == b) else none
  | .bool a, .bool b => some (a == b)
  | .str a, .str b => some (decide (a = b))
  | _, _ => none
def eqRowS : List Sc → List Sc → Option Bool
  | [], [] => some true
  | [a], [b] => eqSc a b
  | a :: x, b :: y => match eqSc a b, eqRowS x y with
    | some p, some q => some (p && q)
    | _, _ => none
  | _, _ => none
def scsOf : List C → Option (List Sc)
  | [] => some []
  | .d (.sc s) :: r => match scsOf r with
    | some l => some (s :: l)
    | none => none
  | _ => none
/-- scalars of the kinds of a zero value's cells -/
def kindsOk : List D → List Sc → Bool
  | [], [] => true
  | .sc (.int k _) :: z, .int k' _ :: x => decide (k = k') && kindsOk z x
  | .sc (.bool _) :: z, .bool _ :: x => kindsOk z x
  | .sc (.str _) :: z, .str _ :: x => kindsOk z x
  | _, _ => false
def eqRow (z : List D) (x y : List C) : Option Bool := match scsOf x, scsOf y with
  | some a, some b => if kindsOk z a && kindsOk z b then eqRowS a b else none
  | _, _ => none

def intBin (op : BinOp) (k : IntKind) (a b : Int) : Option (Bool × V) :=
  match op with
  | .add => some (true, .v false [.d (.sc (.int k (k.wrap (a + b))))])
  | .sub => some (true, .v false [.d (.sc (.int k (k.wrap (a - b))))])
  | .mul => some (true, .v false [.d (.sc (.int k (k.wrap (a * b))))])
  | .quo => some (decide (b ≠ 0), .v false [.d (.sc (.int k (k.wrap (a.tdiv b))))])
  | .rem => some (decide (b ≠ 0), .v false [.d (.sc (.int k (a.tmod b)))])
  | .eql => some (true, .b (a == b))
  | .neq => some (true, .b (a != b))
  | .lss => some (true, .b (decide (a < b)))
  | .leq => some (true, .b (decide (a ≤ b)))
  | .gtr => some (true, .b (decide (a > b)))
  | .geq => some (true, .b (decide (a ≥ b)))
  | _ => none

def strLt (a b : ByteArray) : Bool := Op.bytesLess a.toList b.toList
def strBin (op : BinOp) (a b : ByteArray) : Option (Bool × V) :=
  match op with
  | .eql => some (true, .b (decide (a = b)))
  | .neq => some (true, .b (!decide (a = b)))
  | .lss => some (true, .b (strLt a b))
  | .leq => some (true, .b (strLt a b || decide (a = b)))
  | .gtr => some (true, .b (!(strLt a b || decide (a = b))))
  | .geq => some (true, .b (!strLt a b))
  | _ => none

def D.isSc : D → Bool
  | .sc _ => true
  | _ => false

def binE (cx : Cx) (op : BinOp) (T : TypeId) (yc : Bool) (x y : V) : Option (Bool × V) :=
  match x, y with
  | .v false [.d (.sc (.int k a))], .v false [.d (.sc (.int k' b))] => if k = k' then intBin op k a b else none
  | .v false [.d (.sc (.str a))], .v false [.d (.sc (.str b))] => strBin op a b
  | .v false [.d (.sc (.bool a))], .v false [.d (.sc (.bool b))] => match cx.tt T with
    | some ⟨.bool, _, _, _⟩ => match op with
      | .eql => some (true, .b (a == b))
      | .neq => some (true, .b (!(a == b)))
      | _ => none
    | _ => none
  | .v true xs, .v true ys => match cx.tt T with
    | some ⟨.struct _, _, z, _⟩ => match eqRow z xs ys with
      | some p => if z.all D.isSc then (match op with
        | .eql => some (true, .b p)
        | .neq => some (true, .b (!p))
        | _ => none) else none
      | none => none
    | _ => none
  | .v false [.d (.sl nl _ _ l)], .v false [.d .nils] => match cx.tt T with
    | some ⟨.slice .., _, _, _⟩ => match op, nl with
      | .eql, some b => some (true, .b b)
      | .neq, some b => some (true, .b (!b))
      | .eql, none => some (!l.isEmpty, .b false)
      | .neq, none => some (!l.isEmpty, .b true)
      | _, _ => none
    | _ => none
  | .v false [.d (.th a)], .v false [.d (.th .nil)] => match cx.tt T with
    | some ⟨.iface, _, _, _⟩ => if yc then (match op with
      | .eql => some (true, .b a.isNil)
      | .neq => some (true, .b (!a.isNil))
      | _ => none) else none
    | _ => none
  | _, _ => none

def pickV (t : Bool) (a b : V) : V :=
  match a, b with
  | .v false [.d (.sc (.bool x))], .v false [.d (.sc (.bool y))] => .b (cond t x y)
  | _, _ => cond t a b

def assertE (cx : Cx) (x : Thing) (T : TypeId) (commaOk : Bool) : Option (Bool × V) :=
  let fin (is : Bool) (g : Bool) (cs : List C) : Option (Bool × V) := if commaOk then some (true, .tup [(g, cs), (false, [.d (.b is)])]) else some (is, .v g cs)
  match cx.tt T with
  | some ⟨.int k, _, [.sc (.int k2 0)], _⟩ => if k2 = k then fin (x.isI T k) false [.d (.sc (.int k (x.asI T k)))] else none
  | some ⟨.bool, _, [.sc (.bool false)], _⟩ => fin (x.isB T) false [.d (.b (x.asB T))]
  | some ⟨.str, _, [.sc (.str s)], _⟩ => if s = ByteArray.empty then fin (x.isS T) false [.d (.s (x.asS T))] else none
  | some ⟨.struct _, 3, [.sc (.int .i64 0), .sc (.int .i64 0), .sc (.str s)], _⟩ => if s = ByteArray.empty then fin (x.isV T) true ((enc .val (x.asV T)).map .d) else none
  | _ => none

def ifaceE (cx : Cx) (T : TypeId) : V → Option V
  | .v false [.d (.sc s)] => match cx.tt T, s with
    | some ⟨.int k, _, _, _⟩, .int k' n => if k = k' then some (.v false [.d (.th (.one T (.int k n)))]) else none
    | some ⟨.bool, _, _, _⟩, .bool b => some (.v false [.d (.th (.one T (.bool b)))])
    | some ⟨.str, _, _, _⟩, .str b => some (.v false [.d (.th (.one T (.str b)))])
    | _, _ => none
  | .v true [.d (.sc (.int .i64 a)), .d (.sc (.int .i64 b)), .d (.sc (.str s))] => match cx.tt T with
    | some ⟨.struct _, 3, [.sc (.int .i64 0), .sc (.int .i64 0), .sc (.str _)], _⟩ => some (.v false [.d (.th (.val T ⟨a, b, s⟩))])
    | _ => none
  | _ => none

def appendE (cx : Cx) (T : TypeId) (nm : Nat) (h : Heap) (s x : C) : Option Eff :=
  match cx.tt T with
  | some ⟨.slice e t, _, _, _⟩ =>
    match slOf h x with
    | none => none
    | some ⟨t2, l2, _, r2, p⟩ => if e2 : t2 = t then
      (let m : List (Ty t) := e2 ▸ l2
      match s with
      | .d .nils => some { ok := p && decide (m.length ≤ 1048576), val := .v false [.own nm t false 0 m.length], heap := h.set nm (some (.arr e t m)), rd := r2, wr := [nm] }
      | .d (.sl _ full t' l) => if e1 : t' = t then
          some { ok := p && full && (l.isEmpty || decide (0 < m.length)) && decide (l.length + m.length ≤ 1048576), val := .v false [.own nm t false 0 (l.length + m.length)],
                 heap := h.set nm (some (.arr e t ((e1 ▸ l : List (Ty t)) ++ m))), rd := r2, wr := [nm] }
        else none
      | .own n t' _ 0 len => match lk h n with
        | some (.arr e' t'' l) => if e1 : t'' = t then
            (if t' = t && e' == e && !(r2.contains n) then
              some { ok := p && decide (len ≤ l.length) && decide (len + m.length ≤ 1048576), val := .v false [.own nm t false 0 (len + m.length)],
                     heap := (h.set n none).set nm (some (.arr e t ((e1 ▸ l : List (Ty t)).take len ++ m))), rd := n :: r2, wr := [n, nm] }
            else none)
          else none
        | _ => none
      | _ => none)
      else none
  | _ => none

def copyE (e : TypeId) (t : ET) (h : Heap) (s x : C) : Option Eff :=
  match s with
  | .own n tn _ off len => if tn = t then (match lk h n, slOf h x with
    | some (.arr B t' l), some ⟨t2, l2, _, r2, p⟩ => if e1 : t' = t then (if e2 : t2 = t then
        (if !(r2.contains n) then
          (let l : List (Ty t) := e1 ▸ l
          let m : List (Ty t) := e2 ▸ l2
          some { ok := p && decide (off + len ≤ l.length), val := .i (min m.length len : Nat), heap := h.set n (some (.arr B t (l.take off ++ m.take len ++ l.drop (off + min m.length len)))), rd := n :: r2, wr := [n] })
        else none) else none) else none
    | _, _ => none) else none
  | _ => none

def clearE (e : TypeId) (t : ET) (h : Heap) (s : C) : Option Eff :=
  match s with
  | .own n tn _ off len => if tn = t then (match lk h n with
    | some (.arr B t' l) => if e1 : t' = t then
        (let l : List (Ty t) := e1 ▸ l
        some { ok := decide (off + len ≤ l.length), val := .any, heap := h.set n (some (.arr B t (l.take off ++ List.replicate len (dflt t) ++ l.drop (off + len)))), rd := [n], wr := [n] })
      else none
    | _ => none) else none
  | _ => none

def bltE (cx : Cx) (b : Builtin) (nm : Nat) (h : Heap) (vs : List V) (ts : List TypeId) : Option Eff :=
  match b, vs, ts with
  | .len, [.v false [c]], T :: _ => match cx.tt T, lenC c, c with
    | some ⟨.str, _, _, _⟩, some n, .d (.sc (.str _)) => pure1 h (.i n)
    | some ⟨.slice _ _, _, _, _⟩, some _, .d (.sc (.str _)) => none
    | some ⟨.slice _ _, _, _, _⟩, some n, _ => pure1 h (.i n)
    | _, _, _ => none
  | .append, [.v false [s], .v false [x]], [T, T2] => match cx.tt T2 with
    | some ⟨.slice _ _, _, _, _⟩ => appendE cx T nm h s x
    | _ => none
  | .copy, [.v false [s], .v false [x]], [T, _] => match cx.tt T with
    | some ⟨.slice e t, _, _, _⟩ => copyE e t h s x
    | _ => none
  | .clear, [.v false [s]], [T] => match cx.tt T with
    | some ⟨.slice e t, _, _, _⟩ => clearE e t h s
    | _ => none
  | .max, [.v false [.d (.sc (.int k a))], .v false [.d (.sc (.int k' b))]], _ => if k = k' then pure1 h (.v false [.d (.sc (.int k (if b > a then b else a)))]) else none
  | .min, [.v false [.d (.sc (.int k a))], .v false [.d (.sc (.int k' b))]], _ => if k = k' then pure1 h (.v false [.d (.sc (.int k (if b < a then b else a)))]) else none
  | _, _, _ => none

def argsOf (cx : Cx) (env : List V) : List Operand → List TypeId → Option (List Arg)
  | [], _ => some []
  | x :: xs, ts => match norm cx (ts.headD 0) (opv env x), argsOf cx env xs ts.tail with
    | .v g cs, some r => some ((g, cs) :: r)
    | _, _ => none

def valOf : List Arg → V
  | [(g, cs)] => .v g cs
  | [] => .any
  | rs => .tup rs

def ownTo (nm : Nat) : C → C
  | .own _ t full off len => .own nm t full off len
  | c => c

/-- elements that hold no slices -/
def ET.flat : ET → Bool
  | .mat | .run | .pass | .val | .op | .int | .bool | .thing => true
  | _ => false
def lendC : C → Bool
  | .d (.sc _) | .d (.th _) | .own .. => true
  | _ => false
/-- nothing of what a contract hands out lies in what it was handed: that is lent, and not given up -/
def Ret.lends (r : Ret) : Bool := r.vals.all (fun a => a.2.all lendC) && (match r.row with
  | some (_, ⟨t, _⟩) => t.flat
  | none => true)
def lentOf (b : Bool) (ks : List Nat) : List Nat := if b then [] else ks

/-- a call by contract -/
def callG (G : List DArg → Option Ret) (nm : Nat) (h : Heap) (as : List Arg) : Option Eff :=
  match demArgs h as with
  | none => none
  | some (ds, ks, p) => match G ds with
    | none => none
    | some r => some { ok := p && r.ok, val := valOf (r.vals.map fun (g, cs) => (g, cs.map (ownTo nm))),
                       heap := match r.row with
                         | some (e, ⟨t, l⟩) => (kill h (lentOf r.lends ks)).set nm (some (.arr e t l))
                         | none => kill h (lentOf r.lends ks)
                       rd := ks, wr := nm :: lentOf r.lends ks }

/-- who is called: by contract, or entered -/
inductive Way where
  | gam (G : List DArg → Option Ret) (as : List Arg)
  | inl (fn : Func) (f : FuncId) (as : List Arg)

def isPure : V → Bool
  | .v false [.d (.fn ..)] => true
  | _ => false

def wayOf (cx : Cx) (env : List V) (c : Call) : Option Way :=
  match argsOf cx env c.args.toList c.argTypes.toList with
  | none => none
  | some as => match c.callee with
    | .value f => match opv env f with
      | .v false [.d (.fn g fs ks)] =>
        let all : List Arg := fs.map (fun r => (false, [C.d (.ref r)])) ++ as ++ ks.map (fun r => (false, [C.d (.ref r)]))
        match cx.ga g with
        | some G => some (.gam G all)
        | none => match cx.inl g with
          | some fn => some (.inl fn g all)
          | none => none
      | .v false [.clo g fs ks] => match cx.inl g with
        | some fn => some (.inl fn g (fs.map (fun n => (false, [C.ptr n 0])) ++ as ++ ks.map (fun n => (false, [C.ptr n 0]))))
        | none => none
      | _ => none
    | .invoke x m => match cx.inv m, opv env x with
      | some G, .v false [.d (.th y)] => some (.gam G ((false, [.d (.th y)]) :: as))
      | _, _ => none
    | .builtin _ => none

def ptrs : List V → Option (List Nat)
  | [] => some []
  | .v false [.ptr n 0] :: r => match ptrs r with
    | some ns => some (n :: ns)
    | none => none
  | _ => none
def refs : List V → Option (List (List D))
  | [] => some []
  | .v false [.d (.ref cs)] :: r => match refs r with
    | some ns => some (cs :: ns)
    | none => none
  | _ => none

def nilE : V → Option (Bool × V)
  | .v false [.d (.th x)] => some (!x.isNil, .v false [.d (.th x)])
  | .v false [.ptr n o] => some (true, .v false [.ptr n o])
  | .v false [.ep n t i j] => some (true, .v false [.ep n t i j])
  | .v false [.clo f a b] => some (true, .v false [.clo f a b])
  | .v false [.d (.fn f a b)] => some (true, .v false [.d (.fn f a b)])
  | .v false [.d (.ref cs)] => some (true, .v false [.d (.ref cs)])
  | _ => none

def opE (cx : Cx) (nm : Nat) (env : List V) (h : Heap) (o : Oper) : Option Eff :=
  match o.op with
  | .move x | .assign x => pure1 h (norm cx o.type (opv env x))
  | .pick c a b => match opv env c with
    | .v false [.d (.sc (.bool t))] => pure1 h (pickV t (opv env a) (opv env b))
    | _ => none
  | .alloc T => match cx.tt T with
    | some i => some { ok := true, val := .v false [.ptr nm 0], heap := h.set nm (some (.box T (i.zero.map .d))), wr := [nm] }
    | none => none
  | .box T x => match cx.tt T, norm cx T (opv env x) with
    | some i, .v g cs => if g == i.agg && cs.length == i.size then some { ok := true, val := .v false [.ptr nm 0], heap := h.set nm (some (.box T cs)), wr := [nm] } else none
    | _, _ => none
  | .build T parts => match cx.tt T with
    | some ⟨.struct _, _, z, _⟩ => match fillB cx T env parts.toList (z.map .d) with
      | some cs => pure1 h (.v true cs)
      | none => none
    | some ⟨.array _ e, _, z, _⟩ => match cx.tt e with
      | some fi => match fillA cx e fi env parts.toList (z.map .d) with
        | some cs => pure1 h (.v true cs)
        | none => none
      | none => none
    | _ => none
  | .buildSlice T n parts => match cx.tt T with
    | some ⟨.slice e t, _, _, _⟩ => match rowsB cx e t env h parts.toList (List.replicate n (dflt t)) [] true with
      | some (l, ks, p) => if n ≤ 1000 then some { ok := p, val := .v false [.own nm t true 0 n], heap := (kill h ks).set nm (some (.arr e t l)), rd := ks, wr := nm :: ks } else none
      | none => none
    | _ => none
  | .load T x => loadE cx T env h x
  | .store T x y => storeE cx T env h x y
  | .nilCheck x => match nilE (opv env x) with
    | some (c, v) => some { ok := c, val := v, heap := h }
    | none => none
  | .binOp op T x y _ => match binE cx op T (Region.isConst y) (opv env x) (opv env y) with
    | some (c, v) => some { ok := c, val := v, heap := h }
    | none => none
  | .unOp op _ x => match op, opv env x with
    | .not, .v false [.d (.sc (.bool b))] => pure1 h (.b (!b))
    | .neg, .v false [.d (.sc (.int k n))] => pure1 h (.v false [.d (.sc (.int k (k.wrap (0 - n))))])
    | _, _ => none
  | .convert S T x => match cx.tt S, cx.tt T, opv env x with
    | some ⟨.int _, _, _, _⟩, some ⟨.int k, _, _, _⟩, .v false [.d (.sc (.int _ n))] => pure1 h (.v false [.d (.sc (.int k (k.wrap n)))])
    | _, _, _ => none
  | .makeInterface T x => match ifaceE cx T (opv env x) with
    | some v => pure1 h v
    | none => none
  | .makeFunc fn first caps => match fn with
    | .func f =>
      let a := first.toList.map (opv env)
      let b := caps.toList.map (opv env)
      match a, b with
      | [], [] => pure1 h (.v false [.d (.fn f [] [])])
      | _, _ => match ptrs a, ptrs b with
        | some x, some y => pure1 h (.v false [.clo f x y])
        | _, _ => match refs a, refs b with
          | some x, some y => pure1 h (.v false [.d (.fn f x y)])
          | _, _ => none
    | _ => none
  | .makeSlice T x y => match cx.tt T, opv env x, opv env y with
    | some ⟨.slice e t, _, _, _⟩, .v false [.d (.sc (.int .i64 n))], .v false [.d (.sc (.int .i64 m))] =>
      some { ok := decide (0 ≤ n) && decide (n ≤ 1048576) && (n == m), val := .v false [.own nm t true 0 n.toNat], heap := h.set nm (some (.arr e t (List.replicate n.toNat (dflt t)))), wr := [nm] }
    | _, _, _ => none
  | .slice T x lo hi mx => match bnd env lo, bnd env hi, bnd env mx, opv env x, cx.tt T with
    | some lo, some hi, some none, .v false [.d (.sc (.str s))], some ⟨.str, _, _, _⟩ => let (c, a, b, _) := cut s.size lo hi none
      some { ok := c, val := .v false [.d (.s (s.extract a b))], heap := h }
    | some lo, some hi, some mx, .v false [.d (.sl _ full t l)], some ⟨.slice _ t', _, _, _⟩ => if t' = t then
        (let (c, a, b, f) := cut l.length lo hi mx
        some { ok := c, val := .v false [.d (.sl none (fullOf mx f full) t (sub l a b))], heap := h }) else none
    | some lo, some hi, some mx, .v false [.own n t full off len], some ⟨.slice _ t', _, _, _⟩ => if t' = t then
        (let (c, a, b, f) := cut len lo hi mx
        some { ok := c, val := .v false [.own n t (fullOf mx f full) (offOf lo off a) (lenOf lo b a)], heap := h }) else none
    | _, _, _, _, _ => none
  | .fieldAddr S x f => match fieldOf cx S f, opv env x with
    | some (off, F), v => if sizeOfT cx F = 0 then none else
      (match v with
      | .v false [.ptr n o] => pure1 h (.v false [.ptr n (o + off)])
      | .v false [.ep n t i j] => pure1 h (.v false [.ep n t i (j + off)])
      | .v false [.d (.ref cs)] => pure1 h (.v false [.d (.ref (cs.drop off))])
      | _ => none)
    | none, _ => none
  | .field S x f => match fieldOf cx S f, opv env x with
    | some (off, F), .v true cs => match cx.tt F with
      | some i => if off + i.size ≤ cs.length then pure1 h (.v i.agg (seg cs off i.size)) else none
      | none => none
    | _, _ => none
  | .indexAddr T x i => match cx.tt T, opv env x, opv env i with
    | some ⟨.slice _ t', _, _, _⟩, .v false [.d (.sl _ _ t l)], .v false [.d (.sc (.int _ n))] => if t' = t then
      some { ok := decide (0 ≤ n) && decide (n < l.length), val := .v false [.d (.ref (enc t (l.getD n.toNat (dflt t))))], heap := h } else none
    | some ⟨.slice _ t', _, _, _⟩, .v false [.own k t _ off len], .v false [.d (.sc (.int _ n))] => if t' = t then
      some { ok := decide (0 ≤ n) && decide (n < len), val := .v false [.ep k t (off + n.toNat) 0], heap := h } else none
    | some ⟨.array m e, _, _, _⟩, .v false [.ptr k o], .v false [.d (.sc (.int _ n))] => match cx.tt e with
      | some _ => some { ok := decide (0 ≤ n) && decide (n < m), val := .v false [.ptr k (o + n.toNat * sizeOfT cx e)], heap := h }
      | none => none
    | _, _, _ => none
  | .index T x i => match cx.tt T, opv env x, opv env i with
    | some ⟨.str, _, _, _⟩, .v false [.d (.sc (.str s))], .v false [.d (.sc (.int _ n))] =>
      some { ok := decide (0 ≤ n) && decide (n < s.size), val := .v false [.d (.sc (.int .u8 (byteAt s n.toNat)))], heap := h }
    | _, _, _ => none
  | .typeAssert x _ T commaOk => match opv env x with
    | .v false [.d (.th y)] => match assertE cx y T commaOk with
      | some (c, v) => some { ok := c, val := v, heap := h }
      | none => none
    | _ => none
  | .extract x i => match opv env x with
    | .tup vs => match vs[i]? with
      | some (g, cs) => pure1 h (.v g cs)
      | none => none
    | _ => none
  | .call c => match c.callee with
    | .builtin b => bltE cx b nm h (c.args.toList.map (opv env)) c.argTypes.toList
    | _ => match wayOf cx env c with
      | some (.gam G as) => callG G nm h as
      | _ => none
  | _ => none

/-- a call that is entered in place -/
def inlE (cx : Cx) (env : List V) (o : Oper) : Option (Func × FuncId × List Arg) :=
  match o.op with
  | .call c => match c.callee with
    | .builtin _ => none
    | _ => match wayOf cx env c with
      | some (.inl fn f as) => some (fn, f, as)
      | _ => none
  | _ => none

def putV (env : List V) (dst : Option Tmp) (v : V) : List V := match dst with
  | some d => env.set d v
  | none => env

/-- what an operation touched: its number, what it read, what it wrote, or all -/
structure Note where
  i : Nat
  rd : List Nat
  wr : List Nat
  all : Bool

/-- do two operations, of which none must come first, meddle? -/
def meddle (a b : Note) : Bool :=
  (a.all && (b.all || !b.rd.isEmpty || !b.wr.isEmpty)) || (b.all && (!a.rd.isEmpty || !a.wr.isEmpty)) ||
  a.wr.any (fun n => b.rd.contains n || b.wr.contains n) || b.wr.any (fun n => a.rd.contains n)

def notesOk (bs : Array Nat) : List Note → Bool
  | [] => true
  | x :: r => r.all (fun y => (bs.getD (max x.i y.i) 0).testBit (min x.i y.i) || !meddle x y) && notesOk bs r

/-- each goes behind what it hangs on; of two of which none must come first, none looks at what the other one puts -/
def orderOk (ops : Array Oper) (bs : Array Nat) : Bool :=
  (List.range ops.size).all fun j => match ops[j]? with
    | none => false
    | some b => b.after.toList.all (fun e => !Region.binds .any e || decide (e.on < j)) &&
      (List.range j).all fun i => (bs.getD j 0).testBit i || (match ops[i]? with
        | some a => a.apart ops b
        | none => false)

section
variable {R : Type}

inductive Ex where
  | normal
  | exit (id : Nat)
  | ret

structure Hd (R : Type) where
  lp : FuncId → Code → List Nat → Nat → St → (Ex → St → R) → R
  cl : Func → FuncId → List Arg → Heap → (List Arg → Heap → R) → R

def evOps (cx : Cx) (hd : Hd R) (fail : R) (ops : Array Oper) (base : Nat) : List Nat → St → List Note → (St → List Note → R) → R
  | [], st, lg, K => K st lg
  | i :: rest, st, lg, K =>
    match ops[i]? with
    | none => fail
    | some o =>
      let skip (env : List V) : R := evOps cx hd fail ops base rest ⟨putV env o.dst (.tup []), st.heap, st.fb⟩ lg K
      let go (env : List V) : R :=
        match inlE cx env o with
        | some (fn, f, as) => hd.cl fn f as st.heap fun rs h => evOps cx hd fail ops base rest ⟨putV env o.dst (valOf rs), h, st.fb⟩ (⟨i, [], [], true⟩ :: lg) K
        | none => match opE cx (base + i) env st.heap o with
          | none => fail
          | some e => cond e.ok (evOps cx hd fail ops base rest ⟨putV env o.dst e.val, e.heap, st.fb⟩ (⟨i, e.rd, e.wr, false⟩ :: lg) K) fail
      match o.guard with
      | none => go st.env
      | some (j, want) => match (ops[j]?).bind (·.dst) with
        | none => fail
        | some d => match st.env.getD d .any with
          | .v false [.d (.sc (.bool b))] =>
            cond b (if want then go (st.env.set d (.b true)) else skip (st.env.set d (.b true))) (if want then skip (st.env.set d (.b false)) else go (st.env.set d (.b false)))
          | .tup [] => skip st.env
          | _ => fail

/-- a slot's slice is made the call's own, if it has no elements: so that each round begins alike -/
def promote (t : ET) (T : TypeId) (h : Heap) : C → Option (C × Heap)
  | .d .nils => some (.own h.length t true 0 0, h ++ [some (.arr T t [])])
  | .d (.sl _ full t' l) => if t' = t && full && l.isEmpty then some (.own h.length t true 0 0, h ++ [some (.arr T t [])]) else none
  | .own n t' full off len => some (.own n t' full off len, h)
  | _ => none

def accGet (st : St) (s : Nat) (j : Option Nat) : Option C :=
  match st.env.getD s .any, j with
  | .v false [c], none => some c
  | .v false [.ptr n o], some j => match lk st.heap n with
    | some (.box _ cs) => cs[o + j]?
    | _ => none
  | _, _ => none
def accSet (st : St) (s : Nat) (j : Option Nat) (c : C) : Option St :=
  match st.env.getD s .any, j with
  | .v false [_], none => some ⟨st.env.set s (.v false [c]), st.heap, st.fb⟩
  | .v false [.ptr n o], some j => match lk st.heap n with
    | some (.box B cs) => some ⟨st.env, st.heap.set n (some (.box B (cs.set (o + j) c))), st.fb⟩
    | _ => none
  | _, _ => none

def begin_ : List (Nat × Option Nat × ET × TypeId) → St → Option St
  | [], st => some st
  | (s, j, t, T) :: r, st => match accGet st s j with
    | none => none
    | some c => match promote t T st.heap c with
      | none => none
      | some (c', h) => match accSet ⟨st.env, h, st.fb⟩ s j c' with
        | none => none
        | some st' => begin_ r st'

def homes : List (Nat × Option Nat × ET × TypeId) → St → Option (List Nat)
  | [], _ => some []
  | (s, j, _, _) :: r, st => match accGet st s j, homes r st with
    | some (.own n _ _ _ _), some ns => some (n :: ns)
    | _, _ => none

def noRefC (n : Nat) : C → Bool
  | .d _ => true
  | .ptr m _ | .ep m _ _ _ | .own m _ _ _ _ => !(m == n)
  | .clo _ a b => !(a.contains n) && !(b.contains n)
def noRefV (n : Nat) : V → Bool
  | .any => true
  | .v _ cs => cs.all (noRefC n)
  | .tup vs => vs.all fun (_, cs) => cs.all (noRefC n)
def noRefB (n : Nat) : Option Blk → Bool
  | some (.box _ cs) => cs.all (noRefC n)
  | _ => true

def ren (n m k : Nat) : Nat := if k = n then m else k
def renC (n m : Nat) : C → C
  | .d x => .d x
  | .ptr k o => .ptr (ren n m k) o
  | .ep k t i j => .ep (ren n m k) t i j
  | .own k t full off len => .own (ren n m k) t full off len
  | .clo f a b => .clo f (a.map (ren n m)) (b.map (ren n m))
def renV (n m : Nat) : V → V
  | .any => .any
  | .v g cs => .v g (cs.map (renC n m))
  | .tup vs => .tup (vs.map fun (g, cs) => (g, cs.map (renC n m)))
def renB (n m : Nat) : Blk → Blk
  | .box T cs => .box T (cs.map (renC n m))
  | .arr T t l => .arr T t l

/-- what was appended to lies where it lay when the round began -/
def back1 (s : Nat) (j : Option Nat) (home : Nat) (st : St) : Option St :=
  match accGet st s j with
  | some (.own n _ _ _ _) => if n = home then some st else
    (match lk st.heap home, lk st.heap n with
    | none, some b => if decide (st.fb ≤ home) && decide (home < st.heap.length) && st.env.all (noRefV home) && st.heap.all (noRefB home) then
        some ⟨st.env.map (renV n home), ((st.heap.map (Option.map (renB n home))).set n none).set home (some (renB n home b)), st.fb⟩
      else none
    | _, _ => none)
  | _ => none
def backs : List (Nat × Option Nat × ET × TypeId) → List Nat → St → Option St
  | [], _, st => some st
  | (s, j, _, _) :: r, n :: ns, st => match back1 s j n st with
    | some st' => backs r ns st'
    | none => none
  | _, _, _ => none

def lowC (base : Nat) : C → Bool
  | .d _ => true
  | .ptr n _ | .ep n _ _ _ | .own n _ _ _ _ => n < base
  | .clo _ a b => a.all (· < base) && b.all (· < base)
def lowV (base : Nat) : V → Bool
  | .any => true
  | .v _ cs => cs.all (lowC base)
  | .tup vs => vs.all fun (_, cs) => cs.all (lowC base)
def lowB (base : Nat) : Option Blk → Bool
  | some (.box _ cs) => cs.all (lowC base)
  | _ => true

def keepOnly (keep : List Nat) (env : List V) : List V := (List.range env.length).map fun t => if keep.contains t then env.getD t .any else .any

/-- the state at a round's head: what is needed, as it lay -/
def clean (hint : Hint) (base : Nat) (st : St) : Option St :=
  let env := keepOnly hint.keep st.env
  let h := st.heap.take base
  if decide (st.fb ≤ base) && env.all (lowV base) && h.all (lowB base) then some ⟨env, h, st.fb⟩ else none

/-- what the call has made is left alone from now on -/
def frzC (h : Heap) : C → C
  | .own n t full off len => match lk h n with
    | some (.arr _ t' l) => if e : t' = t then .d (.sl none full t (sub (e ▸ l) off (off + len))) else .own n t full off len
    | _ => .own n t full off len
  | c => c
def frzOk (h : Heap) : C → Bool
  | .own n t _ off len => match lk h n with
    | some (.arr _ t' l) => if t' = t then decide (off + len ≤ l.length) else true
    | _ => true
  | _ => true
def frzV (h : Heap) : V → V
  | .any => .any
  | .v g cs => .v g (cs.map (frzC h))
  | .tup vs => .tup (vs.map fun (g, cs) => (g, cs.map (frzC h)))
def frzOkV (h : Heap) : V → Bool
  | .any => true
  | .v _ cs => cs.all (frzOk h)
  | .tup vs => vs.all fun (_, cs) => cs.all (frzOk h)
def frzB (h : Heap) : Option Blk → Option Blk
  | some (.box T cs) => some (.box T (cs.map (frzC h)))
  | _ => none
def frzOkB (h : Heap) : Option Blk → Bool
  | some (.box _ cs) => cs.all (frzOk h)
  | _ => true
def freeze (st : St) : St := ⟨st.env.map (frzV st.heap), st.heap.map (frzB st.heap), st.fb⟩
def freezeOk (st : St) : Bool := st.env.all (frzOkV st.heap) && st.heap.all (frzOkB st.heap)

def firstReg : Code → Nat
  | .region id _ _ => id
  | .seq a _ => firstReg a
  | .block _ a | .loop a | .scope a => firstReg a
  | _ => 0

def evCode (cx : Cx) (hd : Hd R) (fail : R) (f : FuncId) : Code → St → (Ex → St → R) → R
  | .skip, st, K | .label _, st, K => K .normal st
  | .region id ops draw, st, K =>
    let go (st : St) : R := evOps cx hd fail ops st.heap.length (List.range ops.size) ⟨st.env, st.heap ++ List.replicate ops.size none, st.fb⟩ [] fun st' lg =>
      if draw then cond (notesOk (Region.before ops) lg && orderOk ops (Region.before ops)) (K .normal st') fail else K .normal st'
    if (cx.hint f id).frz then cond (freezeOk st) (go (freeze st)) fail else go st
  | .seq a b, st, K => evCode cx hd fail f a st fun e st' => match e with
    | .normal => evCode cx hd fail f b st' K
    | e => K e st'
  | .cond c a b, st, K => match opv st.env c with
    | .v false [.d (.sc (.bool t))] => cond t (evCode cx hd fail f a st K) (evCode cx hd fail f b st K)
    | _ => fail
  | .block id a, st, K => evCode cx hd fail f a st fun e st' => match e with
    | .exit i => if i == id then K .normal st' else K (.exit i) st'
    | e => K e st'
  | .loop body, st, K =>
    let hint := cx.hint f (firstReg body)
    match begin_ hint.acc st with
    | none => fail
    | some st1 => match clean hint st1.heap.length st1, homes hint.acc st1 with
      | some st2, some hs => hd.lp f body hs st1.heap.length st2 K
      | _, _ => fail
  | .scope a, st, K => evCode cx hd fail f a st K
  | .exit id, st, K => K (.exit id) st
  | .ret, st, K => K .ret st
  | _, _, _ => fail

def resOf (cx : Cx) (st : St) : ResultVar → TypeId → Option Arg
  | .tmp t, _ => match st.env.getD t .any with
    | .v g cs => some (g, cs)
    | _ => none
  | .cell t T, _ => match st.env.getD t .any, cx.tt T with
    | .v false [.ptr n o], some i => match lk st.heap n with
      | some (.box _ cs) => if o + i.size ≤ cs.length then some (i.agg, seg cs o i.size) else none
      | _ => none
    | _, _ => none
def resL (cx : Cx) (st : St) : List ResultVar → List TypeId → Option (List Arg)
  | [], _ => some []
  | r :: rs, ts => match resOf cx st r (ts.headD 0), resL cx st rs ts.tail with
    | some a, some as => some (a :: as)
    | _, _ => none

def evFun (cx : Cx) (hd : Hd R) (fail : R) (fn : Func) (f : FuncId) (as : List Arg) (h : Heap) (K : List Arg → Heap → R) : R :=
  match fn.body with
  | none => fail
  | some c => evCode cx hd fail f c ⟨as.map (fun (g, cs) => V.v g cs) ++ List.replicate (fn.ntmps - as.length) .any, h, h.length⟩ fun e st => match e with
    | .exit _ => fail
    | _ => match resL cx st fn.results.toList fn.resultTypes.toList with
      | some rs => K rs st.heap
      | none => fail

def evN (cx : Cx) (fail : R) : Nat → Hd R
  | 0 => { lp := fun _ _ _ _ _ _ => fail, cl := fun _ _ _ _ _ => fail }
  | n + 1 => {
    lp := fun f body hs base st K => evCode cx (evN cx fail n) fail f body st fun e st' => match e with
      | .normal => match backs (cx.hint f (firstReg body)).acc hs ⟨keepOnly (cx.hint f (firstReg body)).keep st'.env, st'.heap, st'.fb⟩ with
        | none => fail
        | some st1 => match clean (cx.hint f (firstReg body)) base st1 with
          | none => fail
          | some st2 => (evN cx fail n).lp f body hs base st2 K
      | e => K e st',
    cl := fun fn f as h K => evFun cx (evN cx fail n) fail fn f as h K }

/-- a function as a whole: data in, data out -/
def ev (cx : Cx) (fail : R) (n : Nat) (fn : Func) (f : FuncId) (as : List DArg) (K : List DArg → R) : R :=
  evFun cx (evN cx fail n) fail fn f (as.map fun (g, ds) => (g, ds.map .d)) [] fun rs h => match demArgs h rs with
    | some (ds, _, p) => cond p (K ds) fail
    | none => fail
end
end Go.Eng
