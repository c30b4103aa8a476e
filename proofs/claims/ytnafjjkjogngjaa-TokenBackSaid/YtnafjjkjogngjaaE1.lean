/- The evaluator: what a function of the program comes to, over values as data: no memory but what the call itself makes. Definitions alone. -/
import Derived.WalkKit
import Derived.ProofKit
import Derived.OpenShut
import Derived.Below
import Derived.Orders
set_option linter.unusedVariables false
set_option linter.unusedSimpArgs false
namespace Go.Eng
open Go

/-- a scalar -/
inductive Sc where
  | int (k : IntKind) (n : Int)
  | bool (b : Bool)
  | str (s : ByteArray)

structure Mat where
  start : Int
  fin : Int
  agg : Int
  bad : Bool
  deriving DecidableEq, Inhabited
structure Run where
  first : Int
  at_ : Int
  step : Int
  n : Int
  many : Int
  agg : Int
  bad : Bool
  deriving DecidableEq, Inhabited
structure Pass where
  token : Int
  sess : Int
  conn : Int
  off : Int
  deriving DecidableEq, Inhabited
structure Val where
  kind : Int
  n : Int
  s : ByteArray
  deriving DecidableEq
instance : Inhabited Val := ⟨⟨0, 0, ByteArray.empty⟩⟩
structure Opn where
  code : Int
  arg : Int
  v : Val
  deriving DecidableEq, Inhabited
structure Step where
  name : ByteArray
  ifs : List Opn
  min : Int
  max : Int
  guard : Bool
  notName : ByteArray
  notIf : List Opn
  deriving DecidableEq
instance : Inhabited Step := ⟨⟨ByteArray.empty, [], 0, 0, false, ByteArray.empty, []⟩⟩
structure Evt where
  name : ByteArray
  at_ : Int
  v : List Val
  deriving DecidableEq
instance : Inhabited Evt := ⟨⟨ByteArray.empty, 0, []⟩⟩
structure Pred where
  name : ByteArray
  ifs : List Opn
  deriving DecidableEq
instance : Inhabited Pred := ⟨⟨ByteArray.empty, []⟩⟩
structure Query where
  steps : List Step
  within : Int
  agg : Int
  aggStep : Int
  aggF : Int
  deriving DecidableEq, Inhabited
/-- an interface's value: nothing, a scalar of a type, three cells of a type -/
inductive Thing where
  | nil
  | one (T : TypeId) (s : Sc)
  | val (T : TypeId) (v : Val)
instance : Inhabited Thing := ⟨.nil⟩

/-- the kinds of elements of slices -/
inductive ET where
  | mat | run | pass | val | op | step | evt | pred | query | int | bool | thing
  deriving DecidableEq, Inhabited

abbrev Ty : ET → Type
  | .mat => Mat | .run => Run | .pass => Pass | .val => Val | .op => Opn | .step => Step | .evt => Evt | .pred => Pred | .query => Query
  | .int => Int | .bool => Bool | .thing => Thing

def dflt : (t : ET) → Ty t
  | .mat => (default : Mat) | .run => (default : Run) | .pass => (default : Pass) | .val => (default : Val) | .op => (default : Opn)
  | .step => (default : Step) | .evt => (default : Evt) | .pred => (default : Pred) | .query => (default : Query)
  | .int => (0 : Int) | .bool => false | .thing => Thing.nil

/-- what a cell reads as, where nobody changes it -/
inductive D where
  | sc (s : Sc)
  | sl (nl : Option Bool) (full : Bool) (t : ET) (l : List (Ty t))
  | nils
  | fn (f : FuncId) (first caps : List (List D))
  | th (x : Thing)
  | ref (cs : List D)
  | nilf

abbrev D.i (n : Int) : D := .sc (.int .i64 n)
abbrev D.u (n : Int) : D := .sc (.int .u64 n)
abbrev D.b (b : Bool) : D := .sc (.bool b)
abbrev D.s (s : ByteArray) : D := .sc (.str s)
abbrev D.l (t : ET) (l : List (Ty t)) : D := .sl none false t l

/-- an element's cells -/
def enc : (t : ET) → Ty t → List D
  | .mat, (m : Mat) => [.i m.start, .i m.fin, .i m.agg, .b m.bad]
  | .run, (r : Run) => [.i r.first, .i r.at_, .i r.step, .i r.n, .i r.many, .i r.agg, .b r.bad]
  | .pass, (p : Pass) => [.u p.token, .i p.sess, .i p.conn, .i p.off]
  | .val, (v : Val) => [.i v.kind, .i v.n, .s v.s]
  | .op, (o : Opn) => [.i o.code, .i o.arg, .i o.v.kind, .i o.v.n, .s o.v.s]
  | .step, (x : Step) => [.s x.name, .l .op x.ifs, .i x.min, .i x.max, .b x.guard, .s x.notName, .l .op x.notIf]
  | .evt, (e : Evt) => [.s e.name, .i e.at_, .l .val e.v]
  | .pred, (p : Pred) => [.s p.name, .l .op p.ifs]
  | .query, (q : Query) => [.l .step q.steps, .i q.within, .i q.agg, .i q.aggStep, .i q.aggF]
  | .int, (n : Int) => [.i n]
  | .bool, (b : Bool) => [.b b]
  | .thing, (x : Thing) => [.th x]

def width : ET → Nat
  | .mat => 4 | .run => 7 | .pass => 4 | .val => 3 | .op => 5 | .step => 7 | .evt => 3 | .pred => 2 | .query => 5 | .int => 1 | .bool => 1 | .thing => 1

/-- an element out of its cells -/
def decMat : List D → Option Mat
  | [.sc (.int .i64 a), .sc (.int .i64 b), .sc (.int .i64 c), .sc (.bool d)] => some (⟨a, b, c, d⟩ : Mat)
  | _ => none
def decRun : List D → Option Run
  | [.sc (.int .i64 a), .sc (.int .i64 b), .sc (.int .i64 c), .sc (.int .i64 d), .sc (.int .i64 e), .sc (.int .i64 f), .sc (.bool g)] => some (⟨a, b, c, d, e, f, g⟩ : Run)
  | _ => none
def decPass : List D → Option Pass
  | [.sc (.int .u64 a), .sc (.int .i64 b), .sc (.int .i64 c), .sc (.int .i64 d)] => some (⟨a, b, c, d⟩ : Pass)
  | _ => none
def decVal : List D → Option Val
  | [.sc (.int .i64 a), .sc (.int .i64 b), .sc (.str c)] => some (⟨a, b, c⟩ : Val)
  | _ => none
def decOp : List D → Option Opn
  | [.sc (.int .i64 a), .sc (.int .i64 b), .sc (.int .i64 c), .sc (.int .i64 d), .sc (.str e)] => some (⟨a, b, ⟨c, d, e⟩⟩ : Opn)
  | _ => none
def decStep : List D → Option Step
  | [.sc (.str a), .sl _ _ .op b, .sc (.int .i64 c), .sc (.int .i64 d), .sc (.bool e), .sc (.str f), .sl _ _ .op g] => some (⟨a, b, c, d, e, f, g⟩ : Step)
  | _ => none
def decEvt : List D → Option Evt
  | [.sc (.str a), .sc (.int .i64 b), .sl _ _ .val c] => some (⟨a, b, c⟩ : Evt)
  | _ => none
def decPred : List D → Option Pred
  | [.sc (.str a), .sl _ _ .op b] => some (⟨a, b⟩ : Pred)
  | _ => none
def decQuery : List D → Option Query
  | [.sl _ _ .step a, .sc (.int .i64 b), .sc (.int .i64 c), .sc (.int .i64 d), .sc (.int .i64 e)] => some (⟨a, b, c, d, e⟩ : Query)
  | _ => none
def decInt : List D → Option Int
  | [.sc (.int .i64 a)] => some (a : Int)
  | _ => none
def decBool : List D → Option Bool
  | [.sc (.bool a)] => some (a : Bool)
  | _ => none
def decThing : List D → Option Thing
  | [.th x] => some (x : Thing)
  | _ => none
def dec : (t : ET) → List D → Option (Ty t)
  | .mat => decMat
  | .run => decRun
  | .pass => decPass
  | .val => decVal
  | .op => decOp
  | .step => decStep
  | .evt => decEvt
  | .pred => decPred
  | .query => decQuery
  | .int => decInt
  | .bool => decBool
  | .thing => decThing

/-- a cell while the call runs: data, or a way to what the call itself has made -/
inductive C where
  | d (x : D)
  | ptr (n off : Nat)
  | ep (n : Nat) (t : ET) (i j : Nat)
  | own (n : Nat) (t : ET) (full : Bool) (off len : Nat)
  | clo (f : FuncId) (first caps : List Nat)

abbrev Arg := Bool × List C
abbrev DArg := Bool × List D
/-- what a variable of the frame holds -/
inductive V where
  | any
  | v (agg : Bool) (cs : List C)
  | tup (vs : List Arg)

/-- what the call has made -/
inductive Blk where
  | box (T : TypeId) (cs : List C)
  | arr (T : TypeId) (t : ET) (l : List (Ty t))

abbrev Heap := List (Option Blk)
structure St where
  env : List V
  heap : Heap
  fb : Nat

/-- types, as far as they are used -/
inductive Kd where
  | int (k : IntKind) | bool | str
  | slice (e : TypeId) (t : ET)
  | struct (fs : List (Nat × TypeId))
  | array (n : Nat) (e : TypeId)
  | iface
  | func
  | other
structure TI where
  kd : Kd
  size : Nat
  zero : List D
  ets : List (Option ET)

def TI.agg (i : TI) : Bool := match i.kd with | .struct _ | .array .. => true | _ => false

/-- a contract's answer: is it safe; a row that is made; the results -/
structure Ret where
  ok : Bool
  row : Option (TypeId × (t : ET) × List (Ty t))
  vals : List Arg

structure Hint where
  keep : List Nat
  acc : List (Nat × Option Nat × ET × TypeId)
  frz : Bool := false
  deriving Inhabited

structure Cx where
  tt : TypeId → Option TI
  ga : FuncId → Option (List DArg → Option Ret)
  inl : FuncId → Option Func
  inv : String → Option (List DArg → Option Ret)
  hint : FuncId → Nat → Hint

def D.one (x : D) : V := .v false [.d x]
abbrev V.b (x : Bool) : V := .v false [.d (.sc (.bool x))]
abbrev V.i (x : Int) : V := .v false [.d (.sc (.int .i64 x))]

def cell1 : Value → Option C
  | .bool b => some (.d (.sc (.bool b)))
  | .int k n => some (.d (.sc (.int k n)))
  | .string s => some (.d (.sc (.str s)))
  | .slice none 0 0 => some (.d .nils)
  | .nilIface => some (.d (.th .nil))
  | _ => none
def cellsOf : List Value → Option (List C)
  | [] => some []
  | x :: r => match cell1 x, cellsOf r with
    | some c, some cs => some (c :: cs)
    | _, _ => none
def cv : Value → V
  | .agg cs => match cellsOf cs.toList with
    | some l => .v true l
    | none => .any
  | x => match cell1 x with
    | some c => .v false [c]
    | none => .any
def opv (env : List V) : Operand → V
  | .tmp t => env.getD t .any
  | .const v => cv v
  | .func f => .v false [.d (.fn f [] [])]
  | .global _ => .any

/-- nil slices get their type -/
def norm1 : Option ET → C → C
  | some t, .d .nils => .d (.sl (some true) true t [])
  | _, c => c
def normL : List (Option ET) → List C → List C
  | e :: es, c :: cs => norm1 e c :: normL es cs
  | _, cs => cs
def norm (cx : Cx) (T : TypeId) : V → V
  | .v a cs => match cx.tt T with
    | some i => .v a (normL i.ets cs)
    | none => .v a cs
  | v => v

def lk (h : Heap) (n : Nat) : Option Blk := h.getD n none

/-- so many cells of a row from one on -/
def seg {α : Type} (cs : List α) (off n : Nat) : List α := (cs.drop off).take n

/-- the slice's part -/
def sub {α : Type} (l : List α) (lo hi : Nat) : List α := (l.drop lo).take (hi - lo)

/-- what a cell reads as, if it is left alone from now on; what is given up for it; whether it may -/
def dem0 (h : Heap) : C → Option (D × List Nat × Bool)
  | .d x => some (x, [], true)
  | .own n t full off len => match lk h n with
    | some (.arr _ t' l) => if e : t' = t then some (.sl none full t (sub (e ▸ l) off (off + len)), [n], decide (off + len ≤ l.length)) else none
    | _ => none
  | _ => none
def demL0 (h : Heap) : List C → Option (List D × List Nat × Bool)
  | [] => some ([], [], true)
  | c :: cs => match dem0 h c, demL0 h cs with
    | some (x, a, p), some (xs, b, q) => some (x :: xs, a ++ b, p && q)
    | _, _ => none
def demBoxes (h : Heap) : List Nat → Option (List (List D) × List Nat × Bool)
  | [] => some ([], [], true)
  | n :: ns => match lk h n with
    | some (.box _ cs) => match demL0 h cs, demBoxes h ns with
      | some (xs, a, p), some (r, b, q) => some (xs :: r, n :: (a ++ b), p && q)
      | _, _ => none
    | _ => none
def dem (h : Heap) : C → Option (D × List Nat × Bool)
  | .clo f first caps => match demBoxes h first, demBoxes h caps with
    | some (a, x, p), some (b, y, q) => some (.fn f a b, x ++ y, p && q)
    | _, _ => none
  | c => dem0 h c
def demL (h : Heap) : List C → Option (List D × List Nat × Bool)
  | [] => some ([], [], true)
  | c :: cs => match dem h c, demL h cs with
    | some (x, a, p), some (xs, b, q) => some (x :: xs, a ++ b, p && q)
    | _, _ => none
def demArgs (h : Heap) : List Arg → Option (List DArg × List Nat × Bool)
  | [] => some ([], [], true)
  | (g, cs) :: r => match demL h cs, demArgs h r with
    | some (xs, a, p), some (ys, b, q) => some ((g, xs) :: ys, a ++ b, p && q)
    | _, _ => none

def kill (h : Heap) : List Nat → Heap
  | [] => h
  | n :: ns => kill (h.set n none) ns

end Go.Eng
