/- The evaluator, part 1: the texts E1, E2, E3, E4, E5, E6, E7, E8, E9, E10, E11, E12, E13, E14, E15, E16, E17 in one file. -/
import Derived.WalkKit
import Derived.ProofKit
import Derived.OpenShut
import Derived.Below
import Derived.Orders
import Derived.Laws.StructEq
import Derived.Laws.Tables
import Derived.Great.BuildSlice
import Derived.Deep.Upon
import Derived.Deep.AppendSrc
import Derived.Deep.DeepAppendWide
/- The evaluator: what a function of the program comes to, over values as data: no memory but what the call itself makes. Definitions alone. -/
set_option linter.unusedVariables false
set_option linter.unusedSimpArgs false
namespace Go.Eng
open Go

inductive Sc where
 | int (k : IntKind) (n : Int)
 | bool (b : Bool)
 | str (s : ByteArray)

structure Mat where
 start : Int
 fin : Int
 agg : Int
 bad : Bool
 deriving DecidableEq, Inhabited
structure Run where
 first : Int
 at_ : Int
 step : Int
 n : Int
 many : Int
 agg : Int
 bad : Bool
 deriving DecidableEq, Inhabited
structure Pass where
 token : Int
 sess : Int
 conn : Int
 off : Int
 deriving DecidableEq, Inhabited
structure Val where
 kind : Int
 n : Int
 s : ByteArray
 deriving DecidableEq
instance : Inhabited Val := ⟨⟨0, 0, ByteArray.empty⟩⟩
structure Opn where
 code : Int
 arg : Int
 v : Val
 deriving DecidableEq, Inhabited
structure Step where
 name : ByteArray
 ifs : List Opn
 min : Int
 max : Int
 guard : Bool
 notName : ByteArray
 notIf : List Opn
 deriving DecidableEq
instance : Inhabited Step := ⟨⟨ByteArray.empty, [], 0, 0, false, ByteArray.empty, []⟩⟩
structure Evt where
 name : ByteArray
 at_ : Int
 v : List Val
 deriving DecidableEq
instance : Inhabited Evt := ⟨⟨ByteArray.empty, 0, []⟩⟩
structure Pred where
 name : ByteArray
 ifs : List Opn
 deriving DecidableEq
instance : Inhabited Pred := ⟨⟨ByteArray.empty, []⟩⟩
structure Query where
 steps : List Step
 within : Int
 agg : Int
 aggStep : Int
 aggF : Int
 deriving DecidableEq, Inhabited
inductive Thing where
 | nil
 | one (T : TypeId) (s : Sc)
 | val (T : TypeId) (v : Val)
instance : Inhabited Thing := ⟨.nil⟩

inductive ET where
 | mat | run | pass | val | op | step | evt | pred | query | int | bool | thing
 deriving DecidableEq, Inhabited

abbrev Ty : ET → Type
 | .mat => Mat | .run => Run | .pass => Pass | .val => Val | .op => Opn | .step => Step | .evt => Evt | .pred => Pred | .query => Query
 | .int => Int | .bool => Bool | .thing => Thing

def dflt : (t : ET) → Ty t
 | .mat => (default : Mat) | .run => (default : Run) | .pass => (default : Pass) | .val => (default : Val) | .op => (default : Opn)
 | .step => (default : Step) | .evt => (default : Evt) | .pred => (default : Pred) | .query => (default : Query)
 | .int => (0 : Int) | .bool => false | .thing => Thing.nil

inductive D where
 | sc (s : Sc)
 | sl (nl : Option Bool) (full : Bool) (t : ET) (l : List (Ty t))
 | nils
 | fn (f : FuncId) (first caps : List (List D))
 | th (x : Thing)
 | ref (cs : List D)
 | nilf

abbrev D.i (n : Int) : D := .sc (.int .i64 n)
abbrev D.u (n : Int) : D := .sc (.int .u64 n)
abbrev D.b (b : Bool) : D := .sc (.bool b)
abbrev D.s (s : ByteArray) : D := .sc (.str s)
abbrev D.l (t : ET) (l : List (Ty t)) : D := .sl none false t l

def enc : (t : ET) → Ty t → List D
 | .mat, (m : Mat) => [.i m.start, .i m.fin, .i m.agg, .b m.bad]
 | .run, (r : Run) => [.i r.first, .i r.at_, .i r.step, .i r.n, .i r.many, .i r.agg, .b r.bad]
 | .pass, (p : Pass) => [.u p.token, .i p.sess, .i p.conn, .i p.off]
 | .val, (v : Val) => [.i v.kind, .i v.n, .s v.s]
 | .op, (o : Opn) => [.i o.code, .i o.arg, .i o.v.kind, .i o.v.n, .s o.v.s]
 | .step, (x : Step) => [.s x.name, .l .op x.ifs, .i x.min, .i x.max, .b x.guard, .s x.notName, .l .op x.notIf]
 | .evt, (e : Evt) => [.s e.name, .i e.at_, .l .val e.v]
 | .pred, (p : Pred) => [.s p.name, .l .op p.ifs]
 | .query, (q : Query) => [.l .step q.steps, .i q.within, .i q.agg, .i q.aggStep, .i q.aggF]
 | .int, (n : Int) => [.i n]
 | .bool, (b : Bool) => [.b b]
 | .thing, (x : Thing) => [.th x]

def width : ET → Nat
 | .mat => 4 | .run => 7 | .pass => 4 | .val => 3 | .op => 5 | .step => 7 | .evt => 3 | .pred => 2 | .query => 5 | .int => 1 | .bool => 1 | .thing => 1

def szB : ET → Nat
 | .mat => 32 | .run => 56 | .pass => 32 | .val => 32 | .op => 48 | .step => 104 | .evt => 48 | .pred => 40 | .query => 56 | .int => 8 | .bool => 1 | .thing => 16

def decMat : List D → Option Mat
 | [.sc (.int .i64 a), .sc (.int .i64 b), .sc (.int .i64 c), .sc (.bool d)] => some (⟨a, b, c, d⟩ : Mat)
 | _ => none
def decRun : List D → Option Run
 | [.sc (.int .i64 a), .sc (.int .i64 b), .sc (.int .i64 c), .sc (.int .i64 d), .sc (.int .i64 e), .sc (.int .i64 f), .sc (.bool g)] => some (⟨a, b, c, d, e, f, g⟩ : Run)
 | _ => none
def decPass : List D → Option Pass
 | [.sc (.int .u64 a), .sc (.int .i64 b), .sc (.int .i64 c), .sc (.int .i64 d)] => some (⟨a, b, c, d⟩ : Pass)
 | _ => none
def decVal : List D → Option Val
 | [.sc (.int .i64 a), .sc (.int .i64 b), .sc (.str c)] => some (⟨a, b, c⟩ : Val)
 | _ => none
def decOp : List D → Option Opn
 | [.sc (.int .i64 a), .sc (.int .i64 b), .sc (.int .i64 c), .sc (.int .i64 d), .sc (.str e)] => some (⟨a, b, ⟨c, d, e⟩⟩ : Opn)
 | _ => none
def decStep : List D → Option Step
 | [.sc (.str a), .sl _ _ .op b, .sc (.int .i64 c), .sc (.int .i64 d), .sc (.bool e), .sc (.str f), .sl _ _ .op g] => some (⟨a, b, c, d, e, f, g⟩ : Step)
 | _ => none
def decEvt : List D → Option Evt
 | [.sc (.str a), .sc (.int .i64 b), .sl _ _ .val c] => some (⟨a, b, c⟩ : Evt)
 | _ => none
def decPred : List D → Option Pred
 | [.sc (.str a), .sl _ _ .op b] => some (⟨a, b⟩ : Pred)
 | _ => none
def decQuery : List D → Option Query
 | [.sl _ _ .step a, .sc (.int .i64 b), .sc (.int .i64 c), .sc (.int .i64 d), .sc (.int .i64 e)] => some (⟨a, b, c, d, e⟩ : Query)
 | _ => none
def decInt : List D → Option Int
 | [.sc (.int .i64 a)] => some (a : Int)
 | _ => none
def decBool : List D → Option Bool
 | [.sc (.bool a)] => some (a : Bool)
 | _ => none
def decThing : List D → Option Thing
 | [.th x] => some (x : Thing)
 | _ => none
def dec : (t : ET) → List D → Option (Ty t)
 | .mat => decMat
 | .run => decRun
 | .pass => decPass
 | .val => decVal
 | .op => decOp
 | .step => decStep
 | .evt => decEvt
 | .pred => decPred
 | .query => decQuery
 | .int => decInt
 | .bool => decBool
 | .thing => decThing

inductive C where
 | d (x : D)
 | ptr (n off : Nat)
 | ep (n : Nat) (t : ET) (i j : Nat)
 | own (n : Nat) (t : ET) (full : Bool) (off len : Nat)
 | clo (f : FuncId) (first caps : List Nat)
 | yld (n : Nat)

abbrev Arg := Bool × List C
abbrev DArg := Bool × List D
inductive V where
 | any
 | v (agg : Bool) (cs : List C)
 | tup (vs : List Arg)

inductive Blk where
 | box (T : TypeId) (cs : List C)
 | arr (T : TypeId) (t : ET) (l : List (Ty t))
 | lp (k : Nat) (env : List V) (s : Nat) (j : Option (Option Nat))

abbrev Heap := List (Option Blk)
structure St where
 env : List V
 heap : Heap
 fb : Nat

inductive Kd where
 | int (k : IntKind) | bool | str
 | slice (e : TypeId) (t : ET)
 | struct (fs : List (Nat × TypeId))
 | array (n : Nat) (e : TypeId)
 | iface
 | func
 | other
structure TI where
 kd : Kd
 size : Nat
 zero : List D
 ets : List (Option ET)

def TI.agg (i : TI) : Bool := match i.kd with | .struct _ | .array .. => true | _ => false

structure Ret where
 ok : Bool
 row : Option (TypeId × (t : ET) × List (Ty t))
 vals : List Arg

structure Hint where
 keep : List Nat
 acc : List (Nat × Option Nat × ET × TypeId)
 frz : Bool := false
 deriving Inhabited

structure Cx where
 tt : TypeId → Option TI
 ga : FuncId → Option (List DArg → Option Ret)
 inl : FuncId → Option Func
 inv : String → Option (List DArg → Option Ret)
 hint : FuncId → Nat → Hint
 rf : Nat → Option (FuncId × Array Tmp × Code × Code) := fun _ => none
 pr : FuncId → Option (List Arg → Heap → Option (Bool × List Arg × Heap)) := fun _ => none
 wide : Bool := false

def D.one (x : D) : V := .v false [.d x]
abbrev V.b (x : Bool) : V := .v false [.d (.sc (.bool x))]
abbrev V.i (x : Int) : V := .v false [.d (.sc (.int .i64 x))]

def cell1 : Value → Option C
 | .bool b => some (.d (.sc (.bool b)))
 | .int k n => some (.d (.sc (.int k n)))
 | .string s => some (.d (.sc (.str s)))
 | .slice none 0 0 => some (.d .nils)
 | .nilIface => some (.d (.th .nil))
 | _ => none
def cellsOf : List Value → Option (List C)
 | [] => some []
 | x :: r => match cell1 x, cellsOf r with
  | some c, some cs => some (c :: cs)
  | _, _ => none
def cv : Value → V
 | .agg cs => match cellsOf cs.toList with
  | some l => .v true l
  | none => .any
 | x => match cell1 x with
  | some c => .v false [c]
  | none => .any
def opv (env : List V) : Operand → V
 | .tmp t => env.getD t .any
 | .const v => cv v
 | .func f => .v false [.d (.fn f [] [])]
 | .global _ => .any

def norm1 : Option ET → C → C
 | some t, .d .nils => .d (.sl (some true) true t [])
 | _, c => c
def normL : List (Option ET) → List C → List C
 | e :: es, c :: cs => norm1 e c :: normL es cs
 | _, cs => cs
def norm (cx : Cx) (T : TypeId) : V → V
 | .v a cs => match cx.tt T with
  | some i => .v a (normL i.ets cs)
  | none => .v a cs
 | v => v

def lk (h : Heap) (n : Nat) : Option Blk := h.getD n none

def seg {α : Type} (cs : List α) (off n : Nat) : List α := (cs.drop off).take n

def sub {α : Type} (l : List α) (lo hi : Nat) : List α := (l.drop lo).take (hi - lo)

def dem0 (h : Heap) : C → Option (D × List Nat × Bool)
 | .d x => some (x, [], true)
 | .own n t full off len => match lk h n with
  | some (.arr _ t' l) => if e : t' = t then some (.sl none full t (sub (e ▸ l) off (off + len)), [n], decide (off + len ≤ l.length)) else none
  | _ => none
 | _ => none
def demL0 (h : Heap) : List C → Option (List D × List Nat × Bool)
 | [] => some ([], [], true)
 | c :: cs => match dem0 h c, demL0 h cs with
  | some (x, a, p), some (xs, b, q) => some (x :: xs, a ++ b, p && q)
  | _, _ => none
def demBoxes (h : Heap) : List Nat → Option (List (List D) × List Nat × Bool)
 | [] => some ([], [], true)
 | n :: ns => match lk h n with
  | some (.box _ cs) => match demL0 h cs, demBoxes h ns with
   | some (xs, a, p), some (r, b, q) => some (xs :: r, n :: (a ++ b), p && q)
   | _, _ => none
  | _ => none
def dem (h : Heap) : C → Option (D × List Nat × Bool)
 | .clo f first caps => match demBoxes h first, demBoxes h caps with
  | some (a, x, p), some (b, y, q) => some (.fn f a b, x ++ y, p && q)
  | _, _ => none
 | c => dem0 h c
def demL (h : Heap) : List C → Option (List D × List Nat × Bool)
 | [] => some ([], [], true)
 | c :: cs => match dem h c, demL h cs with
  | some (x, a, p), some (xs, b, q) => some (x :: xs, a ++ b, p && q)
  | _, _ => none
def demArgs (h : Heap) : List Arg → Option (List DArg × List Nat × Bool)
 | [] => some ([], [], true)
 | (g, cs) :: r => match demL h cs, demArgs h r with
  | some (xs, a, p), some (ys, b, q) => some ((g, xs) :: ys, a ++ b, p && q)
  | _, _ => none

def kill (h : Heap) : List Nat → Heap
 | [] => h
 | n :: ns => kill (h.set n none) ns

end Go.Eng
/- The evaluator, second part: operations, regions, code, calls. Definitions alone. -/
set_option linter.unusedVariables false
set_option linter.unusedSimpArgs false
namespace Go.Eng
open Go

structure Eff where
 ok : Bool
 val : V
 heap : Heap
 rd : List Nat := []
 wr : List Nat := []

def Thing.isI (T : TypeId) (k : IntKind) : Thing → Bool
 | .one T' (.int k' _) => T' == T && decide (k' = k)
 | _ => false
def Thing.asI (T : TypeId) (k : IntKind) : Thing → Int
 | .one T' (.int k' n) => if T' == T && decide (k' = k) then n else 0
 | _ => 0
def Thing.isB (T : TypeId) : Thing → Bool
 | .one T' (.bool _) => T' == T
 | _ => false
def Thing.asB (T : TypeId) : Thing → Bool
 | .one T' (.bool b) => T' == T && b
 | _ => false
def Thing.isS (T : TypeId) : Thing → Bool
 | .one T' (.str _) => T' == T
 | _ => false
def Thing.asS (T : TypeId) : Thing → ByteArray
 | .one T' (.str s) => if T' == T then s else ByteArray.empty
 | _ => ByteArray.empty
def Thing.isV (T : TypeId) : Thing → Bool
 | .val T' _ => T' == T
 | _ => false
def Thing.asV (T : TypeId) : Thing → Val
 | .val T' v => if T' == T then v else default
 | _ => default
def Thing.isNil : Thing → Bool
 | .nil => true
 | _ => false

def pure1 (h : Heap) (v : V) : Option Eff := some { ok := true, val := v, heap := h }

def toD1 : C → Option D
 | .d x => some x
 | _ => none
def toDL : List C → Option (List D)
 | [] => some []
 | c :: cs => match toD1 c, toDL cs with
  | some x, some xs => some (x :: xs)
  | _, _ => none

def putL {α : Type} (cs : List α) (off : Nat) : List α → List α
 | [] => cs
 | x :: xs => putL (cs.set off x) (off + 1) xs

def fieldOf (cx : Cx) (T : TypeId) (i : Nat) : Option (Nat × TypeId) :=
 match cx.tt T with
 | some ⟨.struct fs, _, _, _⟩ => fs[i]?
 | _ => none

def sizeOfT (cx : Cx) (T : TypeId) : Nat := match cx.tt T with
 | some i => i.size
 | none => 0

def fillB (cx : Cx) (T : TypeId) (env : List V) : List (Nat × Operand) → List C → Option (List C)
 | [], cs => some cs
 | (i, x) :: r, cs =>
  match fieldOf cx T i with
  | some (off, F) => match cx.tt F, norm cx F (opv env x) with
   | some fi, .v a ys => if a == fi.agg && ys.length == fi.size && decide (off + ys.length ≤ cs.length) then fillB cx T env r (putL cs off ys) else none
   | _, _ => none
  | none => none

def fillA (cx : Cx) (F : TypeId) (fi : TI) (env : List V) : List (Nat × Operand) → List C → Option (List C)
 | [], cs => some cs
 | (i, x) :: r, cs =>
  match norm cx F (opv env x) with
  | .v a ys => if a == fi.agg && ys.length == fi.size && decide (i * fi.size + ys.length ≤ cs.length) then fillA cx F fi env r (putL cs (i * fi.size) ys) else none
  | _ => none

def rowsB (cx : Cx) (e : TypeId) (t : ET) (env : List V) (h : Heap) : List (Nat × Operand) → List (Ty t) → List Nat → Bool → Option (List (Ty t) × List Nat × Bool)
 | [], l, ks, p => some (l, ks, p)
 | (i, x) :: r, l, ks, p =>
  match norm cx e (opv env x) with
  | .v _ ys => match demL h ys with
   | some (ds, k, q) => match dec t ds with
    | some y => if i < l.length then rowsB cx e t env h r (l.set i y) (ks ++ k) (p && q) else none
    | none => none
   | none => none
  | _ => none

structure Sl where
 t : ET
 l : List (Ty t)
 full : Bool
 rd : List Nat
 ok : Bool

def slOf (h : Heap) : C → Option Sl
 | .d (.sl _ full t l) => some ⟨t, l, full, [], true⟩
 | .own n t full off len => match lk h n with
  | some (.arr _ t' l) => if e : t' = t then some ⟨t, sub (e ▸ l) off (off + len), full, [n], decide (off + len ≤ l.length)⟩ else none
  | _ => none
 | _ => none

def lenC : C → Option Nat
 | .d (.sl _ _ _ l) => some l.length
 | .d .nils => some 0
 | .own _ _ _ _ len => some len
 | .d (.sc (.str s)) => some s.size
 | _ => none

def bnd (env : List V) : Option Operand → Option (Option Int)
 | none => some none
 | some x => match opv env x with
  | .v false [.d (.sc (.int _ n))] => some (some n)
  | _ => none

def cut (len : Nat) (lo hi mx : Option Int) : Bool × Nat × Nat × Bool :=
 let m : Int := mx.getD len
 let h : Int := match hi with
  | some h => h
  | none => len
 let l : Int := lo.getD 0
 ((match lo with | some l => decide (0 ≤ l) && decide (l ≤ h) | none => true) && (match hi with | some h => decide (0 ≤ h) && decide (h ≤ m) | none => true) && (match mx with | some m => decide (0 ≤ m) && decide (m ≤ len) && hi.isSome | none => true),
  (match lo with | some _ => l.toNat | none => 0), (match hi with | some _ => h.toNat | none => len), (match mx with | some m => decide (m = h) | none => match hi with | some h => decide (h = len) | none => true))

def byteAt (s : ByteArray) (i : Nat) : Nat := (s.data[i]?.getD 0).toNat

def fullOf (mx : Option Int) (f full : Bool) : Bool := match mx with
 | some _ => f
 | none => full && f
def offOf (lo : Option Int) (off p : Nat) : Nat := match lo with
 | none => off
 | some _ => off + p
def lenOf (lo : Option Int) (q p : Nat) : Nat := match lo with
 | none => q
 | some _ => q - p

def loadE (cx : Cx) (T : TypeId) (env : List V) (h : Heap) (x : Operand) : Option Eff :=
 match cx.tt T with
 | none => none
 | some i => match opv env x with
  | .v false [.ptr n off] => match lk h n with
   | some (.box _ cs) => if off + i.size ≤ cs.length then some { ok := true, val := .v i.agg (seg cs off i.size), heap := h, rd := [n] } else none
   | _ => none
  | .v false [.ep n t k j] => match lk h n with
   | some (.arr _ t' l) => if e : t' = t then
       (if j + i.size ≤ width t then some { ok := decide (k < l.length), val := .v i.agg (seg ((enc t ((e ▸ l : List (Ty t)).getD k (dflt t))).map .d) j i.size), heap := h, rd := [n] } else none)
    else none
   | _ => none
  | .v false [.d (.ref cs)] => if i.size ≤ cs.length then pure1 h (.v i.agg (seg (cs.map .d) 0 i.size)) else none
  | _ => none

def storeE (cx : Cx) (T : TypeId) (env : List V) (h : Heap) (x y : Operand) : Option Eff :=
 match cx.tt T with
 | none => none
 | some i => match norm cx T (opv env y) with
  | .v _ ys => if ys.length == i.size then
      (match opv env x with
      | .v false [.ptr n off] => match lk h n with
       | some (.box B cs) => if off + i.size ≤ cs.length then some { ok := true, val := .any, heap := h.set n (some (.box B (putL cs off ys))), rd := [n], wr := [n] } else none
       | _ => none
      | .v false [.ep n t k j] => match lk h n, toDL ys with
       | some (.arr B t' l), some ds => if e : t' = t then
           (if j + i.size ≤ width t then match dec t (putL (enc t ((e ▸ l : List (Ty t)).getD k (dflt t))) j ds) with
           | some z => some { ok := decide (k < l.length), val := .any, heap := h.set n (some (.arr B t ((e ▸ l : List (Ty t)).set k z))), rd := [n], wr := [n] }
           | none => none
           else none)
        else none
       | _, _ => none
      | _ => none)
   else none
  | _ => none

def eqSc : Sc → Sc → Option Bool
 | .int k a, .int k' b => if k = k' then some (a == b) else none
 | .bool a, .bool b => some (a == b)
 | .str a, .str b => some (decide (a = b))
 | _, _ => none
def eqRowS : List Sc → List Sc → Option Bool
 | [], [] => some true
 | [a], [b] => eqSc a b
 | a :: x, b :: y => match eqSc a b, eqRowS x y with
  | some p, some q => some (p && q)
  | _, _ => none
 | _, _ => none
def scsOf : List C → Option (List Sc)
 | [] => some []
 | .d (.sc s) :: r => match scsOf r with
  | some l => some (s :: l)
  | none => none
 | _ => none
def kindsOk : List D → List Sc → Bool
 | [], [] => true
 | .sc (.int k _) :: z, .int k' _ :: x => decide (k = k') && kindsOk z x
 | .sc (.bool _) :: z, .bool _ :: x => kindsOk z x
 | .sc (.str _) :: z, .str _ :: x => kindsOk z x
 | _, _ => false
def eqRow (z : List D) (x y : List C) : Option Bool := match scsOf x, scsOf y with
 | some a, some b => if kindsOk z a && kindsOk z b then eqRowS a b else none
 | _, _ => none

def intBin (op : BinOp) (k : IntKind) (a b : Int) : Option (Bool × V) :=
 match op with
 | .add => some (true, .v false [.d (.sc (.int k (k.wrap (a + b))))])
 | .sub => some (true, .v false [.d (.sc (.int k (k.wrap (a - b))))])
 | .mul => some (true, .v false [.d (.sc (.int k (k.wrap (a * b))))])
 | .quo => some (decide (b ≠ 0), .v false [.d (.sc (.int k (k.wrap (a.tdiv b))))])
 | .rem => some (decide (b ≠ 0), .v false [.d (.sc (.int k (a.tmod b)))])
 | .shr => some (decide (b = 1), .v false [.d (.sc (.int k (a.fdiv 2)))])
 | .eql => some (true, .b (a == b))
 | .neq => some (true, .b (a != b))
 | .lss => some (true, .b (decide (a < b)))
 | .leq => some (true, .b (decide (a ≤ b)))
 | .gtr => some (true, .b (decide (a > b)))
 | .geq => some (true, .b (decide (a ≥ b)))
 | _ => none

def strLt (a b : ByteArray) : Bool := Op.bytesLess a.toList b.toList
def strBin (op : BinOp) (a b : ByteArray) : Option (Bool × V) :=
 match op with
 | .eql => some (true, .b (decide (a = b)))
 | .neq => some (true, .b (!decide (a = b)))
 | .lss => some (true, .b (strLt a b))
 | .leq => some (true, .b (strLt a b || decide (a = b)))
 | .gtr => some (true, .b (!(strLt a b || decide (a = b))))
 | .geq => some (true, .b (!strLt a b))
 | _ => none

def D.isSc : D → Bool
 | .sc _ => true
 | _ => false

def binE (cx : Cx) (op : BinOp) (T : TypeId) (yc : Bool) (x y : V) : Option (Bool × V) :=
 match x, y with
 | .v false [.d (.sc (.int k a))], .v false [.d (.sc (.int k' b))] => if k = k' then intBin op k a b else none
 | .v false [.d (.sc (.str a))], .v false [.d (.sc (.str b))] => strBin op a b
 | .v false [.d (.sc (.bool a))], .v false [.d (.sc (.bool b))] => match cx.tt T with
  | some ⟨.bool, _, _, _⟩ => match op with
   | .eql => some (true, .b (a == b))
   | .neq => some (true, .b (!(a == b)))
   | _ => none
  | _ => none
 | .v true xs, .v true ys => match cx.tt T with
  | some ⟨.struct _, _, z, _⟩ => match eqRow z xs ys with
   | some p => if z.all D.isSc then (match op with
    | .eql => some (true, .b p)
    | .neq => some (true, .b (!p))
    | _ => none) else none
   | none => none
  | _ => none
 | .v false [.d (.sl nl _ _ l)], .v false [.d .nils] => match cx.tt T with
  | some ⟨.slice .., _, _, _⟩ => match op, nl with
   | .eql, some b => some (true, .b b)
   | .neq, some b => some (true, .b (!b))
   | .eql, none => some (!l.isEmpty, .b false)
   | .neq, none => some (!l.isEmpty, .b true)
   | _, _ => none
  | _ => none
 | .v false [.d (.th a)], .v false [.d (.th .nil)] => match cx.tt T with
  | some ⟨.iface, _, _, _⟩ => if yc then (match op with
   | .eql => some (true, .b a.isNil)
   | .neq => some (true, .b (!a.isNil))
   | _ => none) else none
  | _ => none
 | _, _ => none

def pickV (t : Bool) (a b : V) : V :=
 match a, b with
 | .v false [.d (.sc (.bool x))], .v false [.d (.sc (.bool y))] => .b (cond t x y)
 | _, _ => cond t a b

def assertE (cx : Cx) (x : Thing) (T : TypeId) (commaOk : Bool) : Option (Bool × V) :=
 let fin (is : Bool) (g : Bool) (cs : List C) : Option (Bool × V) := if commaOk then some (true, .tup [(g, cs), (false, [.d (.b is)])]) else some (is, .v g cs)
 match cx.tt T with
 | some ⟨.int k, _, [.sc (.int k2 0)], _⟩ => if k2 = k then fin (x.isI T k) false [.d (.sc (.int k (x.asI T k)))] else none
 | some ⟨.bool, _, [.sc (.bool false)], _⟩ => fin (x.isB T) false [.d (.b (x.asB T))]
 | some ⟨.str, _, [.sc (.str s)], _⟩ => if s = ByteArray.empty then fin (x.isS T) false [.d (.s (x.asS T))] else none
 | some ⟨.struct _, 3, [.sc (.int .i64 0), .sc (.int .i64 0), .sc (.str s)], _⟩ => if s = ByteArray.empty then fin (x.isV T) true ((enc .val (x.asV T)).map .d) else none
 | _ => none

def ifaceE (cx : Cx) (T : TypeId) : V → Option V
 | .v false [.d (.sc s)] => match cx.tt T, s with
  | some ⟨.int k, _, _, _⟩, .int k' n => if k = k' then some (.v false [.d (.th (.one T (.int k n)))]) else none
  | some ⟨.bool, _, _, _⟩, .bool b => some (.v false [.d (.th (.one T (.bool b)))])
  | some ⟨.str, _, _, _⟩, .str b => some (.v false [.d (.th (.one T (.str b)))])
  | _, _ => none
 | .v true [.d (.sc (.int .i64 a)), .d (.sc (.int .i64 b)), .d (.sc (.str s))] => match cx.tt T with
  | some ⟨.struct _, 3, [.sc (.int .i64 0), .sc (.int .i64 0), .sc (.str _)], _⟩ => some (.v false [.d (.th (.val T ⟨a, b, s⟩))])
  | _ => none
 | _ => none

def appendE (cx : Cx) (T : TypeId) (nm : Nat) (h : Heap) (s x : C) : Option Eff :=
 match cx.tt T with
 | some ⟨.slice e t, _, _, _⟩ =>
  match slOf h x with
  | none => none
  | some ⟨t2, l2, _, r2, p⟩ => if e2 : t2 = t then
   (let m : List (Ty t) := e2 ▸ l2
   match s with
   | .d .nils => some { ok := p && (bif cx.wide then decide (m.length * szB t ≤ 140737488355328) else decide (m.length ≤ 1048576)), val := .v false [.own nm t false 0 m.length], heap := h.set nm (some (.arr e t m)), rd := r2, wr := [nm] }
   | .d (.sl _ full t' l) => if e1 : t' = t then
       some { ok := p && full && (l.isEmpty || decide (0 < m.length)) && (bif cx.wide then decide ((l.length + m.length) * szB t ≤ 140737488355328) else decide (l.length + m.length ≤ 1048576)), val := .v false [.own nm t false 0 (l.length + m.length)],
              heap := h.set nm (some (.arr e t ((e1 ▸ l : List (Ty t)) ++ m))), rd := r2, wr := [nm] }
    else none
   | .own n t' _ 0 len => match lk h n with
    | some (.arr e' t'' l) => if e1 : t'' = t then
        (if t' = t && e' == e && !(r2.contains n) then
         some { ok := p && decide (len ≤ l.length) && (bif cx.wide then decide ((len + m.length) * szB t ≤ 140737488355328) else decide (len + m.length ≤ 1048576)), val := .v false [.own nm t false 0 (len + m.length)],
                heap := (h.set n none).set nm (some (.arr e t ((e1 ▸ l : List (Ty t)).take len ++ m))), rd := n :: r2, wr := [n, nm] }
        else none)
     else none
    | _ => none
   | _ => none)
   else none
 | _ => none

def copyE (e : TypeId) (t : ET) (h : Heap) (s x : C) : Option Eff :=
 match s with
 | .own n tn _ off len => if tn = t then (match lk h n, slOf h x with
  | some (.arr B t' l), some ⟨t2, l2, _, r2, p⟩ => if e1 : t' = t then (if e2 : t2 = t then
      (if !(r2.contains n) then
       (let l : List (Ty t) := e1 ▸ l
       let m : List (Ty t) := e2 ▸ l2
       some { ok := p && decide (off + len ≤ l.length), val := .i (min m.length len : Nat), heap := h.set n (some (.arr B t (l.take off ++ m.take len ++ l.drop (off + min m.length len)))), rd := n :: r2, wr := [n] })
      else none) else none) else none
  | _, _ => none) else none
 | _ => none

def clearE (e : TypeId) (t : ET) (h : Heap) (s : C) : Option Eff :=
 match s with
 | .own n tn _ off len => if tn = t then (match lk h n with
  | some (.arr B t' l) => if e1 : t' = t then
      (let l : List (Ty t) := e1 ▸ l
      some { ok := decide (off + len ≤ l.length), val := .any, heap := h.set n (some (.arr B t (l.take off ++ List.replicate len (dflt t) ++ l.drop (off + len)))), rd := [n], wr := [n] })
   else none
  | _ => none) else none
 | _ => none

def bltE (cx : Cx) (b : Builtin) (nm : Nat) (h : Heap) (vs : List V) (ts : List TypeId) : Option Eff :=
 match b, vs, ts with
 | .len, [.v false [c]], T :: _ => match cx.tt T, lenC c, c with
  | some ⟨.str, _, _, _⟩, some n, .d (.sc (.str _)) => pure1 h (.i n)
  | some ⟨.slice _ _, _, _, _⟩, some _, .d (.sc (.str _)) => none
  | some ⟨.slice _ _, _, _, _⟩, some n, _ => pure1 h (.i n)
  | _, _, _ => none
 | .append, [.v false [s], .v false [x]], [T, T2] => match cx.tt T2 with
  | some ⟨.slice _ _, _, _, _⟩ => appendE cx T nm h s x
  | _ => none
 | .copy, [.v false [s], .v false [x]], [T, _] => match cx.tt T with
  | some ⟨.slice e t, _, _, _⟩ => copyE e t h s x
  | _ => none
 | .clear, [.v false [s]], [T] => match cx.tt T with
  | some ⟨.slice e t, _, _, _⟩ => clearE e t h s
  | _ => none
 | .max, [.v false [.d (.sc (.int k a))], .v false [.d (.sc (.int k' b))]], _ => if k = k' then pure1 h (.v false [.d (.sc (.int k (if b > a then b else a)))]) else none
 | .min, [.v false [.d (.sc (.int k a))], .v false [.d (.sc (.int k' b))]], _ => if k = k' then pure1 h (.v false [.d (.sc (.int k (if b < a then b else a)))]) else none
 | _, _, _ => none

def argsOf (cx : Cx) (env : List V) : List Operand → List TypeId → Option (List Arg)
 | [], _ => some []
 | x :: xs, ts => match norm cx (ts.headD 0) (opv env x), argsOf cx env xs ts.tail with
  | .v g cs, some r => some ((g, cs) :: r)
  | _, _ => none

def valOf : List Arg → V
 | [(g, cs)] => .v g cs
 | [] => .any
 | rs => .tup rs

def ownTo (nm : Nat) : C → C
 | .own _ t full off len => .own nm t full off len
 | c => c

def ET.flat : ET → Bool
 | .mat | .run | .pass | .val | .op | .int | .bool | .thing => true
 | _ => false
def lendC : C → Bool
 | .d (.sc _) | .d (.th _) | .own .. => true
 | _ => false
def Ret.lends (r : Ret) : Bool := r.vals.all (fun a => a.2.all lendC) && (match r.row with
 | some (_, ⟨t, _⟩) => t.flat
 | none => true)
def lentOf (b : Bool) (ks : List Nat) : List Nat := if b then [] else ks

def callG (G : List DArg → Option Ret) (nm : Nat) (h : Heap) (as : List Arg) : Option Eff :=
 match demArgs h as with
 | none => none
 | some (ds, ks, p) => match G ds with
  | none => none
  | some r => some { ok := p && r.ok, val := valOf (r.vals.map fun (g, cs) => (g, cs.map (ownTo nm))),
                     heap := match r.row with
                      | some (e, ⟨t, l⟩) => (kill h (lentOf r.lends ks)).set nm (some (.arr e t l))
                      | none => kill h (lentOf r.lends ks)
                     rd := ks, wr := nm :: lentOf r.lends ks }

inductive Way where
 | gam (G : List DArg → Option Ret) (as : List Arg)
 | inl (fn : Func) (f : FuncId) (as : List Arg)

def wayOf (cx : Cx) (env : List V) (c : Call) : Option Way :=
 match argsOf cx env c.args.toList c.argTypes.toList with
 | none => none
 | some as => match c.callee with
  | .value f => match opv env f with
   | .v false [.d (.fn g fs ks)] =>
    let all : List Arg := fs.map (fun r => (false, [C.d (.ref r)])) ++ as ++ ks.map (fun r => (false, [C.d (.ref r)]))
    match cx.ga g with
    | some G => some (.gam G all)
    | none => match cx.inl g with
     | some fn => some (.inl fn g all)
     | none => none
   | .v false [.clo g fs ks] => match cx.inl g with
    | some fn => some (.inl fn g (fs.map (fun n => (false, [C.ptr n 0])) ++ as ++ ks.map (fun n => (false, [C.ptr n 0]))))
    | none => none
   | _ => none
  | .invoke x m => match cx.inv m, opv env x with
   | some G, .v false [.d (.th y)] => some (.gam G ((false, [.d (.th y)]) :: as))
   | _, _ => none
  | .builtin _ => none

def ptrs : List V → Option (List Nat)
 | [] => some []
 | .v false [.ptr n 0] :: r => match ptrs r with
  | some ns => some (n :: ns)
  | none => none
 | _ => none
def refs : List V → Option (List (List D))
 | [] => some []
 | .v false [.d (.ref cs)] :: r => match refs r with
  | some ns => some (cs :: ns)
  | none => none
 | _ => none

def nilE : V → Option (Bool × V)
 | .v false [.d (.th x)] => some (!x.isNil, .v false [.d (.th x)])
 | .v false [.ptr n o] => some (true, .v false [.ptr n o])
 | .v false [.ep n t i j] => some (true, .v false [.ep n t i j])
 | .v false [.clo f a b] => some (true, .v false [.clo f a b])
 | .v false [.yld n] => some (true, .v false [.yld n])
 | .v false [.d (.fn f a b)] => some (true, .v false [.d (.fn f a b)])
 | .v false [.d (.ref cs)] => some (true, .v false [.d (.ref cs)])
 | _ => none

def opE (cx : Cx) (nm : Nat) (env : List V) (h : Heap) (o : Oper) : Option Eff :=
 match o.op with
 | .move x | .assign x => pure1 h (norm cx o.type (opv env x))
 | .pick c a b => match opv env c with
  | .v false [.d (.sc (.bool t))] => pure1 h (pickV t (opv env a) (opv env b))
  | _ => none
 | .alloc T => match cx.tt T with
  | some i => some { ok := true, val := .v false [.ptr nm 0], heap := h.set nm (some (.box T (i.zero.map .d))), wr := [nm] }
  | none => none
 | .box T x => match cx.tt T, norm cx T (opv env x) with
  | some i, .v g cs => if g == i.agg && cs.length == i.size then some { ok := true, val := .v false [.ptr nm 0], heap := h.set nm (some (.box T cs)), wr := [nm] } else none
  | _, _ => none
 | .build T parts => match cx.tt T with
  | some ⟨.struct _, _, z, _⟩ => match fillB cx T env parts.toList (z.map .d) with
   | some cs => pure1 h (.v true cs)
   | none => none
  | some ⟨.array _ e, _, z, _⟩ => match cx.tt e with
   | some fi => match fillA cx e fi env parts.toList (z.map .d) with
    | some cs => pure1 h (.v true cs)
    | none => none
   | none => none
  | _ => none
 | .buildSlice T n parts => match cx.tt T with
  | some ⟨.slice e t, _, _, _⟩ => match rowsB cx e t env h parts.toList (List.replicate n (dflt t)) [] true with
   | some (l, ks, p) => if n ≤ 1000 then some { ok := p, val := .v false [.own nm t true 0 n], heap := (kill h ks).set nm (some (.arr e t l)), rd := ks, wr := nm :: ks } else none
   | none => none
  | _ => none
 | .load T x => loadE cx T env h x
 | .store T x y => storeE cx T env h x y
 | .nilCheck x => match nilE (opv env x) with
  | some (c, v) => some { ok := c, val := v, heap := h }
  | none => none
 | .binOp op T x y _ => match binE cx op T (Region.isConst y) (opv env x) (opv env y) with
  | some (c, v) => some { ok := c, val := v, heap := h }
  | none => none
 | .unOp op _ x => match op, opv env x with
  | .not, .v false [.d (.sc (.bool b))] => pure1 h (.b (!b))
  | .neg, .v false [.d (.sc (.int k n))] => pure1 h (.v false [.d (.sc (.int k (k.wrap (0 - n))))])
  | _, _ => none
 | .convert S T x => match cx.tt S, cx.tt T, opv env x with
  | some ⟨.int _, _, _, _⟩, some ⟨.int k, _, _, _⟩, .v false [.d (.sc (.int _ n))] => pure1 h (.v false [.d (.sc (.int k (k.wrap n)))])
  | _, _, _ => none
 | .makeInterface T x => match ifaceE cx T (opv env x) with
  | some v => pure1 h v
  | none => none
 | .makeFunc fn first caps => match fn with
  | .func f =>
   let a := first.toList.map (opv env)
   let b := caps.toList.map (opv env)
   match a, b with
   | [], [] => pure1 h (.v false [.d (.fn f [] [])])
   | _, _ => match ptrs a, ptrs b with
    | some x, some y => pure1 h (.v false [.clo f x y])
    | _, _ => match refs a, refs b with
     | some x, some y => pure1 h (.v false [.d (.fn f x y)])
     | _, _ => none
  | _ => none
 | .makeSlice T x y => match cx.tt T, opv env x, opv env y with
  | some ⟨.slice e t, _, _, _⟩, .v false [.d (.sc (.int .i64 n))], .v false [.d (.sc (.int .i64 m))] =>
   some { ok := decide (0 ≤ n) && decide (n ≤ 1048576) && (n == m), val := .v false [.own nm t true 0 n.toNat], heap := h.set nm (some (.arr e t (List.replicate n.toNat (dflt t)))), wr := [nm] }
  | _, _, _ => none
 | .slice T x lo hi mx => match bnd env lo, bnd env hi, bnd env mx, opv env x, cx.tt T with
  | some lo, some hi, some none, .v false [.d (.sc (.str s))], some ⟨.str, _, _, _⟩ => let (c, a, b, _) := cut s.size lo hi none
   some { ok := c, val := .v false [.d (.s (s.extract a b))], heap := h }
  | some lo, some hi, some mx, .v false [.d (.sl _ full t l)], some ⟨.slice _ t', _, _, _⟩ => if t' = t then
      (let (c, a, b, f) := cut l.length lo hi mx
      some { ok := c, val := .v false [.d (.sl none (fullOf mx f full) t (sub l a b))], heap := h }) else none
  | some lo, some hi, some mx, .v false [.own n t full off len], some ⟨.slice _ t', _, _, _⟩ => if t' = t then
      (let (c, a, b, f) := cut len lo hi mx
      some { ok := c, val := .v false [.own n t (fullOf mx f full) (offOf lo off a) (lenOf lo b a)], heap := h }) else none
  | _, _, _, _, _ => none
 | .fieldAddr S x f => match fieldOf cx S f, opv env x with
  | some (off, F), v => if sizeOfT cx F = 0 then none else
   (match v with
   | .v false [.ptr n o] => pure1 h (.v false [.ptr n (o + off)])
   | .v false [.ep n t i j] => pure1 h (.v false [.ep n t i (j + off)])
   | .v false [.d (.ref cs)] => pure1 h (.v false [.d (.ref (cs.drop off))])
   | _ => none)
  | none, _ => none
 | .field S x f => match fieldOf cx S f, opv env x with
  | some (off, F), .v true cs => match cx.tt F with
   | some i => if off + i.size ≤ cs.length then pure1 h (.v i.agg (seg cs off i.size)) else none
   | none => none
  | _, _ => none
 | .indexAddr T x i => match cx.tt T, opv env x, opv env i with
  | some ⟨.slice _ t', _, _, _⟩, .v false [.d (.sl _ _ t l)], .v false [.d (.sc (.int _ n))] => if t' = t then
   some { ok := decide (0 ≤ n) && decide (n < l.length), val := .v false [.d (.ref (enc t (l.getD n.toNat (dflt t))))], heap := h } else none
  | some ⟨.slice _ t', _, _, _⟩, .v false [.own k t _ off len], .v false [.d (.sc (.int _ n))] => if t' = t then
   some { ok := decide (0 ≤ n) && decide (n < len), val := .v false [.ep k t (off + n.toNat) 0], heap := h } else none
  | some ⟨.array m e, _, _, _⟩, .v false [.ptr k o], .v false [.d (.sc (.int _ n))] => match cx.tt e with
   | some _ => some { ok := decide (0 ≤ n) && decide (n < m), val := .v false [.ptr k (o + n.toNat * sizeOfT cx e)], heap := h }
   | none => none
  | _, _, _ => none
 | .index T x i => match cx.tt T, opv env x, opv env i with
  | some ⟨.str, _, _, _⟩, .v false [.d (.sc (.str s))], .v false [.d (.sc (.int _ n))] =>
   some { ok := decide (0 ≤ n) && decide (n < s.size), val := .v false [.d (.sc (.int .u8 (byteAt s n.toNat)))], heap := h }
  | _, _, _ => none
 | .typeAssert x _ T commaOk => match opv env x with
  | .v false [.d (.th y)] => match assertE cx y T commaOk with
   | some (c, v) => some { ok := c, val := v, heap := h }
   | none => none
  | _ => none
 | .extract x i => match opv env x with
  | .tup vs => match vs[i]? with
   | some (g, cs) => pure1 h (.v g cs)
   | none => none
  | _ => none
 | .call c => match c.callee with
  | .builtin b => bltE cx b nm h (c.args.toList.map (opv env)) c.argTypes.toList
  | _ => match wayOf cx env c with
   | some (.gam G as) => callG G nm h as
   | _ => none
 | _ => none

def yldFn : Func := { (default : Func) with name := "yield", body := none }
def yldE (cx : Cx) (env : List V) (c : Call) : Option (Nat × List Arg) :=
 match c.callee with
 | .value f => match opv env f with
  | .v false [.yld n] => match argsOf cx env c.args.toList c.argTypes.toList with
   | some as => some (n, as)
   | none => none
  | _ => none
 | _ => none
def inlE (cx : Cx) (env : List V) (o : Oper) : Option (Func × FuncId × List Arg) :=
 match o.op with
 | .call c => match c.callee with
  | .builtin _ => none
  | _ => match wayOf cx env c with
   | some (.inl fn f as) => some (fn, f, as)
   | some (.gam _ _) => none
   | none => match yldE cx env c with
    | some (n, as) => some (yldFn, n, as)
    | none => none
 | _ => none

def putV (env : List V) (dst : Option Tmp) (v : V) : List V := match dst with
 | some d => env.set d v
 | none => env

structure Note where
 i : Nat
 rd : List Nat
 wr : List Nat
 all : Bool

def meddle (a b : Note) : Bool :=
 (a.all && (b.all || !b.rd.isEmpty || !b.wr.isEmpty)) || (b.all && (!a.rd.isEmpty || !a.wr.isEmpty)) ||
 a.wr.any (fun n => b.rd.contains n || b.wr.contains n) || b.wr.any (fun n => a.rd.contains n)

def notesOk (bs : Array Nat) : List Note → Bool
 | [] => true
 | x :: r => r.all (fun y => (bs.getD (max x.i y.i) 0).testBit (min x.i y.i) || !meddle x y) && notesOk bs r

def orderOk (ops : Array Oper) (bs : Array Nat) : Bool :=
 (List.range ops.size).all fun j => match ops[j]? with
  | none => false
  | some b => b.after.toList.all (fun e => !Region.binds .any e || decide (e.on < j)) &&
   (List.range j).all fun i => (bs.getD j 0).testBit i || (match ops[i]? with
    | some a => a.apart ops b
    | none => false)

section
variable {R : Type}

inductive Ex where
 | normal
 | exit (id : Nat)
 | ret

structure Hd (R : Type) where
 lp : FuncId → Code → List Nat → Nat → St → (Ex → St → R) → R
 cl : Func → FuncId → List Arg → Heap → (List Arg → Heap → R) → R
 rf : FuncId → Operand → Code → St → (Ex → St → R) → R

def evOps (cx : Cx) (hd : Hd R) (fail : R) (ops : Array Oper) (base : Nat) : List Nat → St → List Note → (St → List Note → R) → R
 | [], st, lg, K => K st lg
 | i :: rest, st, lg, K =>
  match ops[i]? with
  | none => fail
  | some o =>
   let skip (env : List V) : R := evOps cx hd fail ops base rest ⟨putV env o.dst (.tup []), st.heap, st.fb⟩ lg K
   let go (env : List V) : R :=
    match inlE cx env o with
    | some (fn, f, as) => hd.cl fn f as st.heap fun rs h => evOps cx hd fail ops base rest ⟨putV env o.dst (valOf rs), h, st.fb⟩ (⟨i, [], [], true⟩ :: lg) K
    | none => match opE cx (base + i) env st.heap o with
     | none => fail
     | some e => cond e.ok (evOps cx hd fail ops base rest ⟨putV env o.dst e.val, e.heap, st.fb⟩ (⟨i, e.rd, e.wr, false⟩ :: lg) K) fail
   match o.guard with
   | none => go st.env
   | some (j, want) => match (ops[j]?).bind (·.dst) with
    | none => fail
    | some d => match st.env.getD d .any with
     | .v false [.d (.sc (.bool b))] =>
      cond b (if want then go (st.env.set d (.b true)) else skip (st.env.set d (.b true))) (if want then skip (st.env.set d (.b false)) else go (st.env.set d (.b false)))
     | .tup [] => skip st.env
     | _ => fail

def promote (t : ET) (T : TypeId) (h : Heap) : C → Option (C × Heap)
 | .d .nils => some (.own h.length t true 0 0, h ++ [some (.arr T t [])])
 | .d (.sl _ full t' l) => if t' = t && full && l.isEmpty then some (.own h.length t true 0 0, h ++ [some (.arr T t [])]) else none
 | .own n t' full off len => if T = 0 then (match lk h n with
     | some (.arr T2 t2 l) => some (.own h.length t' full off len, h.set n none ++ [some (.arr T2 t2 l)])
     | _ => none)
  else some (.own n t' full off len, h)
 | _ => none

def slotV (env : List V) (s : Nat) : V := if 1000 ≤ s then .v false [.ptr (s - 1000) 0] else env.getD s .any
def accGet (st : St) (s : Nat) (j : Option Nat) : Option C :=
 match slotV st.env s, j with
 | .v false [c], none => if 1000 ≤ s then none else some c
 | .v false [.ptr n o], some j => match lk st.heap n with
  | some (.box _ cs) => cs[o + j]?
  | _ => none
 | _, _ => none
def accSet (st : St) (s : Nat) (j : Option Nat) (c : C) : Option St :=
 match slotV st.env s, j with
 | .v false [_], none => if 1000 ≤ s then none else some ⟨st.env.set s (.v false [c]), st.heap, st.fb⟩
 | .v false [.ptr n o], some j => match lk st.heap n with
  | some (.box B cs) => some ⟨st.env, st.heap.set n (some (.box B (cs.set (o + j) c))), st.fb⟩
  | _ => none
 | _, _ => none

def begin_ : List (Nat × Option Nat × ET × TypeId) → St → Option St
 | [], st => some st
 | (s, j, t, T) :: r, st => match accGet st s j with
  | none => none
  | some c => match promote t T st.heap c with
   | none => none
   | some (c', h) => match accSet ⟨st.env, h, st.fb⟩ s j c' with
    | none => none
    | some st' => begin_ r st'

def homes : List (Nat × Option Nat × ET × TypeId) → St → Option (List Nat)
 | [], _ => some []
 | (s, j, _, _) :: r, st => match accGet st s j, homes r st with
  | some (.own n _ _ _ _), some ns => some (n :: ns)
  | _, _ => none

def noRefC (n : Nat) : C → Bool
 | .d _ => true
 | .ptr m _ | .ep m _ _ _ | .own m _ _ _ _ | .yld m => !(m == n)
 | .clo _ a b => !(a.contains n) && !(b.contains n)
def noRefV (n : Nat) : V → Bool
 | .any => true
 | .v _ cs => cs.all (noRefC n)
 | .tup vs => vs.all fun (_, cs) => cs.all (noRefC n)
def noRefB (n : Nat) : Option Blk → Bool
 | some (.box _ cs) => cs.all (noRefC n)
 | some (.lp _ env _ _) => env.all (noRefV n)
 | _ => true

def ren (n m k : Nat) : Nat := if k = n then m else k
def renC (n m : Nat) : C → C
 | .d x => .d x
 | .ptr k o => .ptr (ren n m k) o
 | .ep k t i j => .ep (ren n m k) t i j
 | .own k t full off len => .own (ren n m k) t full off len
 | .clo f a b => .clo f (a.map (ren n m)) (b.map (ren n m))
 | .yld k => .yld (ren n m k)
def renV (n m : Nat) : V → V
 | .any => .any
 | .v g cs => .v g (cs.map (renC n m))
 | .tup vs => .tup (vs.map fun (g, cs) => (g, cs.map (renC n m)))
def renB (n m : Nat) : Blk → Blk
 | .box T cs => .box T (cs.map (renC n m))
 | .arr T t l => .arr T t l
 | .lp k env s j => .lp k (env.map (renV n m)) s j

def back1 (s : Nat) (j : Option Nat) (home : Nat) (st : St) : Option St :=
 match accGet st s j with
 | some (.own n _ _ _ _) => if n = home then some st else
  (match lk st.heap home, lk st.heap n with
  | none, some b => if decide (st.fb ≤ home) && decide (home < st.heap.length) && st.env.all (noRefV home) && st.heap.all (noRefB home) then
      some ⟨st.env.map (renV n home), ((st.heap.map (Option.map (renB n home))).set n none).set home (some (renB n home b)), st.fb⟩
   else none
  | _, _ => none)
 | _ => none
def backs : List (Nat × Option Nat × ET × TypeId) → List Nat → St → Option St
 | [], _, st => some st
 | (s, j, _, _) :: r, n :: ns, st => match back1 s j n st with
  | some st' => backs r ns st'
  | none => none
 | _, _, _ => none

def lowC (base : Nat) : C → Bool
 | .d _ => true
 | .ptr n _ | .ep n _ _ _ | .own n _ _ _ _ | .yld n => n < base
 | .clo _ a b => a.all (· < base) && b.all (· < base)
def lowV (base : Nat) : V → Bool
 | .any => true
 | .v _ cs => cs.all (lowC base)
 | .tup vs => vs.all fun (_, cs) => cs.all (lowC base)
def lowB (base : Nat) : Option Blk → Bool
 | some (.box _ cs) => cs.all (lowC base)
 | some (.lp _ env _ _) => env.all (lowV base)
 | _ => true

def keepOnly (keep : List Nat) (env : List V) : List V := (List.range env.length).map fun t => if keep.contains t then env.getD t .any else .any

def clean (hint : Hint) (base : Nat) (st : St) : Option St :=
 let env := keepOnly hint.keep st.env
 let h := st.heap.take base
 if decide (st.fb ≤ base) && env.all (lowV base) && h.all (lowB base) then some ⟨env, h, st.fb⟩ else none

def frzC (h : Heap) : C → C
 | .own n t full off len => match lk h n with
  | some (.arr _ t' l) => if e : t' = t then .d (.sl none full t (sub (e ▸ l) off (off + len))) else .own n t full off len
  | _ => .own n t full off len
 | c => c
def frzOk (h : Heap) : C → Bool
 | .own n t _ off len => match lk h n with
  | some (.arr _ t' l) => if t' = t then decide (off + len ≤ l.length) else true
  | _ => true
 | _ => true
def frzV (h : Heap) : V → V
 | .any => .any
 | .v g cs => .v g (cs.map (frzC h))
 | .tup vs => .tup (vs.map fun (g, cs) => (g, cs.map (frzC h)))
def frzOkV (h : Heap) : V → Bool
 | .any => true
 | .v _ cs => cs.all (frzOk h)
 | .tup vs => vs.all fun (_, cs) => cs.all (frzOk h)
def frzB (h : Heap) : Option Blk → Option Blk
 | some (.box T cs) => some (.box T (cs.map (frzC h)))
 | some (.lp k env s j) => some (.lp k (env.map (frzV h)) s j)
 | _ => none
def frzOkB (h : Heap) : Option Blk → Bool
 | some (.box _ cs) => cs.all (frzOk h)
 | some (.lp _ env _ _) => env.all (frzOkV h)
 | _ => true
def freeze (st : St) : St := ⟨st.env.map (frzV st.heap), st.heap.map (frzB st.heap), st.fb⟩
def freezeOk (st : St) : Bool := st.env.all (frzOkV st.heap) && st.heap.all (frzOkB st.heap)

def firstReg : Code → Nat
 | .region id _ _ => id
 | .seq a _ => firstReg a
 | .block _ a | .loop a | .scope a => firstReg a
 | _ => 0

def evCode (cx : Cx) (hd : Hd R) (fail : R) (f : FuncId) : Code → St → (Ex → St → R) → R
 | .skip, st, K | .label _, st, K => K .normal st
 | .region id ops draw, st, K =>
  let go (st : St) : R := evOps cx hd fail ops st.heap.length (List.range ops.size) ⟨st.env, st.heap ++ List.replicate ops.size none, st.fb⟩ [] fun st' lg =>
   if draw then cond (notesOk (Region.before ops) lg && orderOk ops (Region.before ops)) (K .normal st') fail else K .normal st'
  if (cx.hint f id).frz then cond (freezeOk st) (go (freeze st)) fail else go st
 | .seq a b, st, K => evCode cx hd fail f a st fun e st' => match e with
  | .normal => evCode cx hd fail f b st' K
  | e => K e st'
 | .cond c a b, st, K => match opv st.env c with
  | .v false [.d (.sc (.bool t))] => cond t (evCode cx hd fail f a st K) (evCode cx hd fail f b st K)
  | _ => fail
 | .block id a, st, K => evCode cx hd fail f a st fun e st' => match e with
  | .exit i => if i == id then K .normal st' else K (.exit i) st'
  | e => K e st'
 | .loop body, st, K =>
  let hint := cx.hint f (firstReg body)
  match begin_ hint.acc st with
  | none => fail
  | some st1 => match clean hint st1.heap.length st1, homes hint.acc st1 with
   | some st2, some hs => hd.lp f body hs st1.heap.length st2 K
   | _, _ => fail
 | .scope a, st, K => evCode cx hd fail f a st K
 | .rangeFunc g _ _ body, st, K => hd.rf f g body st K
 | .exit id, st, K => K (.exit id) st
 | .ret, st, K => K .ret st
 | _, _, _ => fail

def resOf (cx : Cx) (st : St) : ResultVar → TypeId → Option Arg
 | .tmp t, _ => match st.env.getD t .any with
  | .v g cs => some (g, cs)
  | _ => none
 | .cell t T, _ => match st.env.getD t .any, cx.tt T with
  | .v false [.ptr n o], some i => match lk st.heap n with
   | some (.box _ cs) => if o + i.size ≤ cs.length then some (i.agg, seg cs o i.size) else none
   | _ => none
  | _, _ => none
def resL (cx : Cx) (st : St) : List ResultVar → List TypeId → Option (List Arg)
 | [], _ => some []
 | r :: rs, ts => match resOf cx st r (ts.headD 0), resL cx st rs ts.tail with
  | some a, some as => some (a :: as)
  | _, _ => none

def evFun (cx : Cx) (hd : Hd R) (fail : R) (fn : Func) (f : FuncId) (as : List Arg) (h : Heap) (K : List Arg → Heap → R) : R :=
 match fn.body with
 | none => fail
 | some c => evCode cx hd fail f c ⟨as.map (fun (g, cs) => V.v g cs) ++ List.replicate (fn.ntmps - as.length) .any, h, h.length⟩ fun e st => match e with
  | .exit _ => fail
  | _ => match resL cx st fn.results.toList fn.resultTypes.toList with
   | some rs => K rs st.heap
   | none => fail

def evN (cx : Cx) (fail : R) : Nat → Hd R
 | 0 => { lp := fun _ _ _ _ _ _ => fail, cl := fun _ _ _ _ _ => fail, rf := fun _ _ _ _ _ => fail }
 | n + 1 => {
  lp := fun f body hs base st K => evCode cx (evN cx fail n) fail f body st fun e st' => match e with
   | .normal => match backs (cx.hint f (firstReg body)).acc hs ⟨keepOnly (cx.hint f (firstReg body)).keep st'.env, st'.heap, st'.fb⟩ with
    | none => fail
    | some st1 => match clean (cx.hint f (firstReg body)) base st1 with
     | none => fail
     | some st2 => (evN cx fail n).lp f body hs base st2 K
   | e => K e st',
  cl := fun fn f as h K => evFun cx (evN cx fail n) fail fn f as h K,
  rf := fun _ _ _ _ _ => fail }

def ev (cx : Cx) (fail : R) (n : Nat) (fn : Func) (f : FuncId) (as : List DArg) (K : List DArg → R) : R :=
 evFun cx (evN cx fail n) fail fn f (as.map fun (g, ds) => (g, ds.map .d)) [] fun rs h => match demArgs h rs with
  | some (ds, _, p) => cond p (K ds) fail
  | none => fail
end
end Go.Eng
/- How the evaluator's values stand to the machine's: relations, and that they last. -/
set_option linter.unusedVariables false
set_option linter.unusedSimpArgs false
namespace Go.Eng
open Go Go.RowKit

def Sc.val : Sc → Value
 | .int k n => .int k n
 | .bool b => .bool b
 | .str s => .string s

def valCells (v : Val) : Array Value := #[.int .i64 v.kind, .int .i64 v.n, .string v.s]

def oneOk (cx : Cx) (T : TypeId) (s : Sc) : Prop :=
 match cx.tt T, s with
 | some ⟨.int k, _, _, _⟩, .int k' _ => k' = k
 | some ⟨.bool, _, _, _⟩, .bool _ => True
 | some ⟨.str, _, _, _⟩, .str _ => True
 | some _, _ => False
 | none, _ => True
def threeOk (cx : Cx) (T : TypeId) : Prop :=
 match cx.tt T with
 | some ⟨.struct _, 3, [.sc (.int .i64 0), .sc (.int .i64 0), .sc (.str _)], _⟩ => True
 | some _ => False
 | none => True

abbrev cellAt (t : ET) (l : List (Ty t)) (i j : Nat) : D := (enc t (l.getD i (dflt t))).getD j .nils

inductive RD (cx : Cx) (ok : Nat → Prop) (w : World) : D → Value → Prop where
 | sc (s : Sc) : RD cx ok w (.sc s) s.val
 | nils : RD cx ok w .nils (.slice none 0 0)
 | sl0 (nl : Option Bool) (full : Bool) (t : ET) (A : Option Addr) (cap : Nat) (h1 : nl = some true → A = none) (h2 : nl = some false → A ≠ none) (h3 : full = true → cap = 0) (h4 : A = none → cap = 0) :
     RD cx ok w (.sl nl full t []) (.slice A 0 cap)
 | sl (nl : Option Bool) (full : Bool) (t : ET) (l : List (Ty t)) (b off cap : Nat) (vs : Nat → Nat → Value) (h0 : l ≠ []) (h1 : ok b) (h2 : l.length ≤ cap) (h3 : full = true → cap = l.length) (h4 : nl ≠ some true)
     (hc : ∀ i j, i < l.length → j < width t → w.cell? ⟨b, off + (i * width t + j), none⟩ = some (vs i j))
     (hr : ∀ i j, i < l.length → j < width t → RD cx ok w (cellAt t l i j) (vs i j)) :
     RD cx ok w (.sl nl full t l) (.slice (some ⟨b, off, none⟩) l.length cap)
 | fn (f : FuncId) (first caps : List (List D)) (a b : List Value) (h1 : a.length = first.length) (h2 : b.length = caps.length)
     (ha : ∀ i, i < first.length → RD cx ok w (.ref (first.getD i [])) (a.getD i undef)) (hb : ∀ i, i < caps.length → RD cx ok w (.ref (caps.getD i [])) (b.getD i undef)) :
     RD cx ok w (.fn f first caps) (.func (.func f) a.toArray b.toArray)
 | nilI : RD cx ok w (.th .nil) .nilIface
 | nilf : RD cx ok w .nilf .nilFunc
 | one (T : TypeId) (s : Sc) (h : oneOk cx T s) : RD cx ok w (.th (.one T s)) (.iface T s.val)
 | val (T : TypeId) (v : Val) (h : threeOk cx T) : RD cx ok w (.th (.val T v)) (.iface T (.agg (valCells v)))
 | ref (cs : List D) (b off : Nat) (vs : Nat → Value) (h1 : ok b) (hb : b < w.heap.size) (hc : ∀ j, j < cs.length → w.cell? ⟨b, off + j, none⟩ = some (vs j)) (hr : ∀ j, j < cs.length → RD cx ok w (cs.getD j .nils) (vs j)) :
     RD cx ok w (.ref cs) (.pointer (some ⟨b, off, none⟩))

theorem cell_lt {w : World} {b o : Nat} {v : Value} (h : w.cell? ⟨b, o, none⟩ = some v) : b < w.heap.size := by
 unfold World.cell? at h
 rcases Nat.lt_or_ge b w.heap.size with h1 | h1
 ·exact h1
 ·simp [Array.getElem?_eq_none h1] at h

theorem width_pos (t : ET) : 0 < width t := by cases t <;> decide
theorem enc_length (t : ET) (x : Ty t) : (enc t x).length = width t := by cases t <;> rfl

abbrev Rho := Nat → Option Nat

def ptrsTo (ρ : Rho) (ns : List Nat) (a : List Value) : Prop :=
 a.length = ns.length ∧ ∀ i, i < ns.length → ∃ b, ρ (ns.getD i 0) = some b ∧ a.getD i undef = .pointer (some ⟨b, 0, none⟩)

def World.roomOf (w : World) (b : Nat) : Nat := match w.heap[b]? with
 | some (.cells cs _ _) => cs.size
 | _ => 0

def RC (cx : Cx) (ρ : Rho) (ok : Nat → Prop) (w : World) : C → Value → Prop
 | .d x, v => RD cx ok w x v
 | .ptr n off, v => ∃ b, ρ n = some b ∧ v = .pointer (some ⟨b, off, none⟩)
 | .ep n t i j, v => ∃ b, ρ n = some b ∧ v = .pointer (some ⟨b, i * width t + j, none⟩)
 | .own n t full off len, v => ∃ A cap, v = .slice A len cap ∧ len ≤ cap ∧ (full = true → cap = len) ∧
     (cap ≠ 0 → ∃ b, ρ n = some b ∧ A = some ⟨b, off * width t, none⟩ ∧ (off + cap) * width t ≤ World.roomOf w b)
 | .clo f first caps, v => ∃ a b : List Value, v = .func (.func f) a.toArray b.toArray ∧ ptrsTo ρ first a ∧ ptrsTo ρ caps b
 | .yld n, v => ∃ b, ρ n = some b ∧ v = .func (.yield b) #[] #[]

def RCs (cx : Cx) (ρ : Rho) (ok : Nat → Prop) (w : World) (cs : List C) (vs : List Value) : Prop :=
 vs.length = cs.length ∧ ∀ j, j < cs.length → RC cx ρ ok w (cs.getD j (.d .nils)) (vs.getD j undef)

def RA (cx : Cx) (ρ : Rho) (ok : Nat → Prop) (w : World) : Arg → Value → Prop
 | (true, cs), x => ∃ vs : List Value, x = .agg vs.toArray ∧ RCs cx ρ ok w cs vs
 | (false, cs), x => ∃ c, cs = [c] ∧ RC cx ρ ok w c x

def RAs (cx : Cx) (ρ : Rho) (ok : Nat → Prop) (w : World) (as : List Arg) (xs : List Value) : Prop :=
 xs.length = as.length ∧ ∀ j, j < as.length → RA cx ρ ok w (as.getD j (false, [])) (xs.getD j undef)

def RV (cx : Cx) (ρ : Rho) (ok : Nat → Prop) (w : World) : V → Value → Prop
 | .any, _ => True
 | .v g cs, x => RA cx ρ ok w (g, cs) x
 | .tup vs, x => ∃ xs : List Value, x = .tuple xs.toArray ∧ RAs cx ρ ok w vs xs

def lsOf : Nat → LoopState
 | 0 => .ready
 | 1 => .busy
 | _ => .done
def jOf : Option (Option Nat) → Option Code
 | none => none
 | some none => some .ret
 | some (some id) => some (.exit id)
def RL' (cx : Cx) (ρ : Rho) (ok : Nat → Prop) (w : World) (k : Nat) (env : List V) (s : Nat) (j : Option (Option Nat)) (r : Loop) : Prop :=
 r.tmps.size = env.length ∧ (∀ t, t < env.length → RV cx ρ ok w (env.getD t .any) (r.tmps.getD t undef)) ∧ (∃ fid, cx.rf k = some (fid, r.params, r.assign, r.body)) ∧ r.state = lsOf s ∧ r.pending = jOf j

def RB (cx : Cx) (ρ : Rho) (ok : Nat → Prop) (w : World) (n : Nat) : Blk → Prop
 | .box T cs => ∃ b vs, ρ n = some b ∧ w.heap[b]? = some (.cells (List.toArray vs) T (0, 0)) ∧ RCs cx ρ ok w cs vs
 | .arr T t l => (l = [] ∧ ρ n = none) ∨ ∃ b vs, ρ n = some b ∧ w.heap[b]? = some (.cells (List.toArray vs) T (0, 0)) ∧ l.length * width t ≤ vs.length ∧
     ∀ i j, i < l.length → j < width t → RD cx ok w (cellAt t l i j) (vs.getD (i * width t + j) undef)
 | .lp k env s j => ∃ b r, ρ n = some b ∧ w.heap[b]? = some (.loop r) ∧ RL' cx ρ ok w k env s j r

def okc (ok : Nat → Prop) (B0 : Nat) (h : Heap) (ρ : Rho) (k : Nat) : Prop := (ok k ∨ B0 ≤ k) ∧ ∀ n, (lk h n).isSome = true → ρ n ≠ some k

structure Inv (cx : Cx) (ok : Nat → Prop) (w0 : World) (ρ : Rho) (st : St) (a : Act) (w : World) : Prop where
 size : a.tmps.size = st.env.length
 env : ∀ t, t < st.env.length → RV cx ρ (okc ok w0.heap.size st.heap ρ) w (st.env.getD t .any) (a.tmps.getD t undef)
 heap : ∀ n b, lk st.heap n = some b → RB cx ρ (okc ok w0.heap.size st.heap ρ) w n b
 inj : ∀ n m b, (lk st.heap n).isSome = true → (lk st.heap m).isSome = true → ρ n = some b → ρ m = some b → n = m
 own : ∀ n b, ρ n = some b → w0.heap.size ≤ b ∧ b < w.heap.size
 fresh : ∀ n, st.heap.length ≤ n → ρ n = none
 below : Below w0.heap.size w0 w

structure Ext (N : Nat) (ok ok' : Nat → Prop) (ρ ρ' : Rho) (w w' : World) : Prop where
 rho : ∀ n b, n < N → ρ n = some b → ρ' n = some b
 cell : ∀ k, k < w.heap.size → ok k → w'.heap[k]? = w.heap[k]?
 okk : ∀ k, k < w.heap.size → ok k → ok' k
 room : ∀ k, k < w.heap.size → World.roomOf w' k = World.roomOf w k
 size : w.heap.size ≤ w'.heap.size

theorem RD.ext {cx : Cx} {ok ok' : Nat → Prop} {w w' : World} {d : D} {x : Value} (h : RD cx ok w d x)
    (hh : ∀ k, k < w.heap.size → ok k → w'.heap[k]? = w.heap[k]?) (ho : ∀ k, k < w.heap.size → ok k → ok' k) (hs : w.heap.size ≤ w'.heap.size) : RD cx ok' w' d x := by
 induction h with
 | sc s => exact .sc s
 | nils => exact .nils
 | sl0 nl full t A cap h1 h2 h3 h4 => exact .sl0 nl full t A cap h1 h2 h3 h4
 | sl nl full t l b off cap vs h0 h1 h2 h3 h4 hc hr ih =>
  have hb : b < w.heap.size := cell_lt (hc 0 0 (List.length_pos_iff.2 h0) (width_pos t))
  refine .sl nl full t l b off cap vs h0 (ho _ hb h1) h2 h3 h4 (fun i j hi hj => ?_) ih
  rw [World.cell?_of_block (w := w) (hh b hb h1)]
  exact hc i j hi hj
 | fn f first caps a b h1 h2 ha hb iha ihb => exact .fn f first caps a b h1 h2 iha ihb
 | nilI => exact .nilI
 | nilf => exact .nilf
 | one T s h => exact .one T s h
 | val T v h => exact .val T v h
 | ref cs b off vs h1 hb hc hr ih =>
  refine .ref cs b off vs (ho _ hb h1) (Nat.lt_of_lt_of_le hb hs) (fun j hj => ?_) ih
  rw [World.cell?_of_block (w := w) (hh b hb h1)]
  exact hc j hj

def refsLt (N : Nat) : C → Prop
 | .d _ => True
 | .ptr n _ | .ep n _ _ _ | .own n _ _ _ _ | .yld n => n < N
 | .clo _ a b => (∀ n ∈ a, n < N) ∧ ∀ n ∈ b, n < N

section
variable {cx : Cx} {N : Nat} {ok ok' : Nat → Prop} {ρ ρ' : Rho} {w w' : World}

theorem RD.of_ext {d : D} {x : Value} (e : Ext N ok ok' ρ ρ' w w') (h : RD cx ok w d x) : RD cx ok' w' d x := h.ext e.cell e.okk e.size

theorem ptrsTo.ext {ns : List Nat} {a : List Value} (hρ : ∀ n b, n ∈ ns → ρ n = some b → ρ' n = some b) (h : ptrsTo ρ ns a) : ptrsTo ρ' ns a := by
 refine ⟨h.1, fun i hi => ?_⟩
 obtain ⟨b, h1, h2⟩ := h.2 i hi
 refine ⟨b, hρ _ b ?_ h1, h2⟩
 rw [List.getD_eq_getElem?_getD, List.getElem?_eq_getElem hi]
 exact List.getElem_mem hi

theorem RC.ext {c : C} {x : Value} (e : Ext N ok ok' ρ ρ' w w') (hB : ∀ n b, ρ n = some b → b < w.heap.size) (hl : refsLt N c) (h : RC cx ρ ok w c x) : RC cx ρ' ok' w' c x := by
 cases c with
 | d y => exact RD.of_ext e h
 | ptr n off => obtain ⟨b, h1, h2⟩ := h; exact ⟨b, e.rho n b hl h1, h2⟩
 | ep n t i j => obtain ⟨b, h1, h2⟩ := h; exact ⟨b, e.rho n b hl h1, h2⟩
 | own n t full off len =>
  obtain ⟨A, cap, h1, h2, h3, h4⟩ := h
  refine ⟨A, cap, h1, h2, h3, fun hc => ?_⟩
  obtain ⟨b, h5, h6, h7⟩ := h4 hc
  exact ⟨b, e.rho n b hl h5, h6, by rw [e.room b (hB n b h5)]; exact h7⟩
 | clo f first caps =>
  obtain ⟨a, b, h1, h2, h3⟩ := h
  exact ⟨a, b, h1, h2.ext fun n b hn => e.rho n b (hl.1 n hn), h3.ext fun n b hn => e.rho n b (hl.2 n hn)⟩
 | yld n => obtain ⟨b, h1, h2⟩ := h; exact ⟨b, e.rho n b hl h1, h2⟩

def refsLtV (N : Nat) : V → Prop
 | .any => True
 | .v _ cs => ∀ c ∈ cs, refsLt N c
 | .tup vs => ∀ a ∈ vs, ∀ c ∈ a.2, refsLt N c

theorem getD_mem {α : Type} {l : List α} {i : Nat} {d : α} (h : i < l.length) : l.getD i d ∈ l := by
 rw [List.getD_eq_getElem?_getD, List.getElem?_eq_getElem h]
 exact List.getElem_mem h

theorem RCs.ext {cs : List C} {vs : List Value} (e : Ext N ok ok' ρ ρ' w w') (hB : ∀ n b, ρ n = some b → b < w.heap.size) (hl : ∀ c ∈ cs, refsLt N c) (h : RCs cx ρ ok w cs vs) : RCs cx ρ' ok' w' cs vs :=
 ⟨h.1, fun j hj => (h.2 j hj).ext e hB (hl _ (getD_mem hj))⟩
theorem RA.ext {g : Arg} {x : Value} (e : Ext N ok ok' ρ ρ' w w') (hB : ∀ n b, ρ n = some b → b < w.heap.size) (hl : ∀ c ∈ g.2, refsLt N c) (h : RA cx ρ ok w g x) : RA cx ρ' ok' w' g x := by
 obtain ⟨g, cs⟩ := g
 cases g with
 | true => obtain ⟨vs, h1, h2⟩ := h; exact ⟨vs, h1, h2.ext e hB hl⟩
 | false => obtain ⟨c, h1, h2⟩ := h; exact ⟨c, h1, h2.ext e hB (hl c (by rw [h1]; exact List.mem_singleton.2 rfl))⟩
theorem RAs.ext {as : List Arg} {xs : List Value} (e : Ext N ok ok' ρ ρ' w w') (hB : ∀ n b, ρ n = some b → b < w.heap.size) (hl : ∀ a ∈ as, ∀ c ∈ a.2, refsLt N c) (h : RAs cx ρ ok w as xs) : RAs cx ρ' ok' w' as xs :=
 ⟨h.1, fun j hj => (h.2 j hj).ext e hB (hl _ (getD_mem hj))⟩
theorem RV.ext {v : V} {x : Value} (e : Ext N ok ok' ρ ρ' w w') (hB : ∀ n b, ρ n = some b → b < w.heap.size) (hl : refsLtV N v) (h : RV cx ρ ok w v x) : RV cx ρ' ok' w' v x := by
 cases v with
 | any => trivial
 | v g cs => exact RA.ext e hB hl h
 | tup vs => obtain ⟨xs, h1, h2⟩ := h; exact ⟨xs, h1, h2.ext e hB hl⟩

theorem Ext.all_C {c : C} {x : Value} (e : ∀ N, Ext N ok ok' ρ ρ' w w') (hB : ∀ n b, ρ n = some b → b < w.heap.size) (h : RC cx ρ ok w c x) : RC cx ρ' ok' w' c x := by
 cases c with
 | d y => exact RD.of_ext (e 0) h
 | ptr n off => exact RC.ext (e (n + 1)) hB (Nat.lt_succ_self n) h
 | ep n t i j => exact RC.ext (e (n + 1)) hB (Nat.lt_succ_self n) h
 | own n t full off len => exact RC.ext (e (n + 1)) hB (Nat.lt_succ_self n) h
 | clo f first caps =>
  obtain ⟨a, b, h1, h2, h3⟩ := h
  exact ⟨a, b, h1, h2.ext fun n b _ => (e (n + 1)).rho n b (Nat.lt_succ_self n), h3.ext fun n b _ => (e (n + 1)).rho n b (Nat.lt_succ_self n)⟩
 | yld n => exact RC.ext (e (n + 1)) hB (Nat.lt_succ_self n) h
theorem Ext.all_Cs {cs : List C} {vs : List Value} (e : ∀ N, Ext N ok ok' ρ ρ' w w') (hB : ∀ n b, ρ n = some b → b < w.heap.size) (h : RCs cx ρ ok w cs vs) : RCs cx ρ' ok' w' cs vs :=
 ⟨h.1, fun j hj => Ext.all_C e hB (h.2 j hj)⟩
theorem Ext.all_A {g : Arg} {x : Value} (e : ∀ N, Ext N ok ok' ρ ρ' w w') (hB : ∀ n b, ρ n = some b → b < w.heap.size) (h : RA cx ρ ok w g x) : RA cx ρ' ok' w' g x := by
 obtain ⟨g, cs⟩ := g
 cases g with
 | true => obtain ⟨vs, h1, h2⟩ := h; exact ⟨vs, h1, Ext.all_Cs e hB h2⟩
 | false => obtain ⟨c, h1, h2⟩ := h; exact ⟨c, h1, Ext.all_C e hB h2⟩
theorem Ext.all_As {as : List Arg} {xs : List Value} (e : ∀ N, Ext N ok ok' ρ ρ' w w') (hB : ∀ n b, ρ n = some b → b < w.heap.size) (h : RAs cx ρ ok w as xs) : RAs cx ρ' ok' w' as xs :=
 ⟨h.1, fun j hj => Ext.all_A e hB (h.2 j hj)⟩
theorem Ext.all_V {v : V} {x : Value} (e : ∀ N, Ext N ok ok' ρ ρ' w w') (hB : ∀ n b, ρ n = some b → b < w.heap.size) (h : RV cx ρ ok w v x) : RV cx ρ' ok' w' v x := by
 cases v with
 | any => trivial
 | v g cs => exact Ext.all_A e hB h
 | tup vs => obtain ⟨xs, h1, h2⟩ := h; exact ⟨xs, h1, Ext.all_As e hB h2⟩
theorem Ext.all_B {n : Nat} {b : Blk} (e : ∀ N, Ext N ok ok' ρ ρ' w w') (hB : ∀ n b, ρ n = some b → b < w.heap.size)
    (hn : ∀ k, ρ n = some k → w'.heap[k]? = w.heap[k]?) (h0 : ρ n = none → ρ' n = none) (h : RB cx ρ ok w n b) : RB cx ρ' ok' w' n b := by
 cases b with
 | lp k env s j =>
  obtain ⟨b, r, h1, h2, h3, h4, h5⟩ := h
  exact ⟨b, r, (e (n + 1)).rho n b (Nat.lt_succ_self n) h1, by rw [hn b h1]; exact h2, h3, fun t ht => Ext.all_V e hB (h4 t ht), h5⟩
 | box T cs =>
  obtain ⟨b, vs, h1, h2, h3⟩ := h
  exact ⟨b, vs, (e (n + 1)).rho n b (Nat.lt_succ_self n) h1, by rw [hn b h1]; exact h2, Ext.all_Cs e hB h3⟩
 | arr T t l =>
  rcases h with ⟨h1, h2⟩ | ⟨b, vs, h1, h2, h3, h4⟩
  ·exact .inl ⟨h1, h0 h2⟩
  ·exact .inr ⟨b, vs, (e (n + 1)).rho n b (Nat.lt_succ_self n) h1, by rw [hn b h1]; exact h2, h3, fun i j hi hj => RD.of_ext (e 0) (h4 i j hi hj)⟩
end

end Go.Eng
/- What the call has made: how it grows, is written, is given up. -/
set_option linter.unusedVariables false
set_option linter.unusedSimpArgs false
namespace Go.Eng
open Go Go.RowKit

def upd (ρ : Rho) (n : Nat) (b : Option Nat) : Rho := fun m => if m = n then b else ρ m
theorem upd_same (ρ : Rho) (n : Nat) (b : Option Nat) : upd ρ n b n = b := by simp [upd]
theorem upd_ne {ρ : Rho} {n m : Nat} {b : Option Nat} (h : m ≠ n) : upd ρ n b m = ρ m := by simp [upd, h]

theorem lk_set (h : Heap) (n m : Nat) (b : Option Blk) : lk (h.set n b) m = if m = n ∧ n < h.length then b else lk h m := by
 unfold lk
 rw [List.getD_eq_getElem?_getD, List.getElem?_set, List.getD_eq_getElem?_getD]
 by_cases hm : n = m
 ·subst hm
  by_cases hl : n < h.length
  ·simp [hl]
  ·simp [hl, List.getElem?_eq_none (Nat.le_of_not_lt hl)]
 ·have : ¬ m = n := fun e => hm e.symm
  simp [hm, this]
theorem lk_set_same {h : Heap} {n : Nat} {b : Option Blk} (hl : n < h.length) : lk (h.set n b) n = b := by simp [lk_set, hl]
theorem lk_set_ne {h : Heap} {n m : Nat} {b : Option Blk} (hm : m ≠ n) : lk (h.set n b) m = lk h m := by simp [lk_set, hm]
theorem lk_lt {h : Heap} {n : Nat} (hs : (lk h n).isSome = true) : n < h.length := by
 rcases Nat.lt_or_ge n h.length with h1 | h1
 ·exact h1
 ·simp [lk, List.getD_eq_getElem?_getD, List.getElem?_eq_none h1] at hs
theorem lk_append (h : Heap) (k n : Nat) : lk (h ++ List.replicate k none) n = lk h n := by
 unfold lk
 rw [List.getD_eq_getElem?_getD, List.getD_eq_getElem?_getD, List.getElem?_append]
 split
 ·rfl
 ·rename_i hl
  rw [List.getElem?_replicate, List.getElem?_eq_none (Nat.le_of_not_lt hl)]
  split <;> rfl

structure HInv (cx : Cx) (ok : Nat → Prop) (w0 : World) (ρ : Rho) (h : Heap) (w : World) : Prop where
 heap : ∀ n b, lk h n = some b → RB cx ρ (okc ok w0.heap.size h ρ) w n b
 inj : ∀ n m b, (lk h n).isSome = true → (lk h m).isSome = true → ρ n = some b → ρ m = some b → n = m
 own : ∀ n b, ρ n = some b → w0.heap.size ≤ b ∧ b < w.heap.size
 fresh : ∀ n, h.length ≤ n → ρ n = none
 below : Below w0.heap.size w0 w

section
variable {cx : Cx} {ok : Nat → Prop} {w0 : World} {ρ : Rho} {st : St} {a : Act} {w : World} {h : Heap}

theorem Inv.hv (hi : Inv cx ok w0 ρ st a w) : HInv cx ok w0 ρ st.heap w := ⟨hi.heap, hi.inj, hi.own, hi.fresh, hi.below⟩
theorem HInv.lt (hi : HInv cx ok w0 ρ h w) : ∀ n b, ρ n = some b → b < w.heap.size := fun n b e => (hi.own n b e).2

theorem Inv.go {ρ' : Rho} {h' : Heap} {w' : World} (hi : Inv cx ok w0 ρ st a w) (hx : ∀ N, Ext N (okc ok w0.heap.size st.heap ρ) (okc ok w0.heap.size h' ρ') ρ ρ' w w') (hh : HInv cx ok w0 ρ' h' w') :
    Inv cx ok w0 ρ' ⟨st.env, h', st.fb⟩ a w' :=
 ⟨hi.size, fun t ht => Ext.all_V hx hi.hv.lt (hi.env t ht), hh.heap, hh.inj, hh.own, hh.fresh, hh.below⟩

theorem Inv.put {v : V} {x : Value} {dst : Option Tmp} (hi : Inv cx ok w0 ρ st a w) (hv : RV cx ρ (okc ok w0.heap.size st.heap ρ) w v x) :
    Inv cx ok w0 ρ ⟨putV st.env dst v, st.heap, st.fb⟩ (a.put dst x) w := by
 cases dst with
 | none => exact hi
 | some d =>
  refine ⟨by simp [putV, Act.put, hi.size], fun t ht => ?_, hi.heap, hi.inj, hi.own, hi.fresh, hi.below⟩
  have hl : t < st.env.length := by simpa [putV] using ht
  have ha : t < a.tmps.size := by rw [hi.size]; exact hl
  by_cases e : d = t
  ·subst e
   have h1 : (putV st.env (some d) v).getD d .any = v := by simp [putV, List.getD_eq_getElem?_getD, List.getElem?_set, hl]
   have h2 : (a.put (some d) x).tmps.getD d undef = x := by simp [Act.put, ha]
   rw [h1, h2]
   exact hv
  ·have h1 : (putV st.env (some d) v).getD t .any = st.env.getD t .any := by simp [putV, List.getD_eq_getElem?_getD, List.getElem?_set, e]
   have h2 : (a.put (some d) x).tmps.getD t undef = a.tmps.getD t undef := by simp [Act.put, ha, Array.getElem_setIfInBounds, e]
   rw [h1, h2]
   exact hi.env t hl

theorem Ext.refl (N : Nat) (ok : Nat → Prop) (ρ : Rho) (w : World) : Ext N ok ok ρ ρ w w := ⟨fun _ _ _ h => h, fun _ _ _ => rfl, fun _ _ h => h, fun _ _ => rfl, Nat.le_refl _⟩
theorem Ext.trans {N : Nat} {o1 o2 o3 : Nat → Prop} {r1 r2 r3 : Rho} {w1 w2 w3 : World} (x : Ext N o1 o2 r1 r2 w1 w2) (y : Ext N o2 o3 r2 r3 w2 w3) : Ext N o1 o3 r1 r3 w1 w3 :=
 ⟨fun n b hn h => y.rho n b hn (x.rho n b hn h), fun k hk ho => (y.cell k (Nat.lt_of_lt_of_le hk x.size) (x.okk k hk ho)).trans (x.cell k hk ho),
  fun k hk ho => y.okk k (Nat.lt_of_lt_of_le hk x.size) (x.okk k hk ho), fun k hk => (y.room k (Nat.lt_of_lt_of_le hk x.size)).trans (x.room k hk), Nat.le_trans x.size y.size⟩

theorem heap_alloc (w : World) (o : Obj) (k : Nat) (hk : k < w.heap.size) : (w.alloc o).heap[k]? = w.heap[k]? := Below.heap_alloc w o k hk
theorem heap_alloc_new (w : World) (o : Obj) : (w.alloc o).heap[w.heap.size]? = some o := by
 show (w.heap.push o)[w.heap.size]? = _
 simp
theorem roomOf_eq {w w' : World} {k : Nat} (h : w'.heap[k]? = w.heap[k]?) : World.roomOf w' k = World.roomOf w k := by unfold World.roomOf; rw [h]

theorem ext_new (hi : HInv cx ok w0 ρ h w) {nm : Nat} (hρ : ρ nm = none) (o : Obj) (b : Option Blk) (N : Nat) :
    Ext N (okc ok w0.heap.size h ρ) (okc ok w0.heap.size (h.set nm b) (upd ρ nm (some w.heap.size))) ρ (upd ρ nm (some w.heap.size)) w (w.alloc o) := by
 refine ⟨fun n k _ hn => ?_, fun k hk _ => heap_alloc w o k hk, fun k hk ho => ⟨ho.1, fun n hs => ?_⟩, fun k hk => roomOf_eq (heap_alloc w o k hk), by simp⟩
 ·have : n ≠ nm := fun e => by rw [e, hρ] at hn; cases hn
  rw [upd_ne this]; exact hn
 ·by_cases e : n = nm
  ·subst e; rw [upd_same]; intro h2; injection h2 with h2; omega
  ·rw [upd_ne e]; rw [lk_set_ne e] at hs; exact ho.2 n hs
theorem HInv.new (hi : HInv cx ok w0 ρ h w) {nm : Nat} (hρ : ρ nm = none) (hl : nm < h.length) (hk : lk h nm = none) (o : Obj) (b : Blk)
    (hb : RB cx (upd ρ nm (some w.heap.size)) (okc ok w0.heap.size (h.set nm (some b)) (upd ρ nm (some w.heap.size))) (w.alloc o) nm b) :
    HInv cx ok w0 (upd ρ nm (some w.heap.size)) (h.set nm (some b)) (w.alloc o) := by
 have hx := ext_new hi hρ o (some b)
 refine ⟨fun n c hn => ?_, fun n m k hn hm h1 h2 => ?_, fun n k hn => ?_, fun n hn => ?_, hi.below.alloc hi.below.size _⟩
 ·by_cases e : n = nm
  ·subst e; rw [lk_set_same hl] at hn; injection hn with hn; subst hn; exact hb
  ·rw [lk_set_ne e] at hn
   exact Ext.all_B hx hi.lt (fun k hk => heap_alloc w o k (hi.lt n k hk)) (fun h0 => by rw [upd_ne e]; exact h0) (hi.heap n c hn)
 ·by_cases e1 : n = nm <;> by_cases e2 : m = nm
  ·rw [e1, e2]
  ·rw [e1, upd_same] at h1; rw [upd_ne e2] at h2; injection h1 with h1; have := hi.lt m k h2; omega
  ·rw [e2, upd_same] at h2; rw [upd_ne e1] at h1; injection h2 with h2; have := hi.lt n k h1; omega
  ·rw [upd_ne e1] at h1; rw [upd_ne e2] at h2; rw [lk_set_ne e1] at hn; rw [lk_set_ne e2] at hm; exact hi.inj n m k hn hm h1 h2
 ·by_cases e : n = nm
  ·rw [e, upd_same] at hn; injection hn with hn; subst hn; exact ⟨hi.below.size, by simp⟩
  ·rw [upd_ne e] at hn; have := hi.own n k hn; exact ⟨this.1, by simp; omega⟩
 ·have : n ≠ nm := fun e => by simp at hn; omega
  rw [upd_ne this]; exact hi.fresh n (by simpa using hn)

theorem okc_kill {B0 n k : Nat} (ho : okc ok B0 h ρ k) : okc ok B0 (h.set n none) ρ k :=
 ⟨ho.1, fun m hs => ho.2 m (by
  by_cases e : m = n
  ·subst e; rw [lk_set] at hs; split at hs
   ·cases hs
   ·exact hs
  ·rwa [lk_set_ne e] at hs)⟩
theorem ext_kill (n N : Nat) (B0 : Nat) : Ext N (okc ok B0 h ρ) (okc ok B0 (h.set n none) ρ) ρ ρ w w :=
 ⟨fun _ _ _ e => e, fun _ _ _ => rfl, fun _ _ ho => okc_kill ho, fun _ _ => rfl, Nat.le_refl _⟩
theorem HInv.kill (hi : HInv cx ok w0 ρ h w) (n : Nat) : HInv cx ok w0 ρ (h.set n none) w := by
 have key : ∀ m, (lk (h.set n none) m).isSome = true → lk (h.set n none) m = lk h m := fun m hm => by
  rw [lk_set] at hm ⊢
  split at hm
  ·cases hm
  ·rename_i hc; rw [if_neg hc]
 refine ⟨fun m c hm => ?_, fun m1 m2 k h1 h2 => ?_, hi.own, fun m hm => hi.fresh m (by simpa using hm), hi.below⟩
 ·have hs := key m (by rw [hm]; rfl)
  rw [hs] at hm
  exact Ext.all_B (fun N => ext_kill n N _) hi.lt (fun _ _ => rfl) (fun h0 => h0) (hi.heap m c hm)
 ·rw [key m1 h1] at h1; rw [key m2 h2] at h2; exact hi.inj m1 m2 k h1 h2

theorem ext_write (hi : HInv cx ok w0 ρ h w) {n b : Nat} (hs : (lk h n).isSome = true) (hn : ρ n = some b) {cs cs' : Array Value} {T : TypeId} (hb : w.heap[b]? = some (.cells cs T (0, 0))) (hz : cs'.size = cs.size)
    (blk : Blk) (N : Nat) : Ext N (okc ok w0.heap.size h ρ) (okc ok w0.heap.size (h.set n (some blk)) ρ) ρ ρ w (w.setRow b cs') := by
 have hne : ∀ k, k ≠ b → (w.setRow b cs').heap[k]? = w.heap[k]? := fun k hk => by
  simp only [World.setRow, Array.getElem?_modify]
  rw [if_neg (fun e => hk e.symm)]
 refine ⟨fun _ _ _ e => e, fun k _ ho => hne k (fun e => ho.2 n hs (by rw [e]; exact hn)), fun k _ ho => ⟨ho.1, fun m hm => ?_⟩, fun k _ => ?_, by simp [World.setRow]⟩
 ·by_cases e : m = n
  ·subst e; exact ho.2 m hs
  ·rw [lk_set_ne e] at hm; exact ho.2 m hm
 ·by_cases e : k = b
  ·subst e
   unfold World.roomOf
   rw [hb, setRow_heap w k cs cs' T (0, 0) hb]
   exact hz
  ·exact roomOf_eq (hne k e)
theorem HInv.write (hi : HInv cx ok w0 ρ h w) {n b : Nat} (hs : (lk h n).isSome = true) (hn : ρ n = some b) {cs cs' : Array Value} {T : TypeId} (hb : w.heap[b]? = some (.cells cs T (0, 0))) (hz : cs'.size = cs.size)
    (blk : Blk) (hblk : RB cx ρ (okc ok w0.heap.size (h.set n (some blk)) ρ) (w.setRow b cs') n blk) : HInv cx ok w0 ρ (h.set n (some blk)) (w.setRow b cs') := by
 have hx := ext_write hi hs hn hb hz blk
 have hl := lk_lt hs
 have key : ∀ m, (lk (h.set n (some blk)) m).isSome = true → (lk h m).isSome = true := fun m hm => by
  by_cases e : m = n
  ·rw [e]; exact hs
  ·rwa [lk_set_ne e] at hm
 refine ⟨fun m c hm => ?_, fun m1 m2 k h1 h2 => hi.inj m1 m2 k (key m1 h1) (key m2 h2), fun m k hm => ?_, fun m hm => hi.fresh m (by simpa using hm), ?_⟩
 ·by_cases e : m = n
  ·subst e; rw [lk_set_same hl] at hm; injection hm with hm; subst hm; exact hblk
  ·rw [lk_set_ne e] at hm
   refine Ext.all_B hx hi.lt (fun k hk => ?_) (fun h0 => h0) (hi.heap m c hm)
   have : k ≠ b := fun e2 => e (hi.inj m n b (by rw [hm]; rfl) hs (by rw [← e2]; exact hk) hn)
   simp only [World.setRow, Array.getElem?_modify]
   rw [if_neg (fun e => this e.symm)]
 ·have := hi.own m k hm; exact ⟨this.1, by simpa [World.setRow] using this.2⟩
 ·have hB := (hi.own n b hn).1
  refine hi.below.trans ⟨rfl, rfl, rfl, by simp [World.setRow], fun k hk => ?_⟩
  simp only [World.setRow, Array.getElem?_modify]
  rw [if_neg (by omega)]
end
end Go.Eng
/- What is asked of the tables; operands; what reads and reckons alone. -/
set_option linter.unusedVariables false
set_option linter.unusedSimpArgs false
namespace Go.Eng
open Go Go.RowKit

def zval : D → Value
 | .sc s => s.val
 | .th _ => .nilIface
 | .nilf => .nilFunc
 | _ => .slice none 0 0
def mkv (agg : Bool) (vs : List Value) : Value := if agg then .agg vs.toArray else vs.headD undef
def zeroD : D → Prop
 | .sc _ => True
 | .sl nl _ _ l => (nl = some true ∨ nl = none) ∧ l = []
 | .th x => x = .nil
 | .nilf => True
 | _ => False

def KdOk (P : Program) (cx : Cx) (T : TypeId) : Kd → Prop
 | .int k => P.underlying T = some (.int k)
 | .bool => P.underlying T = some .bool
 | .str => P.underlying T = some .string
 | .slice e t => P.underlying T = some (.slice e) ∧ ∃ ie, cx.tt e = some ie ∧ ie.size = width t ∧ ie.zero.map zval = (enc t (dflt t)).map zval
 | .struct fs => ∃ fields : Array Field, P.underlying T = some (.struct fields) ∧ fields.toList.map (fun f => (f.offset, f.type)) = fs ∧ (fields.toList.mapM (fun f => (P.info? f.type).map fun i => (f.offset, i.size))).isSome = true
 | .array n e => P.underlying T = some (.array n e)
 | .iface => ∃ ms, P.underlying T = some (.interface ms)
 | .func => ∃ a b c, P.underlying T = some (.func a b c)
 | .other => False

structure TyOk (P : Program) (cx : Cx) (T : TypeId) (i : TI) : Prop where
 info : ∃ inf, P.info? T = some inf ∧ inf.size = i.size ∧ inf.zero = some (mkv i.agg (i.zero.map zval)) ∧ inf.bytes ≤ 4096
 und : KdOk P cx T i.kd
 len : i.zero.length = i.size
 one : i.agg = false → i.size = 1
 zok : ∀ z ∈ i.zero, zeroD z
 byt : ∀ e t, i.kd = .slice e t → ∀ inf, P.info? e = some inf → inf.bytes ≤ szB t

section
variable {P : Program} {cx : Cx} {ok : Nat → Prop} {w0 : World} {ρ : Rho} {st : St} {a : Act} {w : World}

theorem RC_cell1 {v : Value} {c : C} (h : cell1 v = some c) : RC cx ρ ok w c v := by
 unfold cell1 at h
 split at h <;> first
  | (injection h with h; subst h; first | exact RD.sc (.bool _) | exact RD.sc (.int _ _) | exact RD.sc (.str _) | exact RD.nils | exact RD.nilI)
  | cases h

theorem RCs_nil : RCs cx ρ ok w [] [] := ⟨rfl, fun j hj => by simp at hj⟩
theorem RCs_cons {c : C} {cs : List C} {v : Value} {vs : List Value} (h : RC cx ρ ok w c v) (hs : RCs cx ρ ok w cs vs) : RCs cx ρ ok w (c :: cs) (v :: vs) :=
 ⟨by simp [hs.1], fun j hj => by
  cases j with
  | zero => exact h
  | succ j => simpa using hs.2 j (by simpa using hj)⟩
theorem RCs_inv {c : C} {cs : List C} {vs : List Value} (h : RCs cx ρ ok w (c :: cs) vs) : ∃ v vs', vs = v :: vs' ∧ RC cx ρ ok w c v ∧ RCs cx ρ ok w cs vs' := by
 cases vs with
 | nil => have := h.1; simp at this
 | cons v vs' =>
  refine ⟨v, vs', rfl, h.2 0 (by simp), by have := h.1; simpa using this, fun j hj => ?_⟩
  simpa using h.2 (j + 1) (by simpa using hj)
theorem RCs_one {c : C} {vs : List Value} (h : RCs cx ρ ok w [c] vs) : ∃ v, vs = [v] ∧ RC cx ρ ok w c v := by
 obtain ⟨v, vs', rfl, h1, h2⟩ := RCs_inv h
 have := h2.1
 obtain rfl : vs' = [] := by simpa using this
 exact ⟨v, rfl, h1⟩

theorem RCs_cellsOf : ∀ (vs : List Value) (cs : List C), cellsOf vs = some cs → RCs cx ρ ok w cs vs
 | [], cs, h => by simp only [cellsOf] at h; injection h with h; subst h; exact RCs_nil
 | v :: vs, cs, h => by
  simp only [cellsOf] at h
  split at h
  ·rename_i c cs' h1 h2
   injection h with h; subst h
   exact RCs_cons (RC_cell1 h1) (RCs_cellsOf vs cs' h2)
  ·cases h

theorem RV_cv (v : Value) : RV cx ρ ok w (cv v) v := by
 unfold cv
 split
 ·rename_i cs
  split
  ·rename_i l h; exact ⟨cs.toList, by simp, RCs_cellsOf _ _ h⟩
  ·trivial
 ·split
  ·rename_i c h; exact ⟨c, rfl, RC_cell1 h⟩
  ·trivial

theorem RV_op (hi : Inv cx ok w0 ρ st a w) (x : Operand) : RV cx ρ (okc ok w0.heap.size st.heap ρ) w (opv st.env x) (a.eval x) := by
 cases x with
 | tmp t =>
  have hev : a.eval (.tmp t) = a.tmps.getD t undef := by simp [Act.eval]
  rw [hev]
  show RV _ _ _ _ (st.env.getD t .any) _
  by_cases ht : t < st.env.length
  ·exact hi.env t ht
  ·rw [List.getD_eq_getElem?_getD, List.getElem?_eq_none (Nat.le_of_not_lt ht)]; trivial
 | const v => exact RV_cv v
 | global g => trivial
 | func f => exact ⟨_, rfl, RD.fn f [] [] [] [] rfl rfl (fun i hi => by simp at hi) (fun i hi => by simp at hi)⟩

theorem RC_norm1 {e : Option ET} {c : C} {v : Value} (h : RC cx ρ ok w c v) : RC cx ρ ok w (norm1 e c) v := by
 unfold norm1
 split
 ·rename_i t
  cases h
  exact RD.sl0 _ _ _ _ _ (fun _ => rfl) (fun e => by cases e) (fun _ => rfl) (fun _ => rfl)
 ·exact h
theorem RCs_normL : ∀ (es : List (Option ET)) (cs : List C) (vs : List Value), RCs cx ρ ok w cs vs → RCs cx ρ ok w (normL es cs) vs
 | [], cs, vs, h => by cases cs <;> exact h
 | e :: es, [], vs, h => h
 | e :: es, c :: cs, vs, h => by
  obtain ⟨v, vs', rfl, h1, h2⟩ := RCs_inv h
  exact RCs_cons (RC_norm1 h1) (RCs_normL es cs vs' h2)
theorem RV_norm {T : TypeId} {v : V} {x : Value} (h : RV cx ρ ok w v x) : RV cx ρ ok w (norm cx T v) x := by
 unfold norm
 split
 ·rename_i g cs
  split
  ·rename_i i hi
   cases g with
   | true => obtain ⟨vs, h1, h2⟩ := h; exact ⟨vs, h1, RCs_normL _ _ _ h2⟩
   | false =>
    obtain ⟨c, h1, h2⟩ := h
    obtain rfl := h1
    cases hets : i.ets with
    | nil => exact ⟨c, by simp [normL], h2⟩
    | cons e es => exact ⟨norm1 e c, by cases es <;> simp [normL], RC_norm1 h2⟩
  ·exact h
 ·exact h

theorem RC_one {c : C} {v : Value} (h : RC cx ρ ok w c v) : v.oneCell' = true := by
 cases c with
 | d x =>
  cases h with
  | sc s => cases s <;> rfl
  | _ => rfl
 | ptr n off => obtain ⟨b, _, rfl⟩ := h; rfl
 | ep n t i j => obtain ⟨b, _, rfl⟩ := h; rfl
 | own n t full off len => obtain ⟨A, cap, rfl, _⟩ := h; rfl
 | clo f x y => obtain ⟨A, B, rfl, _⟩ := h; rfl
 | yld n => obtain ⟨b, _, rfl⟩ := h; rfl

theorem ext_list {l l' : List Value} (hl : l.length = l'.length) (h : ∀ j, j < l.length → l.getD j undef = l'.getD j undef) : l = l' := by
 apply List.ext_getElem hl
 intro j h1 h2
 have := h j h1
 simpa [List.getD_eq_getElem?_getD, List.getElem?_eq_getElem h1, List.getElem?_eq_getElem h2] using this

theorem RCs_seg {cs : List C} {vs : List Value} {off n : Nat} (h : RCs cx ρ ok w cs vs) (hl : off + n ≤ cs.length) : RCs cx ρ ok w (seg cs off n) (seg vs off n) := by
 have h1 := h.1
 refine ⟨by simp [seg, h1], fun j hj => ?_⟩
 have hj' : j < n := by simp [seg] at hj; omega
 have hd : ∀ {α : Type} (l : List α) (d : α), off + n ≤ l.length → (seg l off n).getD j d = l.getD (off + j) d := fun l d hl => by
  simp [seg, List.getD_eq_getElem?_getD, hj']
 rw [hd cs _ hl, hd vs _ (by omega)]
 exact h.2 (off + j) (by omega)
end
end Go.Eng
/- Operations that read and reckon alone, first part. -/
set_option linter.unusedVariables false
set_option linter.unusedSimpArgs false
namespace Go.Eng
open Go Go.RowKit

def Gives (P : Program) (cx : Cx) (ok : Nat → Prop) (w0 : World) (ρ : Rho) (st : St) (a : Act) (w : World) (o : Oper) (v : V) : Prop :=
 ∃ x, (execOp a.eval o).run P w = .ok (.value x) w ∧ RV cx ρ (okc ok w0.heap.size st.heap ρ) w v x

section
variable {P : Program} {cx : Cx} {ok : Nat → Prop} {w0 : World} {ρ : Rho} {st : St} {a : Act} {w : World}

theorem RV_c {c : C} {x : Value} (h : RV cx ρ ok w (.v false [c]) x) : RC cx ρ ok w c x := by
 obtain ⟨c', h1, h2⟩ := h
 injection h1 with h1
 subst h1
 exact h2
theorem RV_of_c {c : C} {x : Value} (h : RC cx ρ ok w c x) : RV cx ρ ok w (.v false [c]) x := ⟨c, rfl, h⟩
theorem RV_sc {s : Sc} {x : Value} (h : RV cx ρ ok w (.v false [.d (.sc s)]) x) : x = s.val := by
 have := RV_c h
 cases this
 rfl
theorem RV_of_sc (s : Sc) : RV cx ρ ok w (.v false [.d (.sc s)]) s.val := RV_of_c (RD.sc s)

theorem op_sc (hi : Inv cx ok w0 ρ st a w) {x : Operand} {s : Sc} (h : opv st.env x = .v false [.d (.sc s)]) : a.eval x = s.val := by
 have := RV_op hi x
 rw [h] at this
 exact RV_sc this
theorem op_c (hi : Inv cx ok w0 ρ st a w) {x : Operand} {c : C} (h : opv st.env x = .v false [c]) : RC cx ρ (okc ok w0.heap.size st.heap ρ) w c (a.eval x) := by
 have := RV_op hi x
 rw [h] at this
 exact RV_c this

theorem gives_move (hi : Inv cx ok w0 ρ st a w) {o : Oper} {x : Operand} (ho : o.op = .move x ∨ o.op = .assign x) : Gives P cx ok w0 ρ st a w o (norm cx o.type (opv st.env x)) := by
 refine ⟨a.eval x, ?_, RV_norm (RV_op hi x)⟩
 rcases ho with h | h <;> simp [execOp, h]

theorem gives_pick (hi : Inv cx ok w0 ρ st a w) {o : Oper} {c x y : Operand} {t : Bool} (ho : o.op = .pick c x y) (hc : opv st.env c = .v false [.d (.sc (.bool t))]) :
    Gives P cx ok w0 ρ st a w o (pickV t (opv st.env x) (opv st.env y)) := by
 have h1 := op_sc hi hc
 refine ⟨if t then a.eval x else a.eval y, ?_, ?_⟩
 ·simp [execOp, ho, h1, Sc.val, asBool]
 ·have hx := RV_op hi x
  have hy := RV_op hi y
  unfold pickV
  split
  ·rename_i p q h2 h3
   rw [h2] at hx; rw [h3] at hy
   rw [RV_sc hx, RV_sc hy]
   cases t <;> exact RV_of_sc _
  ·cases t
   ·simpa using hy
   ·simpa using hx

theorem run_isAgg {T : TypeId} {i : TI} (ht : TyOk P cx T i) : (isAgg T).run P w = .ok i.agg w := by
 have h := ht.und
 unfold TI.agg
 unfold KdOk at h
 cases hk : i.kd <;> simp only [hk] at h ⊢
 ·simp [isAgg, run_underlying h]
 ·simp [isAgg, run_underlying h]
 ·simp [isAgg, run_underlying h]
 ·simp [isAgg, run_underlying h.1]
 ·obtain ⟨f, h, _⟩ := h; simp [isAgg, run_underlying h]
 ·simp [isAgg, run_underlying h]
 ·obtain ⟨f, h⟩ := h; simp [isAgg, run_underlying h]
 ·obtain ⟨f, g, k, h⟩ := h; simp [isAgg, run_underlying h]

theorem run_size {T : TypeId} {i : TI} (ht : TyOk P cx T i) : (sizeOf T).run P w = .ok i.size w := by
 obtain ⟨inf, h1, h2, _⟩ := ht.info
 simp [sizeOf, typeInfo, h1, h2]

theorem run_zero {T : TypeId} {i : TI} (ht : TyOk P cx T i) : (zeroValue T).run P w = .ok (mkv i.agg (i.zero.map zval)) w := by
 obtain ⟨inf, h1, _, h2, _⟩ := ht.info
 simp [zeroValue, typeInfo, h1, h2]

theorem add_plain (b off j : Nat) : (⟨b, off, none⟩ : Addr).add j = ⟨b, off + j, none⟩ := by
 unfold Addr.add
 split <;> simp_all

theorem run_loadVar' {T : TypeId} {i : TI} (ht : TyOk P cx T i) {b off : Nat} {vs : List Value} (hl : vs.length = i.size) (h : ∀ j, j < i.size → w.cell? ⟨b, off + j, none⟩ = some (vs.getD j undef)) :
    (loadVar T ⟨b, off, none⟩).run P w = .ok (mkv i.agg vs) w := by
 unfold loadVar
 rw [Sem.run_bind, run_isAgg ht]
 simp only [Result.andThen_ok]
 cases hg : i.agg with
 | true =>
  rw [if_pos rfl, Sem.run_bind, run_size ht]
  simp only [Result.andThen_ok]
  have := run_loadCells_list (P := P) w ⟨b, off, none⟩ vs (fun j v hj => by
   have hj' : j < vs.length := by
    rcases Nat.lt_or_ge j vs.length with h1 | h1
    ·exact h1
    ·rw [List.getElem?_eq_none h1] at hj; cases hj
   rw [add_plain, h j (by omega)]
   simp [List.getD_eq_getElem?_getD, hj])
  rw [hl] at this
  rw [Sem.run_bind, this]
  simp [mkv]
 | false =>
  have h1 := ht.one hg
  have h2 := h 0 (by omega)
  simp only [Nat.add_zero] at h2
  cases vs with
  | nil => simp at hl; omega
  | cons v vs =>
   have h3 : w.cell? ⟨b, off, none⟩ = some v := h2
   simp [load, Sem.run, h3, mkv]

theorem RA_mkv {g : Bool} {cs : List C} {vs : List Value} (h : RCs cx ρ ok w cs vs) (h1 : g = false → cs.length = 1) : RA cx ρ ok w (g, cs) (mkv g vs) := by
 cases g with
 | true => exact ⟨vs, rfl, h⟩
 | false =>
  match cs, h1 rfl with
  | [c], _ =>
   obtain ⟨v, rfl, hv⟩ := RCs_one h
   exact ⟨c, rfl, hv⟩

theorem RCs_map_d {ds : List D} {vs : List Value} (hl : vs.length = ds.length) (h : ∀ j, j < ds.length → RD cx ok w (ds.getD j .nils) (vs.getD j undef)) : RCs cx ρ ok w (ds.map .d) vs :=
 ⟨by simpa using hl, fun j hj => by
  have hj' : j < ds.length := by simpa using hj
  have e : (ds.map C.d).getD j (.d .nils) = .d (ds.getD j .nils) := by simp [List.getD_eq_getElem?_getD, hj']
  rw [e]
  exact h j hj'⟩

theorem lk_some {h : Heap} {n : Nat} {b : Blk} (e : lk h n = some b) : (lk h n).isSome = true := by rw [e]; rfl

theorem seg_length {α : Type} {l : List α} {off n : Nat} (h : off + n ≤ l.length) : (seg l off n).length = n := by simp [seg]; omega
theorem seg_getD {α : Type} {l : List α} {off n j : Nat} {d : α} (h : off + n ≤ l.length) (hj : j < n) : (seg l off n).getD j d = l.getD (off + j) d := by
 simp [seg, List.getD_eq_getElem?_getD, hj]

theorem cell_of_block {b j : Nat} {vs : List Value} {T : TypeId} {fr : Nat × Nat} (hb : w.heap[b]? = some (.cells vs.toArray T fr)) (hj : j < vs.length) : w.cell? ⟨b, j, none⟩ = some (vs.getD j undef) := by
 simp [World.cell?, hb, hj]

theorem gives_load (hcx : ∀ T i, cx.tt T = some i → TyOk P cx T i) (hi : Inv cx ok w0 ρ st a w) {o : Oper} {x : Operand} {T : TypeId} {e : Eff} (ho : o.op = .load T x) (he : loadE cx T st.env st.heap x = some e) (hok : e.ok = true) :
    Gives P cx ok w0 ρ st a w o e.val ∧ e.heap = st.heap := by
 unfold loadE at he
 split at he
 ·cases he
 ·rename_i i hT
  have ht := hcx T i hT
  have fin : ∀ (b off : Nat) (cs : List C) (vs : List Value), a.eval x = .pointer (some ⟨b, off, none⟩) → cs.length = i.size → RCs cx ρ (okc ok w0.heap.size st.heap ρ) w cs vs →
      (∀ j, j < i.size → w.cell? ⟨b, off + j, none⟩ = some (vs.getD j undef)) → Gives P cx ok w0 ρ st a w o (.v i.agg cs) := by
   intro b off cs vs hx hcs hr hc
   refine ⟨mkv i.agg vs, ?_, RA_mkv hr (fun hg => by rw [hcs]; exact ht.one hg)⟩
   have hl : vs.length = i.size := by rw [hr.1, hcs]
   have := run_loadVar' (w := w) ht hl hc
   simp [execOp, ho, Instr.loadAt, Instr.sureAddr, hx, this]
  split at he
  ·rename_i n off hx
   obtain ⟨b, hb, hv⟩ := op_c hi hx
   split at he
   ·rename_i B cs hk
    split at he
    ·rename_i hle
     injection he with he; subst he
     obtain ⟨b', vs, h1, h2, h3⟩ := hi.heap n _ hk
     rw [hb] at h1; injection h1 with h1; subst h1
     have hvl : vs.length = cs.length := h3.1
     refine ⟨fin b off (seg cs off i.size) (seg vs off i.size) hv (seg_length hle) (RCs_seg h3 hle) (fun j hj => ?_), rfl⟩
     rw [seg_getD (by omega) hj]
     exact cell_of_block h2 (by omega)
    ·cases he
   ·cases he
  ·rename_i n t k j hx
   obtain ⟨b, hb, hv⟩ := op_c hi hx
   split at he
   ·rename_i B t' l hk
    split at he
    ·rename_i ett
     subst ett
     split at he
     ·rename_i hle
      injection he with he; subst he
      have hkl : k < l.length := by simpa using hok
      rcases hi.heap n _ hk with ⟨h1, _⟩ | ⟨b', vs, h1, h2, h3, h4⟩
      ·subst h1; simp at hkl
      ·rw [hb] at h1; injection h1 with h1; subst h1
       have hbound : k * width t' + width t' ≤ vs.length := by
        have : (k + 1) * width t' ≤ l.length * width t' := Nat.mul_le_mul_right _ hkl
        rw [Nat.add_mul, Nat.one_mul] at this
        omega
       have hel : (enc t' (l.getD k (dflt t'))).length = width t' := enc_length _ _
       have hr0 : RCs cx ρ (okc ok w0.heap.size st.heap ρ) w ((enc t' (l.getD k (dflt t'))).map .d) (seg vs (k * width t') (width t')) :=
        RCs_map_d (by rw [seg_length (by omega), hel]) (fun q hq => by
         rw [hel] at hq
         rw [seg_getD (by omega) hq]
         exact h4 k q hkl hq)
       have hr1 := RCs_seg (off := j) (n := i.size) hr0 (by rw [List.length_map, hel]; exact hle)
       have hseg : seg vs (k * width t' + j) i.size = seg (seg vs (k * width t') (width t')) j i.size := by
        apply ext_list
        ·rw [seg_length (by omega), seg_length (by rw [seg_length (by omega)]; omega)]
        ·intro q hq
         rw [seg_length (by omega)] at hq
         rw [seg_getD (by omega) hq, seg_getD (by rw [seg_length (by omega)]; omega) hq, seg_getD (by omega) (by omega), Nat.add_assoc]
       refine ⟨fin b (k * width t' + j) _ (seg vs (k * width t' + j) i.size) hv (seg_length (by rw [List.length_map, hel]; exact hle)) (by rw [hseg]; exact hr1) (fun q hq => ?_), rfl⟩
       rw [seg_getD (by omega) hq]
       exact cell_of_block h2 (by omega)
     ·cases he
    ·cases he
   ·cases he
  ·rename_i cs hx
   have hv := op_c hi hx
   split at he
   ·rename_i hle
    simp only [pure1] at he
    injection he with he; subst he
    generalize hxe : a.eval x = xe at hv
    cases hv with
    | ref cs b off vs h1 hb hc hr =>
     refine ⟨fin b off _ ((List.range i.size).map vs) hxe (seg_length (by simpa using hle)) ?_ (fun j hj => ?_), rfl⟩
     ·have h0 : RCs cx ρ (okc ok w0.heap.size st.heap ρ) w (cs.map .d) ((List.range cs.length).map vs) := RCs_map_d (by simp) (fun j hj => by
        have : ((List.range cs.length).map vs).getD j undef = vs j := by simp [List.getD_eq_getElem?_getD, hj]
        rw [this]; exact hr j hj)
      have := RCs_seg (off := 0) (n := i.size) h0 (by simpa using hle)
      rw [show seg ((List.range cs.length).map vs) 0 i.size = (List.range i.size).map vs from ?_] at this
      ·exact this
      ·simp [seg, ← List.map_take, List.take_range, Nat.min_eq_left hle]
     ·have : ((List.range i.size).map vs).getD j undef = vs j := by simp [List.getD_eq_getElem?_getD, hj]
      rw [this]
      exact hc j (by omega)
   ·cases he
  ·cases he
end
end Go.Eng
/- Operations that read and reckon alone, second part. -/
set_option linter.unusedVariables false
set_option linter.unusedSimpArgs false
namespace Go.Eng
open Go Go.RowKit

def EqOk (P : Program) (T : TypeId) (z : List D) : Prop :=
 P.eqGuardType P.depth T = false ∧ ∀ (xs ys : List Sc) (p : Bool), kindsOk z xs = true → kindsOk z ys = true → eqRowS xs ys = some p → ∀ w, (Op.equalIn 10000 T (.agg (xs.map Sc.val).toArray) (.agg (ys.map Sc.val).toArray)).run P w = .ok p w

structure CxOk (P : Program) (cx : Cx) : Prop where
 ty : ∀ T i, cx.tt T = some i → TyOk P cx T i
 eq : ∀ T fs n z e, cx.tt T = some ⟨.struct fs, n, z, e⟩ → z.all D.isSc = true → EqOk P T z
 mixed : P.follows .mixedOrders = true

theorem strEq (a b : ByteArray) : (a.toList == b.toList) = decide (a = b) := by
 rw [ByteArray.toList_eq, ByteArray.toList_eq]
 by_cases h : a = b
 ·subst h; simp
 ·rw [decide_eq_false h]
  rw [beq_eq_false_iff_ne]
  intro e
  exact h (ByteArray.ext (Array.toList_inj.1 e))

section
variable {P : Program} {cx : Cx} {ok : Nat → Prop} {w0 : World} {ρ : Rho} {st : St} {a : Act} {w : World}

theorem RCs_scs : ∀ (cs : List C) (ss : List Sc) (vs : List Value), scsOf cs = some ss → RCs cx ρ ok w cs vs → vs = ss.map Sc.val
 | [], ss, vs, h, hr => by
  simp only [scsOf] at h; injection h with h; subst h
  have := hr.1; simpa using this
 | c :: cs, ss, vs, h, hr => by
  obtain ⟨v, vs', rfl, h1, h2⟩ := RCs_inv hr
  unfold scsOf at h
  split at h
  ·cases ‹_ = []›
  ·rename_i s r heq
   injection heq with e1 e2; subst e1; subst e2
   split at h
   ·rename_i l hl
    injection h with h; subst h
    cases h1
    rw [RCs_scs _ l vs' hl h2]; rfl
   ·cases h
  ·cases h

theorem gives_nilCheck (hi : Inv cx ok w0 ρ st a w) {o : Oper} {x : Operand} {c : Bool} {v : V} (ho : o.op = .nilCheck x) (he : nilE (opv st.env x) = some (c, v)) (hc : c = true) : Gives P cx ok w0 ρ st a w o v := by
 have hx := RV_op hi x
 unfold nilE at he
 split at he <;> first | (injection he with he; injection he with h1 h2; subst h1; subst h2) | cases he
 all_goals (rename_i hy; rw [hy] at hx; have hv := RV_c hx; refine ⟨a.eval x, ?_, hx⟩; generalize hxe : a.eval x = xe at hv)
 ·cases hv with
  | nilI => simp [Thing.isNil] at hc
  | one T s h => simp [execOp, ho, hxe]
  | val T u h => simp [execOp, ho, hxe]
 ·obtain ⟨b, _, rfl⟩ := hv; simp [execOp, ho, hxe]
 ·obtain ⟨b, _, rfl⟩ := hv; simp [execOp, ho, hxe]
 ·obtain ⟨b, c, rfl, _⟩ := hv; simp [execOp, ho, hxe]
 ·obtain ⟨b, _, rfl⟩ := hv; simp [execOp, ho, hxe]
 ·cases hv; simp [execOp, ho, hxe]
 ·cases hv; simp [execOp, ho, hxe]

theorem run_intBin {op : BinOp} {k : IntKind} {x y : Int} {T : TypeId} {c : Bool} {v : V} (he : intBin op k x y = some (c, v)) (hc : c = true) :
    ∃ s, v = .v false [.d (.sc s)] ∧ (binOp op T (.int k x) (.int k y)).run P w = .ok s.val w := by
 cases op <;> simp only [intBin, Option.some.injEq, Prod.mk.injEq, reduceCtorEq] at he <;> (obtain ⟨rfl, rfl⟩ := he) <;> refine ⟨_, rfl, ?_⟩
 all_goals first
  | (simp [binOp, Op.intArith, Op.intCmp, Sc.val]; done)
  | (have hy : y ≠ 0 := by simpa using hc
     simp [binOp, Op.intDiv, hy, Sc.val])
  | (have hy : y = 1 := by simpa using hc
     subst hy
     cases k <;> simp [binOp, Op.shift, IntKind.bits, Sc.val])

theorem run_strBin {op : BinOp} {x y : ByteArray} {T : TypeId} {c : Bool} {v : V} (he : strBin op x y = some (c, v)) :
    ∃ s, v = .v false [.d (.sc s)] ∧ (binOp op T (.string x) (.string y)).run P w = .ok s.val w := by
 cases op <;> simp only [strBin, Option.some.injEq, Prod.mk.injEq, reduceCtorEq] at he <;> (obtain ⟨_, rfl⟩ := he) <;> refine ⟨_, rfl, ?_⟩
 all_goals simp [binOp, Op.stringOp, strLt, strEq, Sc.val]

theorem eqGuard_plain {op : BinOp} {T : TypeId} {x y : Operand} {u v : Value} (h1 : ∀ cs, u ≠ .agg cs) (h2 : u ≠ .nilIface ∨ Region.isConst y = true) : (eqGuard op T x y u v).run P w = .ok () w := by
 unfold eqGuard
 cases op <;> try (simp; done)
 all_goals
  simp only [reduceCtorEq, or_false, or_true, Bool.not_true, Bool.false_eq_true, if_false]
  cases u <;> cases v <;> first | (simp; done) | exact absurd rfl (h1 _) | skip
 all_goals
  rcases h2 with h2 | h2
  ·exact absurd rfl h2
  ·cases y <;> simp [Region.isConst] at h2 ⊢
end
end Go.Eng
/- Operations that read and reckon alone, third part. -/
set_option linter.unusedVariables false
set_option linter.unusedSimpArgs false
namespace Go.Eng
open Go Go.RowKit

section
variable {P : Program} {cx : Cx} {ok : Nat → Prop} {w0 : World} {ρ : Rho} {st : St} {a : Act} {w : World}

theorem und_of (hcx : CxOk P cx) {T : TypeId} {k : Kd} {n : Nat} {z : List D} {e : List (Option ET)} (h : cx.tt T = some ⟨k, n, z, e⟩) : KdOk P cx T k := (hcx.ty T _ h).und
theorem und_byt (hcx : CxOk P cx) {T e : TypeId} {t : ET} {n : Nat} {z : List D} {es : List (Option ET)} (h : cx.tt T = some ⟨.slice e t, n, z, es⟩) : ∀ inf, P.info? e = some inf → inf.bytes ≤ szB t := (hcx.ty T _ h).byt e t rfl

theorem run_eqlAny (T : TypeId) (x y : Value) (b : Bool) (h1 : ∀ k n, x ≠ .int k n) (h2 : ∀ s, x ≠ .string s) (h3 : ∀ k n, x ≠ .float k n) (h4 : ∀ k n m, x ≠ .complex k n m) (h5 : ∀ A, x ≠ .pointer A) (h6 : ∀ A, y ≠ .pointer A)
    (h : (Op.equalIn 10000 T x y).run P w = .ok b w) : (binOp .eql T x y).run P w = .ok (.bool b) w ∧ (binOp .neq T x y).run P w = .ok (.bool (!b)) w := by
 constructor <;> (cases x <;> first | exact absurd rfl (h1 _ _) | exact absurd rfl (h2 _) | exact absurd rfl (h3 _ _) | exact absurd rfl (h4 _ _ _) | exact absurd rfl (h5 _) | skip)
 all_goals (cases y <;> first | exact absurd rfl (h6 _) | skip)
 all_goals (simp only [binOp]; simp [Op.equal, Op.maxDepth, h])

theorem eqIn_nil (d : Nat) {T e : TypeId} (hu : P.underlying T = some (.slice e)) (A : Option Addr) (L Cp : Nat) : (Op.equalIn (d + 1) T (.slice A L Cp) (.slice none 0 0)).run P w = .ok A.isNone w := by
 cases A <;> simp [Op.equalIn, run_underlying hu]
theorem eqIn_nilIface (d : Nat) {T : TypeId} {ms : Array (String × TypeId)} (hu : P.underlying T = some (.interface ms)) : (Op.equalIn (d + 1) T .nilIface .nilIface).run P w = .ok true w := by
 simp [Op.equalIn, run_underlying hu]
theorem eqIn_someIface (d : Nat) {T : TypeId} {ms : Array (String × TypeId)} (hu : P.underlying T = some (.interface ms)) (T' : TypeId) (v : Value) : (Op.equalIn (d + 1) T (.iface T' v) .nilIface).run P w = .ok false w := by
 simp [Op.equalIn, run_underlying hu]

theorem gives_bin (hcx : CxOk P cx) (hi : Inv cx ok w0 ρ st a w) {o : Oper} {op : BinOp} {T Y : TypeId} {x y : Operand} {c : Bool} {v : V} (ho : o.op = .binOp op T x y Y)
    (he : binE cx op T (Region.isConst y) (opv st.env x) (opv st.env y) = some (c, v)) (hc : c = true) : Gives P cx ok w0 ρ st a w o v := by
 have hx := RV_op hi x
 have hy := RV_op hi y
 have fin : ∀ u, (eqGuard op T x y (a.eval x) (a.eval y)).run P w = .ok () w → (binOp op T (a.eval x) (a.eval y)).run P w = .ok u w → (execOp a.eval o).run P w = .ok (.value u) w := fun u h1 h2 => by
  simp [execOp, ho, h1, h2]
 unfold binE at he
 split at he
 ·rename_i k p k' q hxe hye
  rw [hxe] at hx; rw [hye] at hy
  have e1 := RV_sc hx
  have e2 := RV_sc hy
  split at he
  ·rename_i hk; subst hk
   obtain ⟨s, rfl, hr⟩ := run_intBin (P := P) (w := w) (T := T) he hc
   refine ⟨s.val, fin _ (eqGuard_plain (by rw [e1]; intro cs h; cases h) (.inl (by rw [e1]; intro h; cases h))) (by rw [e1, e2]; exact hr), RV_of_sc s⟩
  ·cases he
 ·rename_i p q hxe hye
  rw [hxe] at hx; rw [hye] at hy
  have e1 := RV_sc hx
  have e2 := RV_sc hy
  obtain ⟨s, rfl, hr⟩ := run_strBin (P := P) (w := w) (T := T) he
  exact ⟨s.val, fin _ (eqGuard_plain (by rw [e1]; intro cs h; cases h) (.inl (by rw [e1]; intro h; cases h))) (by rw [e1, e2]; exact hr), RV_of_sc s⟩
 ·rename_i p q hxe hye
  rw [hxe] at hx; rw [hye] at hy
  have e1 := RV_sc hx
  have e2 := RV_sc hy
  split at he
  ·rename_i n z e hT
   have hu : P.underlying T = some .bool := und_of hcx hT
   have hq : (Op.equalIn 10000 T (.bool p) (.bool q)).run P w = .ok (p == q) w := run_equalIn_bool' w 9999 T p q hu
   have hg := eqGuard_plain (P := P) (w := w) (op := op) (T := T) (x := x) (y := y) (u := a.eval x) (v := a.eval y) (by rw [e1]; intro cs h; cases h) (.inl (by rw [e1]; intro h; cases h))
   have hb := run_eqlAny (P := P) (w := w) T (.bool p) (.bool q) (p == q) (by intros; simp) (by intros; simp) (by intros; simp) (by intros; simp) (by intros; simp) (by intros; simp) hq
   split at he <;> first | (injection he with he; injection he with _ h2; subst h2) | cases he
   ·exact ⟨.bool (p == q), fin _ hg (by rw [e1, e2]; exact hb.1), RV_of_sc (.bool _)⟩
   ·exact ⟨.bool (!(p == q)), fin _ hg (by rw [e1, e2]; exact hb.2), RV_of_sc (.bool _)⟩
  ·cases he
 ·rename_i xs ys hxe hye
  rw [hxe] at hx; rw [hye] at hy
  obtain ⟨us, e1, r1⟩ := hx
  obtain ⟨vs, e2, r2⟩ := hy
  split at he
  ·rename_i fs n z e hT
   split at he
   ·rename_i p hp
    split at he
    ·rename_i hz
     obtain ⟨hg, hq⟩ := hcx.eq T fs n z e hT hz
     unfold eqRow at hp
     split at hp
     ·rename_i ss tt' h1 h2
      split at hp
      ·rename_i hkk
       simp only [Bool.and_eq_true] at hkk
       have eu := RCs_scs xs ss us h1 r1
       have ev := RCs_scs ys tt' vs h2 r2
       subst eu; subst ev
       have hq' := hq ss tt' p hkk.1 hkk.2 hp w
       have hgd : (eqGuard op T x y (a.eval x) (a.eval y)).run P w = .ok () w := by rw [e1, e2]; exact run_eqGuard_agg w op T x y _ _ hg
       split at he <;> first | (injection he with he; injection he with _ g2; subst g2) | cases he
       ·exact ⟨.bool p, fin _ hgd (by rw [e1, e2, run_eql_struct, hq']; rfl), RV_of_sc (.bool _)⟩
       ·exact ⟨.bool (!p), fin _ hgd (by rw [e1, e2, run_neq_struct, hq']; rfl), RV_of_sc (.bool _)⟩
      ·cases hp
     ·cases hp
    ·cases he
   ·cases he
  ·cases he
 ·rename_i nl full t l hxe hye
  rw [hxe] at hx; rw [hye] at hy
  have r1 := RV_c hx
  have r2 := RV_c hy
  split at he
  ·rename_i e' t' n z es hT
   have hu : P.underlying T = some (.slice e') := (und_of hcx hT).1
   have hq : ∀ A L Cp, (Op.equalIn 10000 T (.slice A L Cp) (.slice none 0 0)).run P w = .ok A.isNone w := eqIn_nil 9999 hu
   generalize hxv : a.eval x = xv at r1
   generalize hyv : a.eval y = yv at r2
   cases r2
   have main : ∀ A L Cp b, xv = .slice A L Cp → A.isNone = b → (op = .eql → v = .b b) → (op = .neq → v = .b (!b)) → (op = .eql ∨ op = .neq) → Gives P cx ok w0 ρ st a w o v := by
    intro A L Cp b h1 h2 h3 h4 h5
    have hg := eqGuard_plain (P := P) (w := w) (op := op) (T := T) (x := x) (y := y) (u := a.eval x) (v := a.eval y) (by rw [hxv, h1]; intro cs h; cases h) (.inl (by rw [hxv, h1]; intro h; cases h))
    have hb := run_eqlAny (P := P) (w := w) T (.slice A L Cp) (.slice none 0 0) b (by intros; simp) (by intros; simp) (by intros; simp) (by intros; simp) (by intros; simp) (by intros; simp) (by rw [hq, h2])
    rcases h5 with h5 | h5
    ·subst h5; rw [h3 rfl]; exact ⟨.bool b, fin _ hg (by rw [hxv, hyv, h1]; exact hb.1), RV_of_sc (.bool _)⟩
    ·subst h5; rw [h4 rfl]; exact ⟨.bool (!b), fin _ hg (by rw [hxv, hyv, h1]; exact hb.2), RV_of_sc (.bool _)⟩
   cases r1 with
   | sl0 _ _ _ A cap h1 h2 h3 h4 =>
    split at he <;> first | (injection he with he; injection he with g1 g2; subst g2) | cases he
    ·rename_i b
     refine main A 0 cap b rfl ?_ (fun _ => rfl) (fun h => by cases h) (.inl rfl)
     cases b
     ·cases A with
      | none => exact absurd rfl (h2 rfl)
      | some _ => rfl
     ·rw [h1 rfl]; rfl
    ·rename_i b
     refine main A 0 cap b rfl ?_ (fun h => by cases h) (fun _ => rfl) (.inr rfl)
     cases b
     ·cases A with
      | none => exact absurd rfl (h2 rfl)
      | some _ => rfl
     ·rw [h1 rfl]; rfl
    ·subst g1; simp at hc
    ·subst g1; simp at hc
   | sl _ _ _ _ b off cap vs h0 h1 h2 h3 h4 hc' hr =>
    split at he <;> first | (injection he with he; injection he with g1 g2; subst g2) | cases he
    ·rename_i b'
     have : b' = false := by cases b' <;> simp_all
     subst this
     exact main _ _ _ false rfl rfl (fun _ => rfl) (fun h => by cases h) (.inl rfl)
    ·rename_i b'
     have : b' = false := by cases b' <;> simp_all
     subst this
     exact main _ _ _ false rfl rfl (fun h => by cases h) (fun _ => rfl) (.inr rfl)
    ·exact main _ _ _ false rfl rfl (fun _ => rfl) (fun h => by cases h) (.inl rfl)
    ·exact main _ _ _ false rfl rfl (fun h => by cases h) (fun _ => rfl) (.inr rfl)
  ·cases he
 ·rename_i th hxe hye
  rw [hxe] at hx; rw [hye] at hy
  have r1 := RV_c hx
  have r2 := RV_c hy
  split at he
  ·rename_i n z es hT
   obtain ⟨ms, hu⟩ := und_of hcx hT
   split at he
   ·rename_i hyc
    generalize hxv : a.eval x = xv at r1
    generalize hyv : a.eval y = yv at r2
    cases r2
    have hq : (xv = .nilIface ∧ th.isNil = true) ∨ (∃ T' v', xv = .iface T' v' ∧ th.isNil = false) := by
     cases r1 with
     | nilI => exact .inl ⟨rfl, rfl⟩
     | one T' s h => exact .inr ⟨_, _, rfl, rfl⟩
     | val T' u h => exact .inr ⟨_, _, rfl, rfl⟩
    have hb : (binOp .eql T xv .nilIface).run P w = .ok (.bool th.isNil) w ∧ (binOp .neq T xv .nilIface).run P w = .ok (.bool (!th.isNil)) w := by
     rcases hq with ⟨rfl, h⟩ | ⟨T', v', rfl, h⟩ <;> rw [h]
     ·exact run_eqlAny (P := P) (w := w) T _ _ _ (by intros; simp) (by intros; simp) (by intros; simp) (by intros; simp) (by intros; simp) (by intros; simp) (eqIn_nilIface 9999 hu)
     ·exact run_eqlAny (P := P) (w := w) T _ _ _ (by intros; simp) (by intros; simp) (by intros; simp) (by intros; simp) (by intros; simp) (by intros; simp) (eqIn_someIface 9999 hu T' v')
    have hg := eqGuard_plain (P := P) (w := w) (op := op) (T := T) (x := x) (y := y) (u := a.eval x) (v := a.eval y) (by rw [hxv]; intro cs h; rcases hq with ⟨rfl, _⟩ | ⟨_, _, rfl, _⟩ <;> cases h) (.inr hyc)
    split at he <;> first | (injection he with he; injection he with g1 g2; subst g2) | cases he
    ·exact ⟨_, fin _ hg (by rw [hxv, hyv]; exact hb.1), RV_of_sc (.bool _)⟩
    ·exact ⟨_, fin _ hg (by rw [hxv, hyv]; exact hb.2), RV_of_sc (.bool _)⟩
   ·cases he
  ·cases he
 ·cases he
end
end Go.Eng
/- Operations that read and reckon alone, fourth part. -/
set_option linter.unusedVariables false
set_option linter.unusedSimpArgs false
namespace Go.Eng
open Go Go.RowKit

section
variable {P : Program} {cx : Cx} {ok : Nat → Prop} {w0 : World} {ρ : Rho} {st : St} {a : Act} {w : World}

theorem gives_not (hi : Inv cx ok w0 ρ st a w) {o : Oper} {T : TypeId} {x : Operand} {b : Bool} (ho : o.op = .unOp .not T x) (hx : opv st.env x = .v false [.d (.sc (.bool b))]) : Gives P cx ok w0 ρ st a w o (.b (!b)) :=
 ⟨.bool (!b), by simp [execOp, ho, op_sc hi hx, Sc.val, Op.unary], RV_of_sc (.bool _)⟩
theorem gives_neg (hi : Inv cx ok w0 ρ st a w) {o : Oper} {T : TypeId} {x : Operand} {k : IntKind} {n : Int} (ho : o.op = .unOp .neg T x) (hx : opv st.env x = .v false [.d (.sc (.int k n))]) :
    Gives P cx ok w0 ρ st a w o (.v false [.d (.sc (.int k (k.wrap (0 - n))))]) :=
 ⟨.int k (k.wrap (0 - n)), by simp [execOp, ho, op_sc hi hx, Sc.val, Op.unary, Op.intArith], RV_of_sc (.int _ _)⟩

theorem gives_convert (hcx : CxOk P cx) (hi : Inv cx ok w0 ρ st a w) {o : Oper} {S T : TypeId} {x : Operand} {j k l : IntKind} {n : Int} {n1 n2 : Nat} {z1 z2 : List D} {e1 e2 : List (Option ET)} (ho : o.op = .convert S T x)
    (hS : cx.tt S = some ⟨.int j, n1, z1, e1⟩) (hT : cx.tt T = some ⟨.int k, n2, z2, e2⟩) (hx : opv st.env x = .v false [.d (.sc (.int l n))]) : Gives P cx ok w0 ρ st a w o (.v false [.d (.sc (.int k (k.wrap n)))]) := by
 have hs : P.underlying S = some (.int j) := und_of hcx hS
 have ht : P.underlying T = some (.int k) := und_of hcx hT
 exact ⟨.int k (k.wrap n), by simp [execOp, ho, op_sc hi hx, Sc.val, convert, run_underlying hs, run_underlying ht, Conv.intToInt], RV_of_sc (.int _ _)⟩

theorem gives_iface (hcx : CxOk P cx) (hi : Inv cx ok w0 ρ st a w) {o : Oper} {T : TypeId} {x : Operand} {v : V} (ho : o.op = .makeInterface T x) (he : ifaceE cx T (opv st.env x) = some v) : Gives P cx ok w0 ρ st a w o v := by
 have hx := RV_op hi x
 unfold ifaceE at he
 split at he
 ·rename_i s hxe
  rw [hxe] at hx
  have e1 := RV_sc hx
  split at he
  ·rename_i _ k n z e k' m hT
   have hu : P.underlying T = some (.int k) := und_of hcx hT
   split at he
   ·rename_i hk; subst hk
    injection he with he; subst he
    exact ⟨.iface T (.int k m), by simp [execOp, ho, e1, Sc.val, Instr.makeInterface, run_underlying hu], RV_of_c (RD.one T (.int k m) (by simp [oneOk, hT]))⟩
   ·cases he
  ·rename_i _ n z e b hT
   have hu : P.underlying T = some .bool := und_of hcx hT
   injection he with he; subst he
   exact ⟨.iface T (.bool b), by simp [execOp, ho, e1, Sc.val, Instr.makeInterface, run_underlying hu], RV_of_c (RD.one T (.bool b) (by simp [oneOk, hT]))⟩
  ·rename_i _ n z e b hT
   have hu : P.underlying T = some .string := und_of hcx hT
   injection he with he; subst he
   exact ⟨.iface T (.string b), by simp [execOp, ho, e1, Sc.val, Instr.makeInterface, run_underlying hu], RV_of_c (RD.one T (.str b) (by simp [oneOk, hT]))⟩
  ·cases he
 ·rename_i p q s hxe
  rw [hxe] at hx
  obtain ⟨vs, e1, r1⟩ := hx
  have e2 := RCs_scs _ [.int .i64 p, .int .i64 q, .str s] vs rfl r1
  subst e2
  split at he
  ·rename_i fs n0 e hT
   obtain ⟨fields, hu, _⟩ := und_of hcx hT
   injection he with he; subst he
   exact ⟨.iface T (.agg (valCells ⟨p, q, s⟩)), by simp [execOp, ho, e1, Sc.val, valCells, Instr.makeInterface, run_underlying hu], RV_of_c (RD.val T ⟨p, q, s⟩ (by simp [threeOk, hT]))⟩
  ·cases he
 ·cases he

theorem field_of (hcx : CxOk P cx) {S : TypeId} {f off : Nat} {F : TypeId} (h : fieldOf cx S f = some (off, F)) : ∃ fields : Array Field, ∃ fd, P.underlying S = some (.struct fields) ∧ fields[f]? = some fd ∧ fd.offset = off ∧ fd.type = F := by
 unfold fieldOf at h
 split at h
 ·rename_i fs n z e hS
  obtain ⟨fields, hu, hf, _⟩ := und_of hcx hS
  subst hf
  rw [List.getElem?_map] at h
  cases hfd : fields.toList[f]? with
  | none => rw [hfd] at h; cases h
  | some fd =>
   rw [hfd] at h
   simp only [Option.map_some, Option.some.injEq, Prod.mk.injEq] at h
   exact ⟨fields, fd, hu, by simpa using hfd, h.1, h.2⟩
 ·cases h

theorem run_fieldPlace' (hcx : CxOk P cx) {fd : Field} {b o : Nat} (h : sizeOfT cx fd.type ≠ 0) : (fieldPlace ⟨b, o, none⟩ fd).run P w = .ok ⟨b, o + fd.offset, none⟩ w := by
 unfold sizeOfT at h
 split at h
 ·rename_i i hF
  unfold fieldPlace
  rw [Sem.run_bind, run_size (hcx.ty _ _ hF)]
  simp [h, add_plain]
 ·exact absurd rfl h

theorem gives_fieldAddr (hcx : CxOk P cx) (hi : Inv cx ok w0 ρ st a w) {o : Oper} {S : TypeId} {x : Operand} {f off : Nat} {F : TypeId} {e : Eff} (ho : o.op = .fieldAddr S x f) (hf : fieldOf cx S f = some (off, F)) (hF : sizeOfT cx F ≠ 0)
    (he : (match opv st.env x with
     | .v false [.ptr n o] => pure1 st.heap (.v false [.ptr n (o + off)])
     | .v false [.ep n t i j] => pure1 st.heap (.v false [.ep n t i (j + off)])
     | .v false [.d (.ref cs)] => pure1 st.heap (.v false [.d (.ref (cs.drop off))])
     | _ => none) = some e) : Gives P cx ok w0 ρ st a w o e.val ∧ e.heap = st.heap ∧ e.ok = true := by
 obtain ⟨fields, fd, hu, hfd, rfl, rfl⟩ := field_of hcx hf
 have run : ∀ b q, a.eval x = .pointer (some ⟨b, q, none⟩) → (execOp a.eval o).run P w = .ok (.value (.pointer (some ⟨b, q + fd.offset, none⟩))) w := fun b q hx => by
  simp [execOp, ho, hx, Instr.fieldAt, run_underlying hu, hfd, Instr.sureAddr, run_fieldPlace' hcx hF]
 split at he
 ·rename_i n q hx
  obtain ⟨b, hb, hv⟩ := op_c hi hx
  simp only [pure1] at he; injection he with he; subst he
  exact ⟨⟨_, run b q hv, RV_of_c ⟨b, hb, rfl⟩⟩, rfl, rfl⟩
 ·rename_i n t i j hx
  obtain ⟨b, hb, hv⟩ := op_c hi hx
  simp only [pure1] at he; injection he with he; subst he
  exact ⟨⟨_, run b _ hv, RV_of_c ⟨b, hb, by rw [Nat.add_assoc]⟩⟩, rfl, rfl⟩
 ·rename_i cs hx
  have hv := op_c hi hx
  simp only [pure1] at he; injection he with he; subst he
  generalize hxe : a.eval x = xe at hv
  cases hv with
  | ref cs b q vs h1 hb hc hr =>
   refine ⟨⟨_, run b q hxe, RV_of_c (RD.ref _ b (q + fd.offset) (fun j => vs (fd.offset + j)) h1 hb (fun j hj => ?_) (fun j hj => ?_))⟩, rfl, rfl⟩
   ·rw [List.length_drop] at hj
    rw [Nat.add_assoc]; exact hc _ (by omega)
   ·rw [List.length_drop] at hj
    have := hr (fd.offset + j) (by omega)
    simpa [List.getD_eq_getElem?_getD] using this
 ·cases he

theorem gives_field (hcx : CxOk P cx) (hi : Inv cx ok w0 ρ st a w) {o : Oper} {S : TypeId} {x : Operand} {f off : Nat} {F : TypeId} {i : TI} {cs : List C} (ho : o.op = .field S x f) (hf : fieldOf cx S f = some (off, F)) (hx : opv st.env x = .v true cs)
    (hF : cx.tt F = some i) (hl : off + i.size ≤ cs.length) : Gives P cx ok w0 ρ st a w o (.v i.agg (seg cs off i.size)) := by
 obtain ⟨fields, fd, hu, hfd, rfl, rfl⟩ := field_of hcx hf
 have hr := RV_op hi x
 rw [hx] at hr
 obtain ⟨vs, e1, r1⟩ := hr
 have ht := hcx.ty _ _ hF
 have hvl : vs.length = cs.length := r1.1
 refine ⟨mkv i.agg (seg vs fd.offset i.size), ?_, RA_mkv (RCs_seg r1 hl) (fun hg => by rw [seg_length hl]; exact ht.one hg)⟩
 have hp : (part fd.type vs.toArray fd.offset).run P w = .ok (mkv i.agg (seg vs fd.offset i.size)) w := by
  unfold part
  rw [Sem.run_bind, run_isAgg ht]
  simp only [Result.andThen_ok]
  cases hg : i.agg with
  | true =>
   rw [if_pos rfl, Sem.run_bind, run_size ht]
   simp only [Result.andThen_ok, mkv, if_true, Sem.run_pure]
   congr 2
   apply Array.ext'
   simp [seg, List.extract_eq_take_drop]
  | false =>
   have h1 := ht.one hg
   have hlt : fd.offset < vs.length := by omega
   simp [mkv, seg, h1, List.head?_eq_getElem?, hlt]
 simp [execOp, ho, e1, Instr.field, run_underlying hu, hfd, asAgg, hp]

theorem run_indexAt {T e : TypeId} {i : TI} (hu : P.underlying T = some (.slice e)) (he : TyOk P cx e i) {b off len cap : Nat} {k : IntKind} {n : Int} (h0 : 0 ≤ n) (h1 : n < len) :
    (Instr.indexAt T (.slice (some ⟨b, off, none⟩) len cap) (.int k n)).run P w = .ok (.pointer (some ⟨b, off + n.toNat * i.size, none⟩)) w := by
 simp [Instr.indexAt, asIntOf, run_underlying hu, h0, h1, run_size he, add_plain]

theorem gives_indexD (hcx : CxOk P cx) (hi : Inv cx ok w0 ρ st a w) {o : Oper} {T e : TypeId} {x y : Operand} {nl : Option Bool} {full : Bool} {t : ET} {l : List (Ty t)} {k : IntKind} {n : Int} {sz : Nat} {z : List D} {es : List (Option ET)} (ho : o.op = .indexAddr T x y)
    (hT : cx.tt T = some ⟨.slice e t, sz, z, es⟩) (hx : opv st.env x = .v false [.d (.sl nl full t l)]) (hy : opv st.env y = .v false [.d (.sc (.int k n))]) (h0 : 0 ≤ n) (h1 : n < l.length) :
    Gives P cx ok w0 ρ st a w o (.v false [.d (.ref (enc t (l.getD n.toNat (dflt t))))]) := by
 have hv := op_c hi hx
 have hyv := op_sc hi hy
 obtain ⟨hu, ie, hie, hsz, _⟩ := und_of hcx hT
 have hte := hcx.ty _ _ hie
 generalize hxe : a.eval x = xe at hv
 cases hv with
 | sl0 _ _ _ A cap => simp at h1; omega
 | sl _ _ _ _ b off cap vs g0 g1 g2 g3 g4 hc hr =>
  have hn : n.toNat < l.length := by omega
  refine ⟨.pointer (some ⟨b, off + n.toNat * width t, none⟩), ?_, RV_of_c (RD.ref _ b _ (fun j => vs n.toNat j) g1 (cell_lt (hc 0 0 (List.length_pos_iff.2 g0) (width_pos t))) (fun j hj => ?_) (fun j hj => ?_))⟩
  ·have := run_indexAt (w := w) hu hte (b := b) (off := off) (len := l.length) (cap := cap) (k := k) h0 h1
   rw [hsz] at this
   simp [execOp, ho, hxe, hyv, Sc.val, this]
  ·rw [enc_length] at hj
   rw [Nat.add_assoc]
   exact hc n.toNat j hn hj
  ·rw [enc_length] at hj
   exact hr n.toNat j hn hj

theorem gives_indexO (hcx : CxOk P cx) (hi : Inv cx ok w0 ρ st a w) {o : Oper} {T e : TypeId} {x y : Operand} {m off len : Nat} {full : Bool} {t : ET} {k : IntKind} {n : Int} {sz : Nat} {z : List D} {es : List (Option ET)} (ho : o.op = .indexAddr T x y)
    (hT : cx.tt T = some ⟨.slice e t, sz, z, es⟩) (hx : opv st.env x = .v false [.own m t full off len]) (hy : opv st.env y = .v false [.d (.sc (.int k n))]) (h0 : 0 ≤ n) (h1 : n < len) :
    Gives P cx ok w0 ρ st a w o (.v false [.ep m t (off + n.toNat) 0]) := by
 obtain ⟨A, cap, hv, h2, h3, h4⟩ := op_c hi hx
 have hyv := op_sc hi hy
 obtain ⟨hu, ie, hie, hsz, _⟩ := und_of hcx hT
 obtain ⟨b, hb, hA, _⟩ := h4 (by omega)
 refine ⟨.pointer (some ⟨b, off * width t + n.toNat * width t, none⟩), ?_, RV_of_c ⟨b, hb, by rw [Nat.add_mul, Nat.add_zero]⟩⟩
 have := run_indexAt (w := w) hu (hcx.ty _ _ hie) (b := b) (off := off * width t) (len := len) (cap := cap) (k := k) h0 h1
 rw [hsz] at this
 simp [execOp, ho, hv, hA, hyv, Sc.val, this]

theorem gives_indexA (hcx : CxOk P cx) (hi : Inv cx ok w0 ρ st a w) {o : Oper} {T e : TypeId} {x y : Operand} {m q len : Nat} {k : IntKind} {n : Int} {sz : Nat} {z : List D} {es : List (Option ET)} {i : TI} (ho : o.op = .indexAddr T x y)
    (hT : cx.tt T = some ⟨.array len e, sz, z, es⟩) (hx : opv st.env x = .v false [.ptr m q]) (hy : opv st.env y = .v false [.d (.sc (.int k n))]) (hE : cx.tt e = some i) (h0 : 0 ≤ n) (h1 : n < len) :
    Gives P cx ok w0 ρ st a w o (.v false [.ptr m (q + n.toNat * sizeOfT cx e)]) := by
 obtain ⟨b, hb, hv⟩ := op_c hi hx
 have hyv := op_sc hi hy
 have hu : P.underlying T = some (.array len e) := und_of hcx hT
 have hs : sizeOfT cx e = i.size := by simp [sizeOfT, hE]
 refine ⟨.pointer (some ⟨b, q + n.toNat * i.size, none⟩), ?_, RV_of_c ⟨b, hb, by rw [hs]⟩⟩
 simp [execOp, ho, hv, hyv, Sc.val, Instr.indexAt, asIntOf, run_underlying hu, Instr.sureAddr, h0, h1, run_size (hcx.ty _ _ hE), add_plain]

theorem gives_indexS (hcx : CxOk P cx) (hi : Inv cx ok w0 ρ st a w) {o : Oper} {T : TypeId} {x y : Operand} {s : ByteArray} {k : IntKind} {n : Int} {sz : Nat} {z : List D} {es : List (Option ET)} (ho : o.op = .index T x y)
    (hT : cx.tt T = some ⟨.str, sz, z, es⟩) (hx : opv st.env x = .v false [.d (.sc (.str s))]) (hy : opv st.env y = .v false [.d (.sc (.int k n))]) (h0 : 0 ≤ n) (h1 : n < s.size) :
    Gives P cx ok w0 ρ st a w o (.v false [.d (.sc (.int .u8 (byteAt s n.toNat)))]) := by
 have hu : P.underlying T = some .string := und_of hcx hT
 have hn : n.toNat < s.size := by omega
 refine ⟨.int .u8 (byteAt s n.toNat), ?_, RV_of_sc (.int _ _)⟩
 have h2 : s[n.toNat]? = some s[n.toNat] := by simp [hn]
 have h3 : byteAt s n.toNat = s[n.toNat].toNat := by
  have h4 : s.data[n.toNat]? = some s[n.toNat] := Array.getElem?_eq_getElem hn
  simp [byteAt, h4]
 simp [execOp, ho, op_sc hi hx, op_sc hi hy, Sc.val, Instr.index, asIntOf, run_underlying hu, h0, h2, h3]
end
end Go.Eng
/- Operations that read and reckon alone, fifth part. -/
set_option linter.unusedVariables false
set_option linter.unusedSimpArgs false
namespace Go.Eng
open Go Go.RowKit

section
variable {P : Program} {cx : Cx} {ok : Nat → Prop} {w0 : World} {ρ : Rho} {st : St} {a : Act} {w : World}

theorem run_assert {x : Value} {xT T : TypeId} {d : TypeDesc} (hu : P.underlying T = some d) (hd : ∀ ms, d ≠ .interface ms) (hx : x = .nilIface ∨ ∃ T' v, x = .iface T' v) {i : TI} (ht : TyOk P cx T i) :
    (∀ v, x = .iface T v → (Instr.typeAssert x xT T false).run P w = .ok v w ∧ (Instr.typeAssert x xT T true).run P w = .ok (.tuple #[v, .bool true]) w) ∧
    ((∀ v, x ≠ .iface T v) → (Instr.typeAssert x xT T true).run P w = .ok (.tuple #[mkv i.agg (i.zero.map zval), .bool false]) w) := by
 have hz := run_zero (w := w) ht
 constructor
 ·rintro v rfl
  cases d <;> first | exact absurd rfl (hd _) | (constructor <;> simp [Instr.typeAssert, run_underlying hu])
 ·intro hne
  rcases hx with rfl | ⟨T', v, rfl⟩
  ·cases d <;> first | exact absurd rfl (hd _) | simp [Instr.typeAssert, run_underlying hu, hz]
  ·have hT : ¬ T' = T := fun e => hne v (by rw [e])
   cases d <;> first | exact absurd rfl (hd _) | simp [Instr.typeAssert, run_underlying hu, hz, hT]

theorem gives_assert (hcx : CxOk P cx) (hi : Inv cx ok w0 ρ st a w) {o : Oper} {xT T : TypeId} {x : Operand} {commaOk : Bool} {y : Thing} {c : Bool} {v : V} (ho : o.op = .typeAssert x xT T commaOk) (hx : opv st.env x = .v false [.d (.th y)])
    (he : assertE cx y T commaOk = some (c, v)) (hc : c = true) : Gives P cx ok w0 ρ st a w o v := by
 have hv := op_c hi hx
 generalize hxe : a.eval x = xe at hv
 have hif : xe = .nilIface ∨ ∃ T' v, xe = .iface T' v := by
  cases hv with
  | nilI => exact .inl rfl
  | one T' s h => exact .inr ⟨_, _, rfl⟩
  | val T' u h => exact .inr ⟨_, _, rfl⟩
 have run : ∀ u, (Instr.typeAssert xe xT T commaOk).run P w = .ok u w → (execOp a.eval o).run P w = .ok (.value u) w := fun u h => by simp [execOp, ho, hxe, h]
 have fin : ∀ (i : TI) (d : TypeDesc) (is g : Bool) (cs : List C) (u : Value), TyOk P cx T i → P.underlying T = some d → (∀ ms, d ≠ .interface ms) →
     (is = true → xe = .iface T u) → (is = false → ∀ v, xe ≠ .iface T v) → ((∀ v, xe ≠ .iface T v) → u = mkv i.agg (i.zero.map zval)) → RA cx ρ (okc ok w0.heap.size st.heap ρ) w (g, cs) u →
     (if commaOk then some (true, V.tup [(g, cs), (false, [.d (.b is)])]) else some (is, V.v g cs)) = some (c, v) → Gives P cx ok w0 ρ st a w o v := by
  intro i d is g cs u ht hu hd h1 h2 h3 hr hcv
  obtain ⟨ra, rb⟩ := run_assert (w := w) (xT := xT) hu hd hif ht
  cases hk : commaOk with
  | false =>
   rw [hk] at hcv run
   injection hcv with hcv; injection hcv with e1 e2; subst e2
   rw [e1] at h1
   have := h1 hc
   exact ⟨u, run u (ra u this).1, hr⟩
  | true =>
   rw [hk] at hcv run
   injection hcv with hcv; injection hcv with e1 e2; subst e2
   refine ⟨.tuple #[u, .bool is], ?_, [u, .bool is], rfl, rfl, fun j hj => ?_⟩
   ·cases is with
    | true => exact run _ (ra u (h1 rfl)).2
    | false => rw [h3 (h2 rfl)]; exact run _ (rb (h2 rfl))
   ·match j, hj with
    | 0, _ => exact hr
    | 1, _ => exact ⟨_, rfl, RD.sc (.bool is)⟩
 unfold assertE at he
 simp only at he
 split at he
 ·rename_i k n k2 e hT
  split at he
  ·rename_i hk; subst hk
   refine fin _ (.int k2) (y.isI T k2) false [.d (.sc (.int k2 (y.asI T k2)))] (.int k2 (y.asI T k2)) (hcx.ty _ _ hT) (und_of hcx hT) (by intro ms h; cases h) (fun h => ?_) (fun h v hv' => ?_) (fun hne => ?_) ⟨_, rfl, RD.sc (.int k2 _)⟩ he
   ·cases hv with
    | nilI => cases h
    | one T' s hs =>
     cases s with
     | int k' m =>
      simp only [Thing.isI, Bool.and_eq_true, beq_iff_eq, decide_eq_true_eq] at h
      obtain ⟨rfl, rfl⟩ := h
      simp [Thing.asI, Sc.val]
     | _ => cases h
    | val T' u hs => cases h
   ·subst hv'
    cases hv with
    | one _ s hs =>
     cases s <;> simp [oneOk, hT] at hs
     subst hs; simp [Thing.isI] at h
    | val _ u hs => simp [threeOk, hT] at hs
   ·have : y.asI T k2 = 0 := by
      cases hv with
      | nilI => rfl
      | one T' s h =>
       cases s with
       | int k' m =>
        have : (T' == T) = false := by rw [beq_eq_false_iff_ne]; intro e; exact hne _ (by rw [e])
        simp [Thing.asI, this]
       | _ => rfl
      | val T' u h => rfl
    rw [this]; rfl
  ·cases he
 ·rename_i n e hT
  refine fin _ .bool (y.isB T) false [.d (.b (y.asB T))] (.bool (y.asB T)) (hcx.ty _ _ hT) (und_of hcx hT) (by intro ms h; cases h) (fun h => ?_) (fun h v hv' => ?_) (fun hne => ?_) ⟨_, rfl, RD.sc (.bool _)⟩ he
  ·cases hv with
   | nilI => cases h
   | one T' s hs =>
    cases s with
    | bool b =>
     simp only [Thing.isB, beq_iff_eq] at h
     obtain rfl := h
     simp [Thing.asB, Sc.val]
    | _ => cases h
   | val T' u hs => cases h
  ·subst hv'
   cases hv with
   | one _ s hs =>
    cases s <;> simp [oneOk, hT] at hs
    simp [Thing.isB] at h
   | val _ u hs => simp [threeOk, hT] at hs
  ·have : y.asB T = false := by
     cases hv with
     | nilI => rfl
     | one T' s h =>
      cases s with
      | bool b =>
       have : (T' == T) = false := by rw [beq_eq_false_iff_ne]; intro e; exact hne _ (by rw [e])
       simp [Thing.asB, this]
      | _ => rfl
     | val T' u h => rfl
   rw [this]; rfl
 ·rename_i n z e hT
  split at he
  ·rename_i hz; subst hz
   refine fin _ .string (y.isS T) false [.d (.s (y.asS T))] (.string (y.asS T)) (hcx.ty _ _ hT) (und_of hcx hT) (by intro ms h; cases h) (fun h => ?_) (fun h v hv' => ?_) (fun hne => ?_) ⟨_, rfl, RD.sc (.str _)⟩ he
   ·cases hv with
    | nilI => cases h
    | one T' s hs =>
     cases s with
     | str b =>
      simp only [Thing.isS, beq_iff_eq] at h
      obtain rfl := h
      simp [Thing.asS, Sc.val]
     | _ => cases h
    | val T' u hs => cases h
   ·subst hv'
    cases hv with
    | one _ s hs =>
     cases s <;> simp [oneOk, hT] at hs
     simp [Thing.isS] at h
    | val _ u hs => simp [threeOk, hT] at hs
   ·have : y.asS T = ByteArray.empty := by
      cases hv with
      | nilI => rfl
      | one T' s h =>
       cases s with
       | str b =>
        have : (T' == T) = false := by rw [beq_eq_false_iff_ne]; intro e; exact hne _ (by rw [e])
        simp [Thing.asS, this]
       | _ => rfl
      | val T' u h => rfl
    rw [this]; rfl
  ·cases he
 ·rename_i fs z e hT
  split at he
  ·rename_i hz; subst hz
   obtain ⟨fields, hu, _⟩ := und_of hcx hT
   refine fin _ (.struct fields) (y.isV T) true _ (.agg (valCells (y.asV T))) (hcx.ty _ _ hT) hu (by intro ms h; cases h) (fun h => ?_) (fun h v hv' => ?_) (fun hne => ?_) ⟨(valCells (y.asV T)).toList, by simp, ?_⟩ he
   ·cases hv with
    | nilI => cases h
    | one T' s hs => cases h
    | val T' u hs =>
     simp only [Thing.isV, beq_iff_eq] at h
     obtain rfl := h
     simp [Thing.asV]
   ·subst hv'
    cases hv with
    | one _ s hs => cases s <;> simp [oneOk, hT] at hs
    | val _ u hs => simp [Thing.isV] at h
   ·have : y.asV T = default := by
      cases hv with
      | nilI => rfl
      | one T' s h => rfl
      | val T' u h =>
       have : (T' == T) = false := by rw [beq_eq_false_iff_ne]; intro e; exact hne _ (by rw [e])
       simp [Thing.asV, this]
    rw [this]; rfl
   ·refine RCs_map_d (by simp [valCells, enc]) (fun j hj => ?_)
    match j, hj with
    | 0, _ => exact RD.sc (.int _ _)
    | 1, _ => exact RD.sc (.int _ _)
    | 2, _ => exact RD.sc (.str _)
  ·cases he
 ·cases he

theorem gives_extract (hi : Inv cx ok w0 ρ st a w) {o : Oper} {x : Operand} {n : Nat} {vs : List Arg} {g : Arg} (ho : o.op = .extract x n) (hx : opv st.env x = .tup vs) (hg : vs[n]? = some g) : Gives P cx ok w0 ρ st a w o (.v g.1 g.2) := by
 have hr := RV_op hi x
 rw [hx] at hr
 obtain ⟨xs, e1, e2, h⟩ := hr
 have hn : n < vs.length := by
  rcases Nat.lt_or_ge n vs.length with h | h
  ·exact h
  ·rw [List.getElem?_eq_none h] at hg; cases hg
 have hn' : n < xs.length := by omega
 have hh := h n hn
 have e3 : vs.getD n (false, []) = g := by rw [List.getD_eq_getElem?_getD, hg]; rfl
 rw [e3] at hh
 refine ⟨xs.getD n undef, ?_, hh⟩
 have e4 : xs.getD n undef = xs[n] := by simp [List.getD_eq_getElem?_getD, hn']
 rw [e4]
 simp [execOp, ho, e1, Instr.extract, hn']

theorem gives_makeFunc (hi : Inv cx ok w0 ρ st a w) {o : Oper} {f : FuncId} {first caps : Array Operand} {v : V} (ho : o.op = .makeFunc (.func f) first caps)
    (he : (match first.toList.map (opv st.env), caps.toList.map (opv st.env) with
     | [], [] => pure1 st.heap (.v false [.d (.fn f [] [])])
     | _, _ => match ptrs (first.toList.map (opv st.env)), ptrs (caps.toList.map (opv st.env)) with
      | some x, some y => pure1 st.heap (.v false [.clo f x y])
      | _, _ => match refs (first.toList.map (opv st.env)), refs (caps.toList.map (opv st.env)) with
       | some x, some y => pure1 st.heap (.v false [.d (.fn f x y)])
       | _, _ => none) = some { ok := true, val := v, heap := st.heap }) : Gives P cx ok w0 ρ st a w o v := by
 have run : (execOp a.eval o).run P w = .ok (.value (.func (.func f) (first.map a.eval) (caps.map a.eval))) w := by simp [execOp, ho, Instr.makeFunc]
 have pt : ∀ (l : List Operand) (ns : List Nat), ptrs (l.map (opv st.env)) = some ns → ptrsTo ρ ns (l.map a.eval) := by
  intro l
  induction l with
  | nil => intro ns h; simp only [List.map_nil, ptrs] at h; injection h with h; subst h; exact ⟨rfl, fun i hi => by simp at hi⟩
  | cons x l ih =>
   intro ns h
   have hx := RV_op hi x
   rw [List.map_cons] at h
   unfold ptrs at h
   split at h
   ·cases ‹_ = []›
   ·rename_i n r heq
    injection heq with h1 h2
    subst h2
    split at h
    ·rename_i ns' hns
     injection h with h; subst h
     rw [h1] at hx
     obtain ⟨b, hb, hv⟩ := RV_c hx
     have := ih ns' hns
     refine ⟨by simp [this.1], fun i hi => ?_⟩
     cases i with
     | zero => exact ⟨b, hb, hv⟩
     | succ i => simpa using this.2 i (by simpa using hi)
    ·cases h
   ·cases h
 have rf : ∀ (l : List Operand) (ns : List (List D)), refs (l.map (opv st.env)) = some ns → (l.map a.eval).length = ns.length ∧ ∀ i, i < ns.length → RD cx (okc ok w0.heap.size st.heap ρ) w (.ref (ns.getD i [])) ((l.map a.eval).getD i undef) := by
  intro l
  induction l with
  | nil => intro ns h; simp only [List.map_nil, refs] at h; injection h with h; subst h; exact ⟨rfl, fun i hi => by simp at hi⟩
  | cons x l ih =>
   intro ns h
   have hx := RV_op hi x
   rw [List.map_cons] at h
   unfold refs at h
   split at h
   ·cases ‹_ = []›
   ·rename_i n r heq
    injection heq with h1 h2
    subst h2
    split at h
    ·rename_i ns' hns
     injection h with h; subst h
     rw [h1] at hx
     have hv := RV_c hx
     have := ih ns' hns
     refine ⟨by simp [this.1], fun i hi => ?_⟩
     cases i with
     | zero => exact hv
     | succ i => simpa using this.2 i (by simpa using hi)
    ·cases h
   ·cases h
 refine ⟨_, run, ?_⟩
 have e1 : first.map a.eval = (first.toList.map a.eval).toArray := by apply Array.ext'; simp
 have e2 : caps.map a.eval = (caps.toList.map a.eval).toArray := by apply Array.ext'; simp
 rw [e1, e2]
 split at he
 ·rename_i h1 h2
  simp only [pure1, Option.some.injEq, Eff.mk.injEq, true_and, and_true] at he
  subst he
  rw [List.map_eq_nil_iff] at h1 h2
  rw [h1, h2]
  exact ⟨_, rfl, RD.fn f [] [] [] [] rfl rfl (fun i hi => by simp at hi) (fun i hi => by simp at hi)⟩
 ·split at he
  ·rename_i x y h1 h2
   simp only [pure1, Option.some.injEq, Eff.mk.injEq, true_and, and_true] at he
   subst he
   exact ⟨_, rfl, _, _, rfl, pt _ _ h1, pt _ _ h2⟩
  ·split at he
   ·rename_i x y h1 h2
    simp only [pure1, Option.some.injEq, Eff.mk.injEq, true_and, and_true] at he
    subst he
    obtain ⟨l1, r1⟩ := rf _ _ h1
    obtain ⟨l2, r2⟩ := rf _ _ h2
    exact ⟨_, rfl, RD.fn f x y _ _ l1 l2 r1 r2⟩
   ·cases he
end
end Go.Eng
/- Operations that read and reckon alone, sixth part: slices' parts, lengths. -/
set_option linter.unusedVariables false
set_option linter.unusedSimpArgs false
namespace Go.Eng
open Go Go.RowKit

def isB : Option Value → Option Int → Prop
 | none, none => True
 | some v, some n => ∃ k, v = .int k n
 | _, _ => False

section
variable {P : Program} {cx : Cx} {ok : Nat → Prop} {w0 : World} {ρ : Rho} {st : St} {a : Act} {w : World}

theorem isB_of (hi : Inv cx ok w0 ρ st a w) {x : Option Operand} {n : Option Int} (h : bnd st.env x = some n) : isB (x.map a.eval) n := by
 unfold bnd at h
 split at h
 ·injection h with h; subst h; trivial
 ·rename_i x
  split at h
  ·rename_i k m hx
   injection h with h; subst h
   exact ⟨k, op_sc hi hx⟩
  ·cases h

theorem run_bound {k : IntKind} {n : Int} {y : Nat} {code : BoundsCode} (h0 : 0 ≤ n) (h1 : n ≤ y) : (Instr.sliceBound (.int k n) y code).run P w = .ok n.toNat w := by
 simp [Instr.sliceBound, asIntOf, h0, h1]

theorem run_sliceBounds {s : Bool} {len cap : Nat} {lo hi mx : Option Int} {lv hv mv : Option Value} (hl : isB lv lo) (hh : isB hv hi) (hm : isB mv mx) (hle : len ≤ cap) {l h : Nat} {f : Bool} (hc : cut len lo hi mx = (true, l, h, f)) :
    ∃ m, (Instr.sliceBounds s len cap lv hv mv).run P w = .ok (l, h, m) w ∧ l ≤ h ∧ h ≤ m ∧ m ≤ cap ∧ h ≤ len ∧ (mx = none → m = cap) ∧ (mx ≠ none → f = true → m = h) ∧ (mx = none → f = true → h = len) ∧ (lo = none → l = 0) := by
 unfold cut at hc
 simp only [Prod.mk.injEq, Bool.and_eq_true] at hc
 obtain ⟨⟨⟨c1, c2⟩, c3⟩, e1, e2, e3⟩ := hc
 cases mx with
 | none =>
  cases mv with
  | some v => exact hm.elim
  | none =>
   cases hi with
   | none =>
    cases hv with
    | some v => exact hh.elim
    | none =>
     simp only at e2
     subst e2
     cases lo with
     | none =>
      cases lv with
      | some v => exact hl.elim
      | none =>
       simp only at e1; subst e1
       exact ⟨cap, by simp [Instr.sliceBounds], Nat.zero_le _, hle, Nat.le_refl _, Nat.le_refl _, fun _ => rfl, fun h => absurd rfl h, fun _ _ => rfl, fun _ => rfl⟩
     | some n =>
      cases lv with
      | none => exact hl.elim
      | some v =>
       obtain ⟨k, rfl⟩ := hl
       simp only [Bool.and_eq_true, decide_eq_true_eq] at c1
       simp only [Option.getD_some] at e1
       subst e1
       exact ⟨cap, by simp [Instr.sliceBounds, run_bound c1.1 c1.2], by omega, hle, Nat.le_refl _, Nat.le_refl _, fun _ => rfl, fun h => absurd rfl h, fun _ _ => rfl, (by intro h; cases h)⟩
   | some p =>
    cases hv with
    | none => exact hh.elim
    | some v =>
     obtain ⟨k2, rfl⟩ := hh
     simp only [Option.getD_none, Bool.and_eq_true, decide_eq_true_eq] at c2
     simp only at e2
     subst e2
     have hb : ∀ code, (Instr.sliceBound (.int k2 p) cap code).run P w = .ok p.toNat w := fun code => run_bound c2.1 (by omega)
     have hf : f = true → p.toNat = len := fun hf => by
      rw [hf] at e3
      simp only [decide_eq_true_eq] at e3
      omega
     cases lo with
     | none =>
      cases lv with
      | some v => exact hl.elim
      | none =>
       simp only at e1; subst e1
       exact ⟨cap, by simp [Instr.sliceBounds, hb], Nat.zero_le _, by omega, Nat.le_refl _, by omega, fun _ => rfl, fun h => absurd rfl h, fun _ => hf, fun _ => rfl⟩
     | some n =>
      cases lv with
      | none => exact hl.elim
      | some v =>
       obtain ⟨k, rfl⟩ := hl
       simp only [Bool.and_eq_true, decide_eq_true_eq] at c1
       simp only [Option.getD_some] at e1
       subst e1
       exact ⟨cap, by simp [Instr.sliceBounds, hb, run_bound (P := P) (w := w) (k := k) (n := n) (y := p.toNat) c1.1 (by omega)], by omega, by omega, Nat.le_refl _, by omega, fun _ => rfl, fun h => absurd rfl h, fun _ => hf, (by intro h; cases h)⟩
 | some m =>
  cases mv with
  | none => exact hm.elim
  | some v =>
   obtain ⟨k3, rfl⟩ := hm
   simp only [Bool.and_eq_true, decide_eq_true_eq] at c3
   cases hi with
   | none => simp at c3
   | some p =>
    cases hv with
    | none => exact hh.elim
    | some v =>
     obtain ⟨k2, rfl⟩ := hh
     simp only [Option.getD_some, Bool.and_eq_true, decide_eq_true_eq] at c2
     simp only at e2
     subst e2
     have hb3 : ∀ code, (Instr.sliceBound (.int k3 m) cap code).run P w = .ok m.toNat w := fun code => run_bound c3.1.1 (by omega)
     have hb : ∀ code, (Instr.sliceBound (.int k2 p) m.toNat code).run P w = .ok p.toNat w := fun code => run_bound c2.1 (by omega)
     have hf : f = true → m.toNat = p.toNat := fun hf => by
      rw [hf] at e3
      simp only [decide_eq_true_eq] at e3
      rw [e3]
     cases lo with
     | none =>
      cases lv with
      | some v => exact hl.elim
      | none =>
       simp only at e1; subst e1
       exact ⟨m.toNat, by simp [Instr.sliceBounds, hb, hb3], Nat.zero_le _, by omega, by omega, by omega, (by intro h; cases h), fun _ => hf, (by intro h; cases h), fun _ => rfl⟩
     | some n =>
      cases lv with
      | none => exact hl.elim
      | some v =>
       obtain ⟨k, rfl⟩ := hl
       simp only [Bool.and_eq_true, decide_eq_true_eq] at c1
       simp only [Option.getD_some] at e1
       subst e1
       exact ⟨m.toNat, by simp [Instr.sliceBounds, hb, hb3, run_bound (P := P) (w := w) (k := k) (n := n) (y := p.toNat) c1.1 (by omega)], by omega, by omega, by omega, by omega, (by intro h; cases h), fun _ => hf, (by intro h; cases h), (by intro h; cases h)⟩

theorem sub_length {α : Type} {l : List α} {p q : Nat} (h : q ≤ l.length) : (sub l p q).length = q - p := by simp [sub]; omega
theorem sub_getD {α : Type} {l : List α} {p q i : Nat} {d : α} (hi : i < q - p) : (sub l p q).getD i d = l.getD (p + i) d := by
 simp [sub, List.getD_eq_getElem?_getD, hi]

theorem RD_sub {nl : Option Bool} {full full' : Bool} {t : ET} {l : List (Ty t)} {A : Option Addr} {len cap p q m : Nat} (h : RD cx ok w (.sl nl full t l) (.slice A len cap)) (h1 : p ≤ q) (h2 : q ≤ m) (h3 : m ≤ cap) (h4 : q ≤ l.length) (hf : full' = true → m = q) :
    RD cx ok w (.sl none full' t (sub l p q)) (.slice (if m = p then A else A.map (·.add (p * width t))) (q - p) (m - p)) := by
 cases h with
 | sl0 _ _ _ _ _ g1 g2 g3 g4 =>
  simp at h4
  subst h4
  have hp : p = 0 := by omega
  subst hp
  simp only [sub, List.drop_nil, List.take_nil, Nat.sub_zero]
  refine RD.sl0 _ _ _ _ _ (fun e => by cases e) (fun e => by cases e) hf (fun hA => ?_)
  split at hA
  ·assumption
  ·cases A with
   | none => have := g4 rfl; omega
   | some _ => cases hA
 | sl _ _ _ _ b off _ vs g0 g1 g2 g3 g4 hc hr =>
  by_cases hpq : p = q
  ·subst hpq
   have e : sub l p p = [] := by simp [sub]
   rw [e, Nat.sub_self]
   refine RD.sl0 _ _ _ _ _ (fun e => by cases e) (fun e => by cases e) (fun e => by have := hf e; omega) (fun hA => ?_)
   split at hA <;> cases hA
  ·have hlt : p < q := by omega
   have hmp : ¬ m = p := by omega
   rw [if_neg hmp]
   have hsl : (sub l p q).length = q - p := sub_length h4
   have hne : sub l p q ≠ [] := fun e => by rw [e] at hsl; simp at hsl; omega
   simp only [Option.map_some, add_plain]
   have key := RD.sl (cx := cx) (ok := ok) (w := w) none full' t (sub l p q) b (off + p * width t) (m - p) (fun i j => vs (p + i) j) hne g1 (by omega) (fun e => by rw [hsl]; have := hf e; omega) (by simp) (fun i j hi hj => ?_) (fun i j hi hj => ?_)
   ·rw [hsl] at key; exact key
   ·rw [hsl] at hi
    have := hc (p + i) j (by omega) hj
    rw [Nat.add_mul] at this
    rw [show off + p * width t + (i * width t + j) = off + (p * width t + i * width t + j) from by omega]
    exact this
   ·rw [hsl] at hi
    have := hr (p + i) j (by omega) hj
    unfold cellAt at this ⊢
    rw [sub_getD hi]
    exact this

theorem gives_sliceS (hcx : CxOk P cx) (hi : Inv cx ok w0 ρ st a w) {o : Oper} {T : TypeId} {x : Operand} {lo hi' : Option Operand} {ln hn : Option Int} {s : ByteArray} {n : Nat} {z : List D} {e : List (Option ET)} {p q : Nat} {f : Bool}
    (ho : o.op = .slice T x lo hi' none) (hlo : bnd st.env lo = some ln) (hhi : bnd st.env hi' = some hn) (hx : opv st.env x = .v false [.d (.sc (.str s))]) (hT : cx.tt T = some ⟨.str, n, z, e⟩) (hc : cut s.size ln hn none = (true, p, q, f)) :
    Gives P cx ok w0 ρ st a w o (.v false [.d (.s (s.extract p q))]) := by
 have hu : P.underlying T = some .string := und_of hcx hT
 obtain ⟨m, hr, _⟩ := run_sliceBounds (P := P) (w := w) (s := false) (mv := none) (isB_of hi hlo) (isB_of hi hhi) (by trivial) (Nat.le_refl _) hc
 refine ⟨.string (s.extract p q), ?_, RV_of_sc (.str _)⟩
 simp [execOp, ho, op_sc hi hx, Sc.val, Instr.sliceAt, run_underlying hu, Instr.slice, hr]

theorem run_sliceAt {T e : TypeId} {i : TI} (hu : P.underlying T = some (.slice e)) (he : TyOk P cx e i) {A : Option Addr} {len cap l h m : Nat} {lv hv mv : Option Value} (hr : (Instr.sliceBounds true len cap lv hv mv).run P w = .ok (l, h, m) w) :
    (Instr.sliceAt T (.slice A len cap) lv hv mv).run P w = .ok (.slice (if m = l then A else A.map (·.add (l * i.size))) (h - l) (m - l)) w := by
 simp [Instr.sliceAt, run_underlying hu, Instr.slice, hr, run_size he]

theorem gives_sliceD (hcx : CxOk P cx) (hi : Inv cx ok w0 ρ st a w) {o : Oper} {T e : TypeId} {x : Operand} {lo hi' mx : Option Operand} {ln hn mn : Option Int} {nl : Option Bool} {full : Bool} {t : ET} {l : List (Ty t)} {n : Nat} {z : List D} {es : List (Option ET)} {p q : Nat} {f : Bool}
    (ho : o.op = .slice T x lo hi' mx) (hlo : bnd st.env lo = some ln) (hhi : bnd st.env hi' = some hn) (hmx : bnd st.env mx = some mn) (hx : opv st.env x = .v false [.d (.sl nl full t l)]) (hT : cx.tt T = some ⟨.slice e t, n, z, es⟩)
    (hc : cut l.length ln hn mn = (true, p, q, f)) : Gives P cx ok w0 ρ st a w o (.v false [.d (.sl none (fullOf mn f full) t (sub l p q))]) := by
 obtain ⟨hu, ie, hie, hsz, _⟩ := und_of hcx hT
 have hv := op_c hi hx
 have hshape : ∃ A cap, a.eval x = .slice A l.length cap ∧ l.length ≤ cap ∧ (full = true → cap = l.length) := by
  generalize a.eval x = xe at hv
  cases hv with
  | sl0 _ _ _ A cap h1 h2 h3 h4 => exact ⟨A, cap, rfl, Nat.zero_le _, h3⟩
  | sl _ _ _ _ b off cap vs h0 h1 h2 h3 h4 hc hr => exact ⟨_, cap, rfl, h2, h3⟩
 obtain ⟨A, cap, hxe, hle, hfull⟩ := hshape
 obtain ⟨m, hr, g1, g2, g3, g4, g5, g6, g7, _⟩ := run_sliceBounds (P := P) (w := w) (s := true) (isB_of hi hlo) (isB_of hi hhi) (isB_of hi hmx) hle hc
 have hrun := run_sliceAt (A := A) hu (hcx.ty _ _ hie) hr
 rw [hsz] at hrun
 rw [hxe] at hv
 refine ⟨_, by simp [execOp, ho, hxe, hrun], RV_of_c (RD_sub hv g1 g2 g3 g4 (fun hf => ?_))⟩
 cases mn with
 | some _ => exact g6 (by simp) hf
 | none =>
  simp only [fullOf, Bool.and_eq_true] at hf
  rw [g5 rfl, hfull hf.1, g7 rfl hf.2]

theorem gives_sliceO (hcx : CxOk P cx) (hi : Inv cx ok w0 ρ st a w) {o : Oper} {T e : TypeId} {x : Operand} {lo hi' mx : Option Operand} {ln hn mn : Option Int} {k : Nat} {full : Bool} {off len : Nat} {t : ET} {n : Nat} {z : List D} {es : List (Option ET)} {p q : Nat} {f : Bool}
    (ho : o.op = .slice T x lo hi' mx) (hlo : bnd st.env lo = some ln) (hhi : bnd st.env hi' = some hn) (hmx : bnd st.env mx = some mn) (hx : opv st.env x = .v false [.own k t full off len]) (hT : cx.tt T = some ⟨.slice e t, n, z, es⟩)
    (hc : cut len ln hn mn = (true, p, q, f)) : Gives P cx ok w0 ρ st a w o (.v false [.own k t (fullOf mn f full) (offOf ln off p) (lenOf ln q p)]) := by
 obtain ⟨hu, ie, hie, hsz, _⟩ := und_of hcx hT
 obtain ⟨A, cap, hxe, hle, hfull, hA⟩ := op_c hi hx
 obtain ⟨m, hr, g1, g2, g3, g4, g5, g6, g7, g8⟩ := run_sliceBounds (P := P) (w := w) (s := true) (isB_of hi hlo) (isB_of hi hhi) (isB_of hi hmx) hle hc
 have hrun := run_sliceAt (A := A) hu (hcx.ty _ _ hie) hr
 rw [hsz] at hrun
 have e1 : (offOf ln off p) = off + p := by
  cases ln with
  | none => simp [offOf, lenOf, g8 rfl]
  | some _ => rfl
 have e2 : (lenOf ln q p) = q - p := by
  cases ln with
  | none => simp [offOf, lenOf, g8 rfl]
  | some _ => rfl
 rw [e1, e2]
 have hex : (execOp a.eval o).run P w = .ok (.value (.slice (if m = p then A else A.map (·.add (p * width t))) (q - p) (m - p))) w := by simp [execOp, ho, hxe, hrun]
 refine ⟨_, hex, RV_of_c ⟨if m = p then A else A.map (·.add (p * width t)), m - p, rfl, by omega, fun hf => ?_, fun hne => ?_⟩⟩
 ·cases mn with
  | some _ => rw [g6 (by simp) hf]
  | none =>
   simp only [fullOf, Bool.and_eq_true] at hf
   rw [g5 rfl, hfull hf.1, g7 rfl hf.2]
 ·obtain ⟨b, hb, hA', hroom⟩ := hA (by omega)
  refine ⟨b, hb, ?_, ?_⟩
  ·rw [if_neg (by omega), hA', Option.map_some, add_plain, Nat.add_mul]
  ·refine Nat.le_trans (Nat.mul_le_mul_right _ ?_) hroom
   omega

theorem gives_len (hcx : CxOk P cx) (hi : Inv cx ok w0 ρ st a w) {o : Oper} {x : Operand} {T : TypeId} {ts : List TypeId} {c : C} {n : Nat} {cl : Call} (ho : o.op = .call cl) (hb : cl.callee = .builtin .len) (hargs : cl.args.toList = [x]) (hts : cl.argTypes.toList = T :: ts) (hx : opv st.env x = .v false [c])
    (hn : lenC c = some n) (hT : (∃ m z e, cx.tt T = some ⟨.str, m, z, e⟩ ∧ ∃ s, c = .d (.sc (.str s))) ∨ (∃ e t m z es, cx.tt T = some ⟨.slice e t, m, z, es⟩ ∧ ∀ s, c ≠ .d (.sc (.str s)))) : Gives P cx ok w0 ρ st a w o (.i n) := by
 have hv := op_c hi hx
 have ea : cl.args = #[x] := Array.toList_inj.1 hargs
 have et : cl.argTypes[0]? = some T := by rw [← Array.getElem?_toList, hts]; rfl
 refine ⟨.int .i64 n, ?_, RV_of_sc (.int _ _)⟩
 have hl : (Builtin.len_ cl.argTypes o.type #[a.eval x]).run P w = .ok (.int .i64 n) w := by
  rcases hT with ⟨m, z, e, hT, s, rfl⟩ | ⟨e, t, m, z, es, hT, hc⟩
  ·have hu : P.underlying T = some .string := und_of hcx hT
   simp only [lenC, Option.some.injEq] at hn
   subst hn
   generalize a.eval x = xe at hv
   cases hv
   simp [Builtin.len_, et, Sc.val, run_underlying hu, goInt]
  ·have hu : P.underlying T = some (.slice e) := (und_of hcx hT).1
   have : ∃ A cap, a.eval x = .slice A n cap := by
    cases c with
    | d y =>
     generalize a.eval x = xe at hv
     cases hv with
     | sc s => cases s with
      | str s => exact absurd rfl (hc s)
      | _ => cases hn
     | nils => simp only [lenC, Option.some.injEq] at hn; subst hn; exact ⟨_, _, rfl⟩
     | sl0 _ _ _ A cap h1 h2 h3 h4 => simp only [lenC, List.length_nil, Option.some.injEq] at hn; subst hn; exact ⟨_, _, rfl⟩
     | sl _ _ _ _ b off cap vs h0 h1 h2 h3 h4 hc hr => simp only [lenC, Option.some.injEq] at hn; subst hn; exact ⟨_, _, rfl⟩
     | _ => cases hn
    | own k t' full off len =>
     obtain ⟨A, cap, hxe, _⟩ := hv
     simp only [lenC, Option.some.injEq] at hn; subst hn
     exact ⟨A, cap, hxe⟩
    | _ => cases hn
   obtain ⟨A, cap, hxe⟩ := this
   simp [Builtin.len_, et, hxe, run_underlying hu, goInt]
 simp [execOp, ho, resolve, hb, ea, invoke, builtin, hl]

theorem gives_max (hi : Inv cx ok w0 ρ st a w) {o : Oper} {x y : Operand} {k : IntKind} {p q : Int} {cl : Call} (ho : o.op = .call cl) (hb : cl.callee = .builtin .max) (hargs : cl.args.toList = [x, y]) (hx : opv st.env x = .v false [.d (.sc (.int k p))]) (hy : opv st.env y = .v false [.d (.sc (.int k q))]) :
    Gives P cx ok w0 ρ st a w o (.v false [.d (.sc (.int k (if q > p then q else p)))]) := by
 have ea : cl.args = #[x, y] := Array.toList_inj.1 hargs
 exact ⟨.int k (if q > p then q else p), by simp [execOp, ho, resolve, hb, ea, invoke, builtin, Builtin.max_, Builtin.max2, op_sc hi hx, op_sc hi hy, Sc.val], RV_of_sc (.int _ _)⟩
theorem gives_min (hi : Inv cx ok w0 ρ st a w) {o : Oper} {x y : Operand} {k : IntKind} {p q : Int} {cl : Call} (ho : o.op = .call cl) (hb : cl.callee = .builtin .min) (hargs : cl.args.toList = [x, y]) (hx : opv st.env x = .v false [.d (.sc (.int k p))]) (hy : opv st.env y = .v false [.d (.sc (.int k q))]) :
    Gives P cx ok w0 ρ st a w o (.v false [.d (.sc (.int k (if q < p then q else p)))]) := by
 have ea : cl.args = #[x, y] := Array.toList_inj.1 hargs
 exact ⟨.int k (if q < p then q else p), by simp [execOp, ho, resolve, hb, ea, invoke, builtin, Builtin.min_, Builtin.min2, op_sc hi hx, op_sc hi hy, Sc.val], RV_of_sc (.int _ _)⟩
end
end Go.Eng
/- Literals of structs; what is zero. -/
set_option linter.unusedVariables false
set_option linter.unusedSimpArgs false
namespace Go.Eng
open Go Go.RowKit

theorem putL_length {α : Type} : ∀ (l : List α) (cs : List α) (off : Nat), (putL cs off l).length = cs.length
 | [], cs, off => rfl
 | x :: l, cs, off => by simp only [putL]; rw [putL_length l]; simp

theorem fold_put : ∀ (l : List Value) (k : Nat) (cells : Array Value) (off : Nat),
    ((l.zipIdx k).foldl (fun cs (p : Value × Nat) => cs.setIfInBounds (off + p.2) p.1) cells).toList = putL cells.toList (off + k) l
 | [], k, cells, off => rfl
 | x :: l, k, cells, off => by
  simp only [List.zipIdx_cons, List.foldl_cons, putL]
  rw [fold_put l (k + 1)]
  simp [Nat.add_assoc]

theorem mapM_some {α β : Type} (g : α → Option β) : ∀ (l : List α) (r : List β), l.mapM g = some r → ∀ (i : Nat) (x : α), l[i]? = some x → ∃ y, g x = some y ∧ r[i]? = some y
 | [], r, h, i, x, hx => by simp at hx
 | a :: l, r, h, i, x, hx => by
  simp only [List.mapM_cons, Option.bind_eq_bind, Option.pure_def] at h
  cases ha : g a with
  | none => rw [ha] at h; simp at h
  | some b =>
   cases hr : l.mapM g with
   | none => rw [ha, hr] at h; simp at h
   | some rest =>
    rw [ha, hr] at h
    simp at h
    subst h
    cases i with
    | zero => simp at hx; subst hx; exact ⟨b, ha, rfl⟩
    | succ i => simpa using mapM_some g l rest hr i x (by simpa using hx)

section
variable {P : Program} {cx : Cx} {ok : Nat → Prop} {w0 : World} {ρ : Rho} {st : St} {a : Act} {w : World}

theorem RCs_set {cs : List C} {vs : List Value} {c : C} {v : Value} (j : Nat) (h : RCs cx ρ ok w cs vs) (hc : RC cx ρ ok w c v) : RCs cx ρ ok w (cs.set j c) (vs.set j v) := by
 refine ⟨by simp [h.1], fun q hq => ?_⟩
 have hq' : q < cs.length := by simpa using hq
 have hv' : q < vs.length := by rw [h.1]; exact hq'
 by_cases e : j = q
 ·subst e; simpa [List.getD_eq_getElem?_getD, List.getElem?_set, hq', hv'] using hc
 ·have := h.2 q hq'
  simpa [List.getD_eq_getElem?_getD, List.getElem?_set, e] using this

theorem RCs_putL : ∀ (ys : List C) (us : List Value) (cs : List C) (vs : List Value) (off : Nat), RCs cx ρ ok w cs vs → RCs cx ρ ok w ys us → RCs cx ρ ok w (putL cs off ys) (putL vs off us)
 | [], us, cs, vs, off, h, hy => by
  have : us = [] := by have := hy.1; simpa using this
  subst this; exact h
 | y :: ys, us, cs, vs, off, h, hy => by
  obtain ⟨u, us', rfl, h1, h2⟩ := RCs_inv hy
  exact RCs_putL ys us' _ _ (off + 1) (RCs_set off h h1) h2

theorem RD_zero {d : D} (h : zeroD d) : RD cx ok w d (zval d) := by
 cases d with
 | sc s => exact RD.sc s
 | sl nl full t l =>
  obtain ⟨h1, rfl⟩ := h
  exact RD.sl0 _ _ _ _ _ (fun _ => rfl) (fun e => by rcases h1 with h1 | h1 <;> rw [h1] at e <;> cases e) (fun _ => rfl) (fun _ => rfl)
 | th x => cases h; exact RD.nilI
 | nilf => exact RD.nilf
 | _ => exact h.elim

theorem RCs_zero {T : TypeId} {i : TI} (ht : TyOk P cx T i) : RCs cx ρ ok w (i.zero.map .d) (i.zero.map zval) :=
 RCs_map_d (by simp) (fun j hj => by
  have e1 : (i.zero.map zval).getD j undef = zval (i.zero.getD j .nils) := by simp [List.getD_eq_getElem?_getD, hj]
  rw [e1]
  exact RD_zero (ht.zok _ (getD_mem hj)))

theorem RA_cells {g : Bool} {cs : List C} {x : Value} (h : RA cx ρ ok w (g, cs) x) : ∃ vs : List Value, x.cells = vs.toArray ∧ RCs cx ρ ok w cs vs ∧ x = mkv g vs := by
 cases g with
 | true => obtain ⟨vs, rfl, h2⟩ := h; exact ⟨vs, rfl, h2, rfl⟩
 | false =>
  obtain ⟨c, rfl, h2⟩ := h
  refine ⟨[x], ?_, RCs_cons h2 RCs_nil, rfl⟩
  have := RC_one h2
  cases x <;> first | rfl | cases this

theorem fill_ok (hcx : CxOk P cx) (hi : Inv cx ok w0 ρ st a w) {T : TypeId} {fields : Array Field} {places : List (Nat × Nat)} (hu : P.underlying T = some (.struct fields))
    (hp : fields.toList.mapM (fun f => (P.info? f.type).map fun i => (f.offset, i.size)) = some places) :
    ∀ (parts : List (Nat × Operand)) (cs cs' : List C) (vs : List Value), fillB cx T st.env parts cs = some cs' → RCs cx ρ (okc ok w0.heap.size st.heap ρ) w cs vs →
     ∃ vs' : List Value, Instr.fill (places.toArray[·]?) vs.toArray (parts.map fun (i, x) => (i, a.eval x)) = some vs'.toArray ∧ RCs cx ρ (okc ok w0.heap.size st.heap ρ) w cs' vs'
 | [], cs, cs', vs, h, hr => by simp only [fillB, Option.some.injEq] at h; subst h; exact ⟨vs, rfl, hr⟩
 | (i, x) :: r, cs, cs', vs, h, hr => by
  unfold fillB at h
  split at h
  ·rename_i off F hf
   split at h
   ·rename_i fi g ys hF hn
    split at h
    ·rename_i hc
     simp only [Bool.and_eq_true, beq_iff_eq, decide_eq_true_eq] at hc
     obtain ⟨fields', fd, hu', hfd, rfl, rfl⟩ := field_of hcx hf
     rw [hu] at hu'; injection hu' with hu'; injection hu' with hu'; subst hu'
     have hx := RV_norm (T := fd.type) (RV_op hi x)
     rw [hn] at hx
     obtain ⟨us, e1, h2, _⟩ := RA_cells hx
     obtain ⟨y, hy, hpl⟩ := mapM_some _ _ _ hp i fd (by simpa using hfd)
     obtain ⟨inf, hinf, hsz, _⟩ := (hcx.ty _ _ hF).info
     rw [hinf] at hy
     simp only [Option.map_some, Option.some.injEq] at hy
     subst hy
     have hul : us.length = ys.length := h2.1
     have hle := hc.2
     obtain ⟨vs', g1, g2⟩ := fill_ok hcx hi hu hp r _ cs' _ h (RCs_putL ys us cs vs fd.offset hr h2)
     refine ⟨vs', ?_, g2⟩
     have hvl : vs.length = cs.length := hr.1
     have hpl' : places.toArray[i]? = some (fd.offset, inf.size) := by simpa using hpl
     simp only [List.map_cons, Instr.fill, hpl', e1, List.size_toArray]
     have hc1 : (us.length != inf.size || decide (fd.offset + us.length > vs.length)) = false := by
      simp; omega
     have hzip : (us.toArray.zipIdx.foldl (fun (cs : Array Value) (x : Value × Nat) => cs.setIfInBounds (fd.offset + x.2) x.1) vs.toArray) = (putL vs fd.offset us).toArray := by
      apply Array.ext'
      have := fold_put us 0 vs.toArray fd.offset
      simpa using this
     rw [if_neg]
     ·rw [hzip]; exact g1
     ·simp; omega
    ·cases h
   ·cases h
  ·cases h

theorem gives_build (hcx : CxOk P cx) (hi : Inv cx ok w0 ρ st a w) {o : Oper} {T : TypeId} {parts : Array (Nat × Operand)} {fs : List (Nat × TypeId)} {n : Nat} {z : List D} {e : List (Option ET)} {cs : List C} (ho : o.op = .build T parts)
    (hT : cx.tt T = some ⟨.struct fs, n, z, e⟩) (hf : fillB cx T st.env parts.toList (z.map .d) = some cs) : Gives P cx ok w0 ρ st a w o (.v true cs) := by
 have ht := hcx.ty _ _ hT
 obtain ⟨fields, hu, _, hp⟩ := und_of hcx hT
 obtain ⟨places, hp⟩ := Option.isSome_iff_exists.1 hp
 obtain ⟨inf, hinf, hsz, hz, _⟩ := ht.info
 obtain ⟨vs', g1, g2⟩ := fill_ok hcx hi hu hp parts.toList _ cs _ hf (RCs_zero ht)
 refine ⟨.agg vs'.toArray, ?_, vs', rfl, g2⟩
 have hb : P.built T (parts.map fun (i, x) => (i, a.eval x)).toList = some vs'.toArray := by
  simp only [Program.built, hinf, hu, hz, hp]
  rw [Array.toList_map]
  exact g1
 simp [execOp, ho, run_build w T _ _ hb]

theorem fillA_ok (hcx : CxOk P cx) (hi : Inv cx ok w0 ρ st a w) {F : TypeId} {fi : TI} {n : Nat} (hn : n = fi.size) :
    ∀ (parts : List (Nat × Operand)) (cs cs' : List C) (vs : List Value), fillA cx F fi st.env parts cs = some cs' → RCs cx ρ (okc ok w0.heap.size st.heap ρ) w cs vs →
     ∃ vs' : List Value, Instr.fill (fun i => some (i * n, n)) vs.toArray (parts.map fun (i, x) => (i, a.eval x)) = some vs'.toArray ∧ RCs cx ρ (okc ok w0.heap.size st.heap ρ) w cs' vs'
 | [], cs, cs', vs, h, hr => by simp only [fillA, Option.some.injEq] at h; subst h; exact ⟨vs, rfl, hr⟩
 | (i, x) :: r, cs, cs', vs, h, hr => by
  unfold fillA at h
  split at h
  ·rename_i g ys hnm
   split at h
   ·rename_i hc
    simp only [Bool.and_eq_true, beq_iff_eq, decide_eq_true_eq] at hc
    have hx := RV_norm (T := F) (RV_op hi x)
    rw [hnm] at hx
    obtain ⟨us, e1, h2, _⟩ := RA_cells hx
    have hul : us.length = ys.length := h2.1
    have hle := hc.2
    subst hn
    obtain ⟨vs', g1, g2⟩ := fillA_ok hcx hi rfl r _ cs' _ h (RCs_putL ys us cs vs (i * fi.size) hr h2)
    refine ⟨vs', ?_, g2⟩
    have hvl : vs.length = cs.length := hr.1
    simp only [List.map_cons, Instr.fill, e1, List.size_toArray]
    have hzip : (us.toArray.zipIdx.foldl (fun (cs : Array Value) (x : Value × Nat) => cs.setIfInBounds (i * fi.size + x.2) x.1) vs.toArray) = (putL vs (i * fi.size) us).toArray := by
     apply Array.ext'
     have := fold_put us 0 vs.toArray (i * fi.size)
     simpa using this
    rw [if_neg]
    ·rw [hzip]; exact g1
    ·simp; omega
   ·cases h
  ·cases h

theorem gives_buildA (hcx : CxOk P cx) (hi : Inv cx ok w0 ρ st a w) {o : Oper} {T F : TypeId} {fi : TI} {parts : Array (Nat × Operand)} {m n : Nat} {z : List D} {e : List (Option ET)} {cs : List C} (ho : o.op = .build T parts)
    (hT : cx.tt T = some ⟨.array m F, n, z, e⟩) (hF : cx.tt F = some fi) (hf : fillA cx F fi st.env parts.toList (z.map .d) = some cs) : Gives P cx ok w0 ρ st a w o (.v true cs) := by
 have ht := hcx.ty _ _ hT
 have hu : P.underlying T = some (.array m F) := und_of hcx hT
 obtain ⟨inf, hinf, hsz, hz, _⟩ := ht.info
 obtain ⟨inf2, hinf2, hsz2, _, _⟩ := (hcx.ty _ _ hF).info
 obtain ⟨vs', g1, g2⟩ := fillA_ok hcx hi hsz2 parts.toList _ cs _ hf (RCs_zero ht)
 refine ⟨.agg vs'.toArray, ?_, vs', rfl, g2⟩
 have hb : P.built T (parts.map fun (i, x) => (i, a.eval x)).toList = some vs'.toArray := by
  simp only [Program.built, hinf, hu, hz, hinf2]
  rw [Array.toList_map]
  exact g1
 simp [execOp, ho, run_build w T _ _ hb]
end
end Go.Eng
/- Operations that make memory, first part: variables, stores. -/
set_option linter.unusedVariables false
set_option linter.unusedSimpArgs false
namespace Go.Eng
open Go Go.RowKit

def Does (P : Program) (cx : Cx) (ok : Nat → Prop) (w0 : World) (ρ : Rho) (st : St) (a : Act) (w : World) (nm : Nat) (o : Oper) (v : V) (h' : Heap) : Prop :=
 ∃ ρ' w' nx x, (execOp a.eval o).run P w = .ok nx w' ∧ (nx = .value x ∨ (nx = .skip ∧ x = undef)) ∧ (∀ n, n ≠ nm → ρ' n = ρ n) ∧
  (∀ N, Ext N (okc ok w0.heap.size st.heap ρ) (okc ok w0.heap.size h' ρ') ρ ρ' w w') ∧ HInv cx ok w0 ρ' h' w' ∧ RV cx ρ' (okc ok w0.heap.size h' ρ') w' v x

theorem mkv_cells {g : Bool} {vs : List Value} (h : g = false → ∃ v, vs = [v] ∧ v.oneCell' = true) : (mkv g vs).cells = vs.toArray := by
 cases g with
 | true => rfl
 | false =>
  obtain ⟨v, rfl, hv⟩ := h rfl
  show v.cells = _
  cases v <;> first | rfl | cases hv

theorem putL_eq {α : Type} : ∀ (l cs : List α) (off : Nat), off + l.length ≤ cs.length → putL cs off l = cs.take off ++ l ++ cs.drop (off + l.length)
 | [], cs, off, h => by simp [putL]
 | x :: l, cs, off, h => by
  simp only [List.length_cons] at h
  rw [putL, putL_eq l _ _ (by simp; omega)]
  have h1 : (cs.set off x).take (off + 1) = cs.take off ++ [x] := by
   rw [List.take_set, List.take_succ_eq_append_getElem (by omega)]
   rw [List.set_append_right _ _ (by rw [List.length_take]; omega)]
   simp [Nat.min_eq_left (show off ≤ cs.length by omega)]
  have h2 : (cs.set off x).drop (off + 1 + l.length) = cs.drop (off + (x :: l).length) := by
   rw [List.drop_set_of_lt (by omega)]
   simp only [List.length_cons]
   congr 1
   omega
  rw [h1, h2]
  simp

theorem putL_getD {α : Type} (d : α) : ∀ (l cs : List α) (off q : Nat), off + l.length ≤ cs.length → (putL cs off l).getD q d = if off ≤ q ∧ q < off + l.length then l.getD (q - off) d else cs.getD q d
 | [], cs, off, q, h => by
  rw [if_neg (by simp only [List.length_nil]; omega)]; rfl
 | x :: l, cs, off, q, h => by
  simp only [List.length_cons] at h ⊢
  rw [putL, putL_getD d l _ (off + 1) q (by simp; omega)]
  by_cases h1 : q = off
  ·subst h1
   rw [if_neg (by omega), if_pos (by omega), Nat.sub_self]
   simp [List.getD_eq_getElem?_getD, List.getElem?_set, show q < cs.length by omega]
  ·by_cases h2 : off + 1 ≤ q ∧ q < off + 1 + l.length
   ·rw [if_pos h2, if_pos (by omega)]
    obtain ⟨m, hm⟩ : ∃ m, q - off = m + 1 := ⟨q - off - 1, by omega⟩
    rw [hm, show q - (off + 1) = m from by omega]
    rfl
   ·rw [if_neg h2, if_neg (by omega)]
    simp [List.getD_eq_getElem?_getD, List.getElem?_set, show ¬ off = q from fun e => h1 e.symm]

section
variable {P : Program} {cx : Cx} {ok : Nat → Prop} {w0 : World} {ρ : Rho} {st : St} {a : Act} {w : World}

theorem does_new (hi : Inv cx ok w0 ρ st a w) {nm : Nat} (hρ : ρ nm = none) (hl : nm < st.heap.length) (hk : lk st.heap nm = none) {o : Oper} {T : TypeId} {cs : List C} {vs : List Value} (hr : RCs cx ρ (okc ok w0.heap.size st.heap ρ) w cs vs)
    (hrun : (execOp a.eval o).run P w = .ok (.value (.pointer (some ⟨w.heap.size, 0, none⟩))) (w.alloc (.cells vs.toArray T))) :
    Does P cx ok w0 ρ st a w nm o (.v false [.ptr nm 0]) (st.heap.set nm (some (.box T cs))) := by
 have hx := ext_new hi.hv hρ (.cells vs.toArray T) (some (.box T cs))
 refine ⟨upd ρ nm (some w.heap.size), _, _, _, hrun, .inl rfl, fun n hn => upd_ne hn, hx, ?_, RV_of_c ⟨_, upd_same _ _ _, rfl⟩⟩
 exact hi.hv.new hρ hl hk _ _ ⟨_, vs, upd_same _ _ _, heap_alloc_new w _, Ext.all_Cs hx hi.hv.lt hr⟩

theorem does_alloc (hcx : CxOk P cx) (hi : Inv cx ok w0 ρ st a w) {nm : Nat} (hρ : ρ nm = none) (hl : nm < st.heap.length) (hk : lk st.heap nm = none) {o : Oper} {T : TypeId} {i : TI} (ho : o.op = .alloc T) (hT : cx.tt T = some i) :
    Does P cx ok w0 ρ st a w nm o (.v false [.ptr nm 0]) (st.heap.set nm (some (.box T (i.zero.map .d)))) := by
 have ht := hcx.ty _ _ hT
 have hr := RCs_zero (ρ := ρ) (ok := okc ok w0.heap.size st.heap ρ) (w := w) ht
 refine does_new hi hρ hl hk hr ?_
 have hc : (mkv i.agg (i.zero.map zval)).cells = (i.zero.map zval).toArray := mkv_cells (fun hg => by
  have h1 := ht.one hg
  have h2 := ht.len
  match hz : i.zero, (by omega : i.zero.length = 1) with
  | [d], _ =>
   refine ⟨zval d, rfl, ?_⟩
   rw [hz] at hr
   have := hr.2 0 (by simp)
   exact RC_one this)
 simp [execOp, ho, Instr.alloc, run_zero ht, newVar, newRow, hc]

theorem does_box (hcx : CxOk P cx) (hi : Inv cx ok w0 ρ st a w) {nm : Nat} (hρ : ρ nm = none) (hl : nm < st.heap.length) (hk : lk st.heap nm = none) {o : Oper} {T : TypeId} {x : Operand} {g : Bool} {cs : List C} (ho : o.op = .box T x) (hx : norm cx T (opv st.env x) = .v g cs) :
    Does P cx ok w0 ρ st a w nm o (.v false [.ptr nm 0]) (st.heap.set nm (some (.box T cs))) := by
 have hv := RV_norm (T := T) (RV_op hi x)
 rw [hx] at hv
 obtain ⟨vs, e1, h2, _⟩ := RA_cells hv
 refine does_new hi hρ hl hk h2 ?_
 simp [execOp, ho, Instr.box, newVar, newRow, e1]

theorem run_storeVar' {T : TypeId} {i : TI} (ht : TyOk P cx T i) {b off : Nat} {cur us : List Value} {B : TypeId} {v : Value} (hb : w.heap[b]? = some (.cells cur.toArray B (0, 0))) (hv : v.cells = us.toArray) (hl : us.length = i.size) (hle : off + i.size ≤ cur.length)
    (h1 : ∀ u ∈ us, u.oneCell' = true) : (storeVar T ⟨b, off, none⟩ v).run P w = .ok () (w.setRow b (putL cur off us).toArray) := by
 have hst := run_storeCells_at P b off B us 0 cur.toArray w hb (by simp; omega) h1
 simp only [Nat.add_zero] at hst
 rw [putL_eq us cur off (by omega)]
 simp [storeVar, run_size ht, hv, hl, hst]

theorem RCs_oneCell {cs : List C} {vs : List Value} (h : RCs cx ρ ok w cs vs) : ∀ u ∈ vs, u.oneCell' = true := by
 intro u hu
 obtain ⟨j, hj, rfl⟩ := List.getElem_of_mem hu
 have := h.2 j (by rw [← h.1]; exact hj)
 have e : vs.getD j undef = vs[j] := by simp [List.getD_eq_getElem?_getD, hj]
 rw [e] at this
 exact RC_one this

theorem RD_forget {nl : Option Bool} {full : Bool} {t : ET} {l : List (Ty t)} {x : Value} (h : RD cx ok w (.sl nl full t l) x) : RD cx ok w (.l t l) x := by
 cases h with
 | sl0 _ _ _ A cap h1 h2 h3 h4 => exact RD.sl0 _ _ _ _ _ (fun e => by cases e) (fun e => by cases e) (fun e => by cases e) h4
 | sl _ _ _ _ b off cap vs h0 h1 h2 h3 h4 hc hr => exact RD.sl _ _ _ _ b off cap vs h0 h1 h2 (fun e => by cases e) (by simp) hc hr

theorem dec_ok (t : ET) (ds : List D) (z : Ty t) (h : dec t ds = some z) : ds.length = width t ∧ ∀ j x, j < width t → RD cx ok w (ds.getD j .nils) x → RD cx ok w ((enc t z).getD j .nils) x := by
 cases t
 case mat =>
  change decMat ds = some z at h
  unfold decMat at h
  split at h
  ·injection h with h; subst h; exact ⟨rfl, fun j x _ hr => hr⟩
  ·cases h
 case run =>
  change decRun ds = some z at h
  unfold decRun at h
  split at h
  ·injection h with h; subst h; exact ⟨rfl, fun j x _ hr => hr⟩
  ·cases h
 case pass =>
  change decPass ds = some z at h
  unfold decPass at h
  split at h
  ·injection h with h; subst h; exact ⟨rfl, fun j x _ hr => hr⟩
  ·cases h
 case val =>
  change decVal ds = some z at h
  unfold decVal at h
  split at h
  ·injection h with h; subst h; exact ⟨rfl, fun j x _ hr => hr⟩
  ·cases h
 case op =>
  change decOp ds = some z at h
  unfold decOp at h
  split at h
  ·injection h with h; subst h; exact ⟨rfl, fun j x _ hr => hr⟩
  ·cases h
 case step =>
  change decStep ds = some z at h
  unfold decStep at h
  split at h
  ·injection h with h; subst h
   refine ⟨rfl, fun j x hj hr => ?_⟩
   match j, hj, hr with
   | 0, _, hr => exact hr
   | 1, _, hr => exact RD_forget hr
   | 2, _, hr => exact hr
   | 3, _, hr => exact hr
   | 4, _, hr => exact hr
   | 5, _, hr => exact hr
   | 6, _, hr => exact RD_forget hr
  ·cases h
 case evt =>
  change decEvt ds = some z at h
  unfold decEvt at h
  split at h
  ·injection h with h; subst h
   refine ⟨rfl, fun j x hj hr => ?_⟩
   match j, hj, hr with
   | 0, _, hr => exact hr
   | 1, _, hr => exact hr
   | 2, _, hr => exact RD_forget hr
  ·cases h
 case pred =>
  change decPred ds = some z at h
  unfold decPred at h
  split at h
  ·injection h with h; subst h
   refine ⟨rfl, fun j x hj hr => ?_⟩
   match j, hj, hr with
   | 0, _, hr => exact hr
   | 1, _, hr => exact RD_forget hr
  ·cases h
 case query =>
  change decQuery ds = some z at h
  unfold decQuery at h
  split at h
  ·injection h with h; subst h
   refine ⟨rfl, fun j x hj hr => ?_⟩
   match j, hj, hr with
   | 0, _, hr => exact RD_forget hr
   | 1, _, hr => exact hr
   | 2, _, hr => exact hr
   | 3, _, hr => exact hr
   | 4, _, hr => exact hr
  ·cases h
 case int =>
  change decInt ds = some z at h
  unfold decInt at h
  split at h
  ·injection h with h; subst h; exact ⟨rfl, fun j x _ hr => hr⟩
  ·cases h
 case bool =>
  change decBool ds = some z at h
  unfold decBool at h
  split at h
  ·injection h with h; subst h; exact ⟨rfl, fun j x _ hr => hr⟩
  ·cases h
 case thing =>
  change decThing ds = some z at h
  unfold decThing at h
  split at h
  ·injection h with h; subst h; exact ⟨rfl, fun j x _ hr => hr⟩
  ·cases h

theorem toDL_some : ∀ (cs : List C) (ds : List D), toDL cs = some ds → cs = ds.map .d
 | [], ds, h => by simp only [toDL, Option.some.injEq] at h; subst h; rfl
 | c :: cs, ds, h => by
  simp only [toDL] at h
  split at h
  ·rename_i x xs h1 h2
   injection h with h; subst h
   rw [toDL_some cs xs h2]
   cases c <;> simp [toD1] at h1
   subst h1; rfl
  ·cases h

theorem does_store_elem (hi : Inv cx ok w0 ρ st a w) {nm : Nat} {o : Oper} {T : TypeId} {x y : Operand} (ho : o.op = .store T x y) {i : TI} (ht : TyOk P cx T i) {n b k j : Nat} {B : TypeId} {t : ET} {l : List (Ty t)} (hk : lk st.heap n = some (.arr B t l)) (hkl : k < l.length)
    {ys : List C} {ds : List D} (hys : ys = ds.map .d) (hjw : j + i.size ≤ width t) {z : Ty t} (hz : dec t (putL (enc t (l.getD k (dflt t))) j ds) = some z) (hb : ρ n = some b) (hxe : a.eval x = .pointer (some ⟨b, k * width t + j, none⟩))
    {us : List Value} (h2 : RCs cx ρ (okc ok w0.heap.size st.heap ρ) w ys us) (hul : us.length = i.size) (e1 : (a.eval y).cells = us.toArray) (h1 : ∀ u ∈ us, u.oneCell' = true) :
    Does P cx ok w0 ρ st a w nm o .any (st.heap.set n (some (.arr B t (l.set k z)))) := by
 subst hys
 have hdl : ds.length = i.size := by have := h2.1; simp at this; omega
 rcases hi.heap n _ hk with ⟨g1, _⟩ | ⟨b', vs, g1, g2, g3, g4⟩
 ·subst g1; simp at hkl
 ·rw [hb] at g1; injection g1 with g1; subst g1
  have hbound : k * width t + width t ≤ vs.length := by
   have : (k + 1) * width t ≤ l.length * width t := Nat.mul_le_mul_right _ hkl
   rw [Nat.add_mul, Nat.one_mul] at this
   omega
  have hle : k * width t + j + us.length ≤ vs.length := by omega
  have hrun := run_storeVar' (P := P) (w := w) (off := k * width t + j) ht g2 e1 hul (by omega) h1
  have hsz : ((putL vs (k * width t + j) us).toArray).size = (vs.toArray).size := by simp [putL_length]
  have hxt := fun N => ext_write hi.hv (lk_some hk) hb g2 hsz (.arr B t (l.set k z)) N
  refine ⟨ρ, _, .skip, undef, ?_, .inr ⟨rfl, rfl⟩, fun _ _ => rfl, hxt, hi.hv.write (lk_some hk) hb g2 hsz _ (.inr ⟨b, _, hb, setRow_heap w b _ _ _ _ g2, by simpa [putL_length] using g3, fun i' j' hi' hj' => ?_⟩), trivial⟩
  ·simp [execOp, ho, Instr.storeAt, Instr.sureAddr, hxe, hrun]
  ·obtain ⟨_, hdr⟩ := dec_ok (cx := cx) (ok := okc ok w0.heap.size (st.heap.set n (some (.arr B t (l.set k z)))) ρ) (w := w.setRow b (putL vs (k * width t + j) us).toArray) t _ z hz
   have hi2 : i' < l.length := by simpa using hi'
   rw [putL_getD undef us vs _ _ hle]
   by_cases hik : i' = k
   ·subst hik
    have ec : cellAt t (l.set i' z) i' j' = (enc t z).getD j' .nils := by
     unfold cellAt
     congr 2
     simp [List.getD_eq_getElem?_getD, List.getElem?_set, hi2]
    rw [ec]
    refine hdr j' _ hj' ?_
    rw [putL_getD .nils ds _ j j' (by rw [enc_length]; omega)]
    by_cases hin : j ≤ j' ∧ j' < j + ds.length
    ·rw [if_pos hin, if_pos (by omega)]
     have hq := h2.2 (j' - j) (by simp; omega)
     have e3 : (ds.map C.d).getD (j' - j) (.d .nils) = .d (ds.getD (j' - j) .nils) := by simp [List.getD_eq_getElem?_getD, show j' - j < ds.length by omega]
     rw [e3] at hq
     rw [show i' * width t + j' - (i' * width t + j) = j' - j from by omega]
     exact RD.of_ext (hxt 0) hq
    ·rw [if_neg hin, if_neg (by omega)]
     exact RD.of_ext (hxt 0) (g4 i' j' hi2 hj')
   ·have ec : cellAt t (l.set k z) i' j' = cellAt t l i' j' := by
      unfold cellAt
      congr 2
      simp [List.getD_eq_getElem?_getD, List.getElem?_set, show ¬ k = i' from fun e => hik e.symm]
    rw [ec, if_neg]
    ·exact RD.of_ext (hxt 0) (g4 i' j' hi2 hj')
    ·intro hin
     rcases Nat.lt_or_ge i' k with hlt | hge
     ·have : (i' + 1) * width t ≤ k * width t := Nat.mul_le_mul_right _ hlt
      rw [Nat.add_mul, Nat.one_mul] at this
      omega
     ·have : (k + 1) * width t ≤ i' * width t := Nat.mul_le_mul_right _ (by omega)
      rw [Nat.add_mul, Nat.one_mul] at this
      omega

theorem does_store (hcx : CxOk P cx) (hi : Inv cx ok w0 ρ st a w) {nm : Nat} {o : Oper} {T : TypeId} {x y : Operand} {e : Eff} (ho : o.op = .store T x y) (he : storeE cx T st.env st.heap x y = some e) (hok : e.ok = true) :
    Does P cx ok w0 ρ st a w nm o e.val e.heap := by
 unfold storeE at he
 split at he
 ·cases he
 ·rename_i i hT
  have ht := hcx.ty _ _ hT
  split at he
  ·rename_i g ys hy
   have hv := RV_norm (T := T) (RV_op hi y)
   rw [hy] at hv
   obtain ⟨us, e1, h2, _⟩ := RA_cells hv
   split at he
   ·rename_i hlen
    simp only [beq_iff_eq] at hlen
    have hul : us.length = i.size := by rw [h2.1, hlen]
    have fin : ∀ (n b off : Nat) (cur : List Value) (B : TypeId) (blk : Blk), (lk st.heap n).isSome = true → ρ n = some b → w.heap[b]? = some (.cells cur.toArray B (0, 0)) → a.eval x = .pointer (some ⟨b, off, none⟩) → off + i.size ≤ cur.length →
        RB cx ρ (okc ok w0.heap.size (st.heap.set n (some blk)) ρ) (w.setRow b (putL cur off us).toArray) n blk → Does P cx ok w0 ρ st a w nm o .any (st.heap.set n (some blk)) := by
     intro n b off cur B blk hs hn hb hx hle hblk
     have hrun := run_storeVar' (P := P) (w := w) ht hb e1 hul hle (RCs_oneCell h2)
     have hz : ((putL cur off us).toArray).size = (cur.toArray).size := by simp [putL_length]
     refine ⟨ρ, _, .skip, undef, ?_, .inr ⟨rfl, rfl⟩, fun _ _ => rfl, fun N => ext_write hi.hv hs hn hb hz blk N, hi.hv.write hs hn hb hz blk hblk, trivial⟩
     simp [execOp, ho, Instr.storeAt, Instr.sureAddr, hx, hrun]
    split at he
    ·rename_i n off hx
     obtain ⟨b, hb, hxe⟩ := op_c hi hx
     split at he
     ·rename_i B cs hk
      split at he
      ·rename_i hle
       injection he with he; subst he
       obtain ⟨b', vs, g1, g2, g3⟩ := hi.heap n _ hk
       rw [hb] at g1; injection g1 with g1; subst g1
       have hz : ((putL vs off us).toArray).size = (vs.toArray).size := by simp [putL_length]
       have hxt := fun N => ext_write hi.hv (lk_some hk) hb g2 hz (.box B (putL cs off ys)) N
       exact fin n b off vs B _ (lk_some hk) hb g2 hxe (by rw [g3.1]; exact hle) ⟨b, _, hb, setRow_heap w b _ _ _ _ g2, Ext.all_Cs hxt hi.hv.lt (RCs_putL ys us cs vs off g3 h2)⟩
      ·cases he
     ·cases he
    ·rename_i n t k j hx
     obtain ⟨b, hb, hxe⟩ := op_c hi hx
     split at he
     ·rename_i B t' l ds hk hds
      split at he
      ·rename_i ett; subst ett
       split at he
       ·rename_i hjw
        split at he
        ·rename_i z hz
         injection he with he; subst he
         exact does_store_elem hi ho ht hk (by simpa using hok) (toDL_some _ _ hds) hjw hz hb hxe h2 hul e1 (RCs_oneCell h2)
        ·cases he
       ·cases he
      ·cases he
     ·cases he
    ·cases he
   ·cases he
  ·cases he
end
end Go.Eng
/- Slices read; what is given up reads as data. -/
set_option linter.unusedVariables false
set_option linter.unusedSimpArgs false
namespace Go.Eng
open Go Go.RowKit

def RL (cx : Cx) (ok : Nat → Prop) (w : World) (t : ET) (l : List (Ty t)) (vs : List Value) : Prop :=
 ∀ i j, i < l.length → j < width t → RD cx ok w (cellAt t l i j) (vs.getD (i * width t + j) undef)

theorem idx_lt {i j n k : Nat} (hi : i < n) (hj : j < k) : i * k + j < n * k := by
 have : (i + 1) * k ≤ n * k := Nat.mul_le_mul_right _ hi
 rw [Nat.add_mul, Nat.one_mul] at this
 omega
theorem idx_div {q k : Nat} (hk : 0 < k) {n : Nat} (h : q < n * k) : q / k < n ∧ q % k < k ∧ q / k * k + q % k = q :=
 ⟨(Nat.div_lt_iff_lt_mul hk).2 h, Nat.mod_lt _ hk, by rw [Nat.mul_comm]; exact Nat.div_add_mod q k⟩

section
variable {P : Program} {cx : Cx} {ok : Nat → Prop} {w0 : World} {ρ : Rho} {st : St} {a : Act} {w : World} {h : Heap}

theorem RD_one {d : D} {x : Value} (hd : RD cx ok w d x) : x.oneCell' = true := RC_one (cx := cx) (ρ := fun _ => none) (ok := ok) (w := w) (c := .d d) hd

theorem RL_one {t : ET} {l : List (Ty t)} {vs : List Value} (hl : vs.length = l.length * width t) (hr : RL cx ok w t l vs) : ∀ u ∈ vs, u.oneCell' = true := by
 intro u hu
 obtain ⟨q, hq, rfl⟩ := List.getElem_of_mem hu
 obtain ⟨h1, h2, h3⟩ := idx_div (width_pos t) (by rw [← hl]; exact hq)
 have := hr _ _ h1 h2
 rw [h3] at this
 have e : vs.getD q undef = vs[q] := by simp [List.getD_eq_getElem?_getD, hq]
 rw [e] at this
 exact RD_one this

structure SlRead (cx : Cx) (ok : Nat → Prop) (w : World) (s : Sl) (v : Value) (A : Option Addr) (cap : Nat) (vs : List Value) : Prop where
 shape : v = .slice A s.l.length cap
 le : s.l.length ≤ cap
 full : s.full = true → cap = s.l.length
 len : vs.length = s.l.length * width s.t
 rl : RL cx ok w s.t s.l vs
 at_ : s.l ≠ [] → ∃ b off, A = some ⟨b, off, none⟩ ∧ ∀ q, q < vs.length → w.cell? ⟨b, off + q, none⟩ = some (vs.getD q undef)

theorem sl_read (hi : HInv cx ok w0 ρ h w) {c : C} {v : Value} {s : Sl} (hc : RC cx ρ (okc ok w0.heap.size h ρ) w c v) (hs : slOf h c = some s) (hok : s.ok = true) : ∃ A cap vs, SlRead cx (okc ok w0.heap.size h ρ) w s v A cap vs := by
 unfold slOf at hs
 split at hs
 ·rename_i nl full t l
  injection hs with hs; subst hs
  cases hc with
  | sl0 _ _ _ A cap h1 h2 h3 h4 => exact ⟨A, cap, [], rfl, Nat.zero_le _, h3, by simp, fun i j hi => by simp at hi, fun hne => absurd rfl hne⟩
  | sl _ _ _ _ b off cap vs h0 h1 h2 h3 h4 hc hr =>
   have hget : ∀ i j, i < l.length → j < width t → ((List.range (l.length * width t)).map (fun q => vs (q / width t) (q % width t))).getD (i * width t + j) undef = vs i j := fun i j hi hj => by
    have hlt := idx_lt hi hj
    have e1 : (i * width t + j) / width t = i := by rw [Nat.mul_comm, Nat.mul_add_div (width_pos t), Nat.div_eq_of_lt hj, Nat.add_zero]
    have e2 : (i * width t + j) % width t = j := by rw [Nat.mul_comm, Nat.mul_add_mod, Nat.mod_eq_of_lt hj]
    simp [List.getD_eq_getElem?_getD, hlt, e1, e2]
   refine ⟨_, cap, (List.range (l.length * width t)).map (fun q => vs (q / width t) (q % width t)), rfl, h2, h3, by simp, fun i j hi hj => ?_, fun _ => ⟨b, off, rfl, fun q hq => ?_⟩⟩
   ·rw [hget i j hi hj]; exact hr i j hi hj
   ·simp at hq
    obtain ⟨g1, g2, g3⟩ := idx_div (width_pos t) hq
    have := hc _ _ g1 g2
    rw [g3] at this
    rw [this]
    simp [List.getD_eq_getElem?_getD, hq]
 ·rename_i n t full off len
  split at hs
  ·rename_i B t' l hk
   split at hs
   ·rename_i ett; subst ett
    injection hs with hs; subst hs
    simp only [decide_eq_true_eq] at hok
    obtain ⟨A, cap, rfl, g1, g2, g3⟩ := hc
    have hsl : (sub l off (off + len)).length = len := by rw [sub_length hok]; omega
    have hsg : ∀ i, i < len → (sub l off (off + len)).getD i (dflt t') = l.getD (off + i) (dflt t') := fun i hi => sub_getD (by omega)
    by_cases hl0 : len = 0
    ·subst hl0
     have e : sub l off (off + 0) = [] := List.length_eq_zero_iff.1 hsl
     refine ⟨A, cap, [], ?_, ?_, ?_, ?_, ?_, ?_⟩
     ·show _ = Value.slice A (sub l off (off + 0)).length cap; rw [hsl]
     ·show (sub l off (off + 0)).length ≤ cap; rw [hsl]; exact g1
     ·intro hf; show cap = (sub l off (off + 0)).length; rw [hsl]; exact g2 hf
     ·show 0 = (sub l off (off + 0)).length * _; rw [hsl]; simp
     ·intro i j hi; have hi' : i < (sub l off (off + 0)).length := hi; rw [hsl] at hi'; omega
     ·intro hne; exact absurd e hne
    ·obtain ⟨b, hb, hA, hroom⟩ := g3 (by omega)
     rcases hi.heap n _ hk with ⟨q1, _⟩ | ⟨b', vs, q1, q2, q3, q4⟩
     ·subst q1; simp at hok; omega
     ·rw [hb] at q1; injection q1 with q1; subst q1
      have hbound : off * width t' + len * width t' ≤ vs.length := by
       rw [← Nat.add_mul]
       exact Nat.le_trans (Nat.mul_le_mul_right _ hok) q3
      have hvl : (seg vs (off * width t') (len * width t')).length = len * width t' := seg_length hbound
      refine ⟨A, cap, seg vs (off * width t') (len * width t'), ?_, ?_, ?_, ?_, ?_, ?_⟩
      ·show _ = Value.slice A (sub l off (off + len)).length cap; rw [hsl]
      ·show (sub l off (off + len)).length ≤ cap; rw [hsl]; exact g1
      ·intro hf; show cap = (sub l off (off + len)).length; rw [hsl]; exact g2 hf
      ·show _ = (sub l off (off + len)).length * _; rw [hsl, hvl]
      ·intro i j hi hj
       have hi' : i < (sub l off (off + len)).length := hi
       rw [hsl] at hi'
       show RD cx _ w (cellAt t' (sub l off (off + len)) i j) _
       unfold cellAt
       rw [hsg i hi', seg_getD hbound (idx_lt hi' hj)]
       have := q4 (off + i) j (by omega) hj
       rw [Nat.add_mul, Nat.add_assoc] at this
       exact this
      ·intro _
       refine ⟨b, off * width t', hA, fun q hq => ?_⟩
       rw [hvl] at hq
       rw [seg_getD hbound hq]
       exact cell_of_block q2 (by omega)
   ·cases hs
  ·cases hs
 ·cases hs

theorem SlRead.src {s : Sl} {v : Value} {A : Option Addr} {cap : Nat} {vs : List Value} (hr : SlRead cx ok w s v A cap vs) {tx e' : TypeId} (hk : P.underlying tx = some (.slice e')) : Src P (width s.t) tx v s.l.length vs w := by
 obtain ⟨rfl, h1, h2, h3, h4, h5⟩ := hr
 by_cases hl : s.l = []
 ·have e0 : s.l.length = 0 := by rw [hl]; rfl
  have ev : vs = [] := by apply List.length_eq_zero_iff.1; rw [h3, e0, Nat.zero_mul]
  subst ev
  rw [e0]
  cases A with
  | none => exact Src.ofNil w hk cap
  | some a => exact Src.ofSlice w hk a 0 cap [] (by simp) (fun j u hj => by simp at hj) (fun u hu => by simp at hu)
 ·obtain ⟨b, off, rfl, hc⟩ := h5 hl
  refine Src.ofSlice w hk _ _ _ vs h3 (fun j u hj => ?_) (RL_one h3 h4)
  have hj' : j < vs.length := by
   rcases Nat.lt_or_ge j vs.length with h | h
   ·exact h
   ·rw [List.getElem?_eq_none h] at hj; cases hj
  rw [add_plain, hc j hj']
  rw [List.getD_eq_getElem?_getD, hj]
  rfl

structure Less (h h' : Heap) (ks : List Nat) : Prop where
 gone : ∀ n ∈ ks, lk h' n = none
 live : ∀ n, (lk h' n).isSome = true → (lk h n).isSome = true

theorem Less.okc {h' : Heap} {ks : List Nat} {B0 k : Nat} (l : Less h h' ks) (ho : okc ok B0 h ρ k) : okc ok B0 h' ρ k := ⟨ho.1, fun n hn => ho.2 n (l.live n hn)⟩
theorem Less.sub {h' : Heap} {ks ks' : List Nat} (l : Less h h' ks) (hs : ∀ n ∈ ks', n ∈ ks) : Less h h' ks' := ⟨fun n hn => l.gone n (hs n hn), l.live⟩
theorem Less.ext {h' : Heap} {ks : List Nat} {B0 : Nat} (l : Less h h' ks) (N : Nat) : Ext N (Eng.okc ok B0 h ρ) (Eng.okc ok B0 h' ρ) ρ ρ w w :=
 ⟨fun _ _ _ e => e, fun _ _ _ => rfl, fun _ _ ho => l.okc ho, fun _ _ => rfl, Nat.le_refl _⟩

theorem own_okc (hi : HInv cx ok w0 ρ h w) {h' : Heap} {ks : List Nat} (l : Less h h' ks) {n b : Nat} (hn : n ∈ ks) (hs : (lk h n).isSome = true) (hb : ρ n = some b) : okc ok w0.heap.size h' ρ b :=
 ⟨.inr (hi.own n b hb).1, fun m hm e => by
  have hm' := l.live m hm
  have := hi.inj m n b hm' hs e hb
  subst this
  rw [l.gone m hn] at hm
  cases hm⟩

theorem dem0_ok (hi : HInv cx ok w0 ρ h w) {h' : Heap} {c : C} {d : D} {ks : List Nat} {p : Bool} {x : Value} (he : dem0 h c = some (d, ks, p)) (hp : p = true) (l : Less h h' ks) (hc : RC cx ρ (okc ok w0.heap.size h ρ) w c x) :
    RD cx (okc ok w0.heap.size h' ρ) w d x := by
 unfold dem0 at he
 split at he
 ·injection he with he; injection he with e1 e2; injection e2 with e2 e3; subst e1; subst e2
  exact RD.of_ext (l.ext 0) hc
 ·rename_i n t full off len
  split at he
  ·rename_i B t' l' hk
   split at he
   ·rename_i ett; subst ett
    injection he with he; injection he with e1 e2; injection e2 with e2 e3; subst e1; subst e2
    have hok : off + len ≤ l'.length := by rw [hp] at e3; simpa using e3
    obtain ⟨A, cap, vs, hr⟩ := sl_read hi (s := ⟨t', sub l' off (off + len), full, [n], true⟩) hc (by simp [slOf, hk, hok]) rfl
    obtain ⟨hv, h1, h2, h3, h4, h5⟩ := hr
    simp only at hv h1 h2 h3 h4 h5
    rw [hv]
    by_cases hl : sub l' off (off + len) = []
    ·rw [hl] at hv h1 h2 ⊢
     refine RD.sl0 _ _ _ _ _ (fun e => by cases e) (fun e => by cases e) (fun e => by simpa using h2 e) (fun e => ?_)
     obtain ⟨A', cap', hv', g1, g2, g3⟩ := hc
     rw [hv] at hv'
     injection hv' with q1 q2 q3
     subst q1; subst q3
     by_cases hcap : cap = 0
     ·exact hcap
     ·obtain ⟨b, _, hA, _⟩ := g3 hcap
      rw [e] at hA; cases hA
    ·obtain ⟨A', cap', hv', g1, g2, g3⟩ := hc
     rw [hv] at hv'
     injection hv' with q1 q2 q3
     subst q1; subst q3
     have hpos : 0 < (sub l' off (off + len)).length := List.length_pos_iff.2 hl
     obtain ⟨b, hb, hA, _⟩ := g3 (by omega)
     obtain ⟨b', off', hA', hcell⟩ := h5 hl
     rw [hA] at hA'
     injection hA' with hA'; injection hA' with r1 r2 r3
     subst r1; subst r2
     rw [hA]
     refine RD.sl _ _ _ _ b (off * width t') cap (fun i j => vs.getD (i * width t' + j) undef) hl (own_okc hi l (List.mem_singleton.2 rfl) (lk_some hk) hb) h1 h2 (by simp) (fun i j hi' hj => ?_) (fun i j hi' hj => ?_)
     ·exact hcell _ (by rw [h3]; exact idx_lt hi' hj)
     ·exact RD.of_ext (l.ext 0) (h4 i j hi' hj)
   ·cases he
  ·cases he
 ·cases he

theorem demL0_ok (hi : HInv cx ok w0 ρ h w) {h' : Heap} : ∀ (cs : List C) (ds : List D) (ks : List Nat) (p : Bool) (vs : List Value), demL0 h cs = some (ds, ks, p) → p = true → Less h h' ks → RCs cx ρ (okc ok w0.heap.size h ρ) w cs vs →
    vs.length = ds.length ∧ ∀ j, j < ds.length → RD cx (okc ok w0.heap.size h' ρ) w (ds.getD j .nils) (vs.getD j undef)
 | [], ds, ks, p, vs, he, hp, l, hr => by
  simp only [demL0, Option.some.injEq, Prod.mk.injEq] at he
  obtain ⟨rfl, _⟩ := he
  exact ⟨hr.1, fun j hj => by simp at hj⟩
 | c :: cs, ds, ks, p, vs, he, hp, l, hr => by
  obtain ⟨v, vs', rfl, h1, h2⟩ := RCs_inv hr
  simp only [demL0] at he
  split at he
  ·rename_i x a p1 xs b p2 g1 g2
   simp only [Option.some.injEq, Prod.mk.injEq] at he
   obtain ⟨rfl, rfl, hpp⟩ := he
   rw [hp] at hpp
   simp only [Bool.and_eq_true] at hpp
   have r1 := dem0_ok hi g1 hpp.1 (l.sub fun n hn => List.mem_append.2 (.inl hn)) h1
   have r2 := demL0_ok hi cs xs b p2 vs' g2 hpp.2 (l.sub fun n hn => List.mem_append.2 (.inr hn)) h2
   refine ⟨by simp [r2.1], fun j hj => ?_⟩
   cases j with
   | zero => exact r1
   | succ j => simpa using r2.2 j (by simpa using hj)
  ·cases he

theorem demBoxes_ok (hi : HInv cx ok w0 ρ h w) {h' : Heap} : ∀ (ns : List Nat) (rs : List (List D)) (ks : List Nat) (p : Bool) (vs : List Value), demBoxes h ns = some (rs, ks, p) → p = true → Less h h' ks → ptrsTo ρ ns vs →
    vs.length = rs.length ∧ ∀ j, j < rs.length → RD cx (okc ok w0.heap.size h' ρ) w (.ref (rs.getD j [])) (vs.getD j undef)
 | [], rs, ks, p, vs, he, hp, l, hr => by
  simp only [demBoxes, Option.some.injEq, Prod.mk.injEq] at he
  obtain ⟨rfl, _⟩ := he
  exact ⟨hr.1, fun j hj => by simp at hj⟩
 | n :: ns, rs, ks, p, vs, he, hp, l, hr => by
  cases vs with
  | nil => have := hr.1; simp at this
  | cons v vs' =>
   have hr' : ptrsTo ρ ns vs' := ⟨by have := hr.1; simpa using this, fun i hi => by simpa using hr.2 (i + 1) (by simpa using hi)⟩
   obtain ⟨b, hb, hv⟩ := hr.2 0 (by simp)
   simp only [demBoxes] at he
   split at he
   ·rename_i B cs hk
    split at he
    ·rename_i xs a p1 r b' p2 g1 g2
     simp only [Option.some.injEq, Prod.mk.injEq] at he
     obtain ⟨rfl, rfl, hpp⟩ := he
     rw [hp] at hpp
     simp only [Bool.and_eq_true] at hpp
     obtain ⟨b2, us, q1, q2, q3⟩ := hi.heap n _ hk
     have hb' : ρ n = some b := hb
     rw [hb'] at q1; injection q1 with q1; subst q1
     have r1 := demL0_ok hi cs xs a p1 us g1 hpp.1 (l.sub fun m hm => List.mem_cons.2 (.inr (List.mem_append.2 (.inl hm)))) q3
     have r2 := demBoxes_ok hi ns r b' p2 vs' g2 hpp.2 (l.sub fun m hm => List.mem_cons.2 (.inr (List.mem_append.2 (.inr hm)))) hr'
     refine ⟨by simp [r2.1], fun j hj => ?_⟩
     cases j with
     | zero =>
      have hv' : v = .pointer (some ⟨b, 0, none⟩) := hv
      show RD cx _ w (.ref xs) v
      rw [hv']
      refine RD.ref xs b 0 (fun q => us.getD q undef) (own_okc hi l (List.mem_cons.2 (.inl rfl)) (lk_some hk) hb') (hi.lt n b hb') (fun q hq => ?_) (fun q hq => r1.2 q hq)
      rw [Nat.zero_add]
      exact cell_of_block q2 (by rw [r1.1]; exact hq)
     | succ j => simpa using r2.2 j (by simpa using hj)
    ·cases he
   ·cases he

theorem dem_ok (hi : HInv cx ok w0 ρ h w) {h' : Heap} {c : C} {d : D} {ks : List Nat} {p : Bool} {x : Value} (he : dem h c = some (d, ks, p)) (hp : p = true) (l : Less h h' ks) (hc : RC cx ρ (okc ok w0.heap.size h ρ) w c x) :
    RD cx (okc ok w0.heap.size h' ρ) w d x := by
 unfold dem at he
 split at he
 ·rename_i f first caps
  split at he
  ·rename_i a x1 p1 b y p2 g1 g2
   simp only [Option.some.injEq, Prod.mk.injEq] at he
   obtain ⟨rfl, rfl, hpp⟩ := he
   rw [hp] at hpp
   simp only [Bool.and_eq_true] at hpp
   obtain ⟨u, v, rfl, r1, r2⟩ := hc
   have q1 := demBoxes_ok hi first a x1 p1 u g1 hpp.1 (l.sub fun m hm => List.mem_append.2 (.inl hm)) r1
   have q2 := demBoxes_ok hi caps b y p2 v g2 hpp.2 (l.sub fun m hm => List.mem_append.2 (.inr hm)) r2
   exact RD.fn f a b u v q1.1 q2.1 q1.2 q2.2
  ·cases he
 ·exact dem0_ok hi he hp l hc

theorem demL_ok (hi : HInv cx ok w0 ρ h w) {h' : Heap} : ∀ (cs : List C) (ds : List D) (ks : List Nat) (p : Bool) (vs : List Value), demL h cs = some (ds, ks, p) → p = true → Less h h' ks → RCs cx ρ (okc ok w0.heap.size h ρ) w cs vs →
    vs.length = ds.length ∧ ∀ j, j < ds.length → RD cx (okc ok w0.heap.size h' ρ) w (ds.getD j .nils) (vs.getD j undef)
 | [], ds, ks, p, vs, he, hp, l, hr => by
  simp only [demL, Option.some.injEq, Prod.mk.injEq] at he
  obtain ⟨rfl, _⟩ := he
  exact ⟨hr.1, fun j hj => by simp at hj⟩
 | c :: cs, ds, ks, p, vs, he, hp, l, hr => by
  obtain ⟨v, vs', rfl, h1, h2⟩ := RCs_inv hr
  simp only [demL] at he
  split at he
  ·rename_i x a p1 xs b p2 g1 g2
   simp only [Option.some.injEq, Prod.mk.injEq] at he
   obtain ⟨rfl, rfl, hpp⟩ := he
   rw [hp] at hpp
   simp only [Bool.and_eq_true] at hpp
   have r1 := dem_ok hi g1 hpp.1 (l.sub fun n hn => List.mem_append.2 (.inl hn)) h1
   have r2 := demL_ok hi cs xs b p2 vs' g2 hpp.2 (l.sub fun n hn => List.mem_append.2 (.inr hn)) h2
   refine ⟨by simp [r2.1], fun j hj => ?_⟩
   cases j with
   | zero => exact r1
   | succ j => simpa using r2.2 j (by simpa using hj)
  ·cases he

def liftA (as : List DArg) : List Arg := as.map fun (g, ds) => (g, ds.map .d)

theorem demArgs_ok (hi : HInv cx ok w0 ρ h w) {h' : Heap} : ∀ (as : List Arg) (ds : List DArg) (ks : List Nat) (p : Bool) (xs : List Value), demArgs h as = some (ds, ks, p) → p = true → Less h h' ks → RAs cx ρ (okc ok w0.heap.size h ρ) w as xs →
    ∀ ρ', RAs cx ρ' (okc ok w0.heap.size h' ρ) w (liftA ds) xs
 | [], ds, ks, p, xs, he, hp, l, hr, ρ' => by
  simp only [demArgs, Option.some.injEq, Prod.mk.injEq] at he
  obtain ⟨rfl, _⟩ := he
  exact ⟨hr.1, fun j hj => by simp [liftA] at hj⟩
 | (g, cs) :: as, ds, ks, p, xs, he, hp, l, hr, ρ' => by
  cases xs with
  | nil => have := hr.1; simp at this
  | cons x xs' =>
   have hr' : RAs cx ρ (okc ok w0.heap.size h ρ) w as xs' := ⟨by have := hr.1; simpa using this, fun i hi => by simpa using hr.2 (i + 1) (by simpa using hi)⟩
   have hx : RA cx ρ (okc ok w0.heap.size h ρ) w (g, cs) x := hr.2 0 (by simp)
   simp only [demArgs] at he
   split at he
   ·rename_i ys a p1 zs b p2 g1 g2
    simp only [Option.some.injEq, Prod.mk.injEq] at he
    obtain ⟨rfl, rfl, hpp⟩ := he
    rw [hp] at hpp
    simp only [Bool.and_eq_true] at hpp
    have ih := demArgs_ok hi as zs b p2 xs' g2 hpp.2 (l.sub fun n hn => List.mem_append.2 (.inr hn)) hr' ρ'
    obtain ⟨vs, e1, e2, e3⟩ := RA_cells hx
    have r1 := demL_ok hi cs ys a p1 vs g1 hpp.1 (l.sub fun n hn => List.mem_append.2 (.inl hn)) e2
    have hlen : cs.length = ys.length := by rw [← e2.1]; exact r1.1
    refine ⟨by have := ih.1; simpa [liftA] using this, fun j hj => ?_⟩
    cases j with
    | zero =>
     show RA cx ρ' _ w (g, ys.map .d) x
     rw [e3]
     refine RA_mkv (RCs_map_d r1.1 r1.2) (fun hg => ?_)
     subst hg
     obtain ⟨c, hc, _⟩ := hx
     rw [List.length_map, ← hlen, hc]; rfl
    | succ j => simpa [liftA] using ih.2 j (by simpa [liftA] using hj)
   ·cases he
end
end Go.Eng
/- Operations that make memory, second part: slices. -/
set_option linter.unusedVariables false
set_option linter.unusedSimpArgs false
namespace Go.Eng
open Go Go.RowKit

section
variable {P : Program} {cx : Cx} {ok : Nat → Prop} {w0 : World} {ρ : Rho} {st : St} {a : Act} {w : World} {h : Heap}

theorem Less.refl (h : Heap) : Less h h [] := ⟨fun n hn => by simp at hn, fun _ hn => hn⟩

theorem kill_length : ∀ (ks : List Nat) (h : Heap), (kill h ks).length = h.length
 | [], h => rfl
 | k :: ks, h => by rw [kill, kill_length ks]; simp
theorem lk_kill : ∀ (ks : List Nat) (h : Heap) (n : Nat), lk (kill h ks) n = if n ∈ ks then none else lk h n
 | [], h, n => by simp [kill]
 | k :: ks, h, n => by
  rw [kill, lk_kill ks, lk_set]
  by_cases h1 : n ∈ ks
  ·simp [h1]
  ·rw [if_neg h1]
   by_cases h2 : n = k
   ·subst h2
    rw [if_pos (List.mem_cons_self ..)]
    by_cases hl : n < h.length
    ·rw [if_pos ⟨rfl, hl⟩]
    ·rw [if_neg (fun e => hl e.2)]
     simp [lk, List.getD_eq_getElem?_getD, List.getElem?_eq_none (Nat.le_of_not_lt hl)]
   ·rw [if_neg (fun e => h2 e.1), if_neg (by simp [h1, h2])]
theorem Less.kill (h : Heap) (ks : List Nat) : Less h (Eng.kill h ks) ks :=
 ⟨fun n hn => by rw [lk_kill, if_pos hn], fun n hn => by
  rw [lk_kill] at hn
  split at hn
  ·cases hn
  ·exact hn⟩
theorem HInv.kills : ∀ (ks : List Nat) {h : Heap}, HInv cx ok w0 ρ h w → HInv cx ok w0 ρ (Eng.kill h ks) w
 | [], h, hi => hi
 | k :: ks, h, hi => HInv.kills ks (hi.kill k)

theorem Ext.drew (N : Nat) (ok : Nat → Prop) (ρ : Rho) (w : World) : Ext N ok ok ρ ρ w w.drew := ⟨fun _ _ _ h => h, fun _ _ _ => rfl, fun _ _ h => h, fun _ _ => rfl, Nat.le_refl _⟩
theorem HInv.drew (hi : HInv cx ok w0 ρ h w) : HInv cx ok w0 ρ h w.drew :=
 ⟨fun n b hn => Ext.all_B (fun N => Ext.drew N _ _ _) hi.lt (fun _ _ => rfl) (fun h => h) (hi.heap n b hn), hi.inj, hi.own, hi.fresh, hi.below.drew⟩

theorem RL.ext {t : ET} {l : List (Ty t)} {vs : List Value} {ok' : Nat → Prop} {ρ' : Rho} {w' : World} (hr : RL cx ok w t l vs) (e : Ext 0 ok ok' ρ ρ' w w') : RL cx ok' w' t l vs := fun i j hi hj => RD.of_ext e (hr i j hi hj)

theorem roomOf_new (w : World) (vs : List Value) (T : TypeId) : World.roomOf (w.alloc (.cells vs.toArray T)) w.heap.size = vs.length := by
 unfold World.roomOf
 rw [heap_alloc_new]
 simp

theorem new_arr (hi : HInv cx ok w0 ρ h w) {nm : Nat} (hρ : ρ nm = none) (hl : nm < h.length) (hk : lk h nm = none) {T : TypeId} {t : ET} {l : List (Ty t)} {vs : List Value} {full : Bool} {cap : Nat} (hrl : RL cx (okc ok w0.heap.size h ρ) w t l vs)
    (hlen : l.length * width t ≤ vs.length) (hcap : cap * width t ≤ vs.length) (hle : l.length ≤ cap) (hf : full = true → cap = l.length) :
    HInv cx ok w0 (upd ρ nm (some w.heap.size)) (h.set nm (some (.arr T t l))) (w.alloc (.cells vs.toArray T)) ∧
    RC cx (upd ρ nm (some w.heap.size)) (okc ok w0.heap.size (h.set nm (some (.arr T t l))) (upd ρ nm (some w.heap.size))) (w.alloc (.cells vs.toArray T)) (.own nm t full 0 l.length) (.slice (some ⟨w.heap.size, 0, none⟩) l.length cap) := by
 have hx := ext_new hi hρ (.cells vs.toArray T) (some (.arr T t l))
 refine ⟨hi.new hρ hl hk _ _ (.inr ⟨_, vs, upd_same _ _ _, heap_alloc_new w _, hlen, hrl.ext (hx 0)⟩), _, cap, rfl, hle, hf, fun _ => ⟨_, upd_same _ _ _, by rw [Nat.zero_mul], ?_⟩⟩
 rw [roomOf_new, Nat.zero_add]
 exact hcap

theorem no_arr (hi : HInv cx ok w0 ρ h w) {nm : Nat} (hρ : ρ nm = none) (hl : nm < h.length) (hk : lk h nm = none) {T : TypeId} {t : ET} :
    HInv cx ok w0 ρ (h.set nm (some (.arr T t []))) w ∧ ∀ N, Ext N (okc ok w0.heap.size h ρ) (okc ok w0.heap.size (h.set nm (some (.arr T t []))) ρ) ρ ρ w w := by
 have hx : ∀ N, Ext N (okc ok w0.heap.size h ρ) (okc ok w0.heap.size (h.set nm (some (.arr T t []))) ρ) ρ ρ w w := fun N =>
  ⟨fun _ _ _ e => e, fun _ _ _ => rfl, fun k _ ho => ⟨ho.1, fun n hn => by
   by_cases e : n = nm
   ·subst e; rw [hρ]; intro h; cases h
   ·rw [lk_set_ne e] at hn; exact ho.2 n hn⟩, fun _ _ => rfl, Nat.le_refl _⟩
 refine ⟨⟨fun n b hn => ?_, fun n m b hn hm h1 h2 => ?_, hi.own, fun n hn => hi.fresh n (by simpa using hn), hi.below⟩, hx⟩
 ·by_cases e : n = nm
  ·subst e; rw [lk_set_same hl] at hn; injection hn with hn; subst hn; exact .inl ⟨rfl, hρ⟩
  ·rw [lk_set_ne e] at hn; exact Ext.all_B hx hi.lt (fun _ _ => rfl) (fun h => h) (hi.heap n b hn)
 ·have e1 : n ≠ nm := fun e => by rw [e, hρ] at h1; cases h1
  have e2 : m ≠ nm := fun e => by rw [e, hρ] at h2; cases h2
  rw [lk_set_ne e1] at hn; rw [lk_set_ne e2] at hm
  exact hi.inj n m b hn hm h1 h2

theorem zval_cells {e : TypeId} {ie : TI} {t : ET} (ht : TyOk P cx e ie) (hz : ie.zero.map zval = (enc t (dflt t)).map zval) (hs : ie.size = width t) : (mkv ie.agg (ie.zero.map zval)).cells = ((enc t (dflt t)).map zval).toArray := by
 rw [hz]
 refine mkv_cells (fun hg => ?_)
 have h1 := ht.one hg
 have hlen : ((enc t (dflt t)).map zval).length = 1 := by simp [enc_length]; omega
 have hr := RCs_zero (ρ := fun _ => none) (ok := fun _ => True) (w := (default : World)) ht
 rw [hz] at hr
 match hv : (enc t (dflt t)).map zval, hlen with
 | [v], _ =>
  refine ⟨v, rfl, ?_⟩
  rw [hv] at hr
  exact RCs_oneCell hr v (List.mem_singleton.2 rfl)

theorem zero_dflt (t : ET) : ∀ d ∈ enc t (dflt t), zeroD d := by
 cases t <;> intro d hd <;> simp [enc, dflt] at hd
 all_goals first
  | (rcases hd with rfl | rfl | rfl | rfl | rfl | rfl | rfl <;> first | trivial | exact ⟨.inr rfl, rfl⟩ | rfl)
  | (rcases hd with rfl | rfl | rfl | rfl | rfl <;> first | trivial | exact ⟨.inr rfl, rfl⟩ | rfl)
  | (rcases hd with rfl | rfl | rfl | rfl <;> first | trivial | exact ⟨.inr rfl, rfl⟩ | rfl)
  | (rcases hd with rfl | rfl | rfl <;> first | trivial | exact ⟨.inr rfl, rfl⟩ | rfl)
  | (rcases hd with rfl | rfl <;> first | trivial | exact ⟨.inr rfl, rfl⟩ | rfl)
  | (subst hd; first | trivial | rfl)

theorem madeCells_getD (t : ET) (n : Nat) {i j : Nat} (hi : i < n) (hj : j < width t) : (madeCells ((enc t (dflt t)).map zval).toArray (n * width t)).toList.getD (i * width t + j) undef = zval ((enc t (dflt t)).getD j .nils) := by
 have hlt := idx_lt hi hj
 have hs : ((enc t (dflt t)).map zval).toArray.size = width t := by simp [enc_length]
 have e2 : (i * width t + j) % width t = j := by rw [Nat.mul_comm, Nat.mul_add_mod, Nat.mod_eq_of_lt hj]
 have hj' : j < (enc t (dflt t)).length := by rw [enc_length]; exact hj
 simp [madeCells, List.getD_eq_getElem?_getD, hlt, hs, e2, hj', enc_length]
 rw [List.getElem?_eq_getElem hj']
 rfl

theorem RL_zero (t : ET) (n : Nat) : RL cx ok w t (List.replicate n (dflt t)) (madeCells ((enc t (dflt t)).map zval).toArray (n * width t)).toList := by
 intro i j hi hj
 have hi' : i < n := by simpa using hi
 rw [madeCells_getD t n hi' hj]
 have e : cellAt t (List.replicate n (dflt t)) i j = (enc t (dflt t)).getD j .nils := by
  unfold cellAt
  congr 2
  simp [List.getD_eq_getElem?_getD, hi']
 rw [e]
 exact RD_zero (zero_dflt t _ (getD_mem (by rw [enc_length]; exact hj)))

theorem does_makeSlice (hcx : CxOk P cx) (hi : Inv cx ok w0 ρ st a w) {nm : Nat} (hρ : ρ nm = none) (hl : nm < st.heap.length) (hk : lk st.heap nm = none) {o : Oper} {T e : TypeId} {t : ET} {sz : Nat} {z : List D} {es : List (Option ET)} {x y : Operand} {n m : Int} (ho : o.op = .makeSlice T x y)
    (hT : cx.tt T = some ⟨.slice e t, sz, z, es⟩) (hx : opv st.env x = .v false [.d (.sc (.int .i64 n))]) (hy : opv st.env y = .v false [.d (.sc (.int .i64 m))]) (h0 : 0 ≤ n) (h1 : n ≤ 1048576) (h2 : n = m) :
    Does P cx ok w0 ρ st a w nm o (.v false [.own nm t true 0 n.toNat]) (st.heap.set nm (some (.arr e t (List.replicate n.toNat (dflt t))))) := by
 subst h2
 obtain ⟨hu, ie, hie, hsz, hz⟩ := und_of hcx hT
 have hte := hcx.ty _ _ hie
 obtain ⟨inf, g1, g2, g3, g4⟩ := hte.info
 have hcells := zval_cells hte hz hsz
 have hrun := run_make (P := P) w T e inf _ hu g1 g3 .i64 .i64 n n h0 (Int.le_refl _) (by
  have : (inf.bytes : Int) * n ≤ 4096 * 1048576 := Int.mul_le_mul (by omega) h1 h0 (by omega)
  omega) (by omega)
 rw [hcells, g2, hsz] at hrun
 have key := new_arr (h := st.heap) hi.hv hρ hl hk (T := e) (full := true) (cap := n.toNat) (RL_zero (cx := cx) (ok := okc ok w0.heap.size st.heap ρ) (w := w) t n.toNat) (by simp [size_madeCells]) (by simp [size_madeCells]) (by simp) (fun _ => by simp)
 obtain ⟨k1, k2⟩ := key
 have hx' := ext_new hi.hv hρ (.cells (madeCells ((enc t (dflt t)).map zval).toArray (n.toNat * width t)) e) (some (.arr e t (List.replicate n.toNat (dflt t))))
 refine ⟨_, _, _, _, ?_, .inl rfl, fun q hq => upd_ne hq, hx', by simpa using k1, RV_of_c (by simpa using k2)⟩
 simp [execOp, ho, op_sc hi hx, op_sc hi hy, Sc.val, hrun]

theorem rows_ok (hcx : CxOk P cx) (hi : Inv cx ok w0 ρ st a w) {e : TypeId} {t : ET} {h' : Heap} : ∀ (parts : List (Nat × Operand)) (l l' : List (Ty t)) (ks ks' : List Nat) (p p' : Bool) (vs : List Value), rowsB cx e t st.env st.heap parts l ks p = some (l', ks', p') → p' = true →
    Less st.heap h' ks' → vs.length = l.length * width t → RL cx (okc ok w0.heap.size h' ρ) w t l vs →
     (∀ n ∈ ks, n ∈ ks') ∧ p = true ∧ l'.length = l.length ∧ ∃ vs' : List Value, Instr.fill (fun i => some (i * width t, width t)) vs.toArray (parts.map fun (i, x) => (i, a.eval x)) = some vs'.toArray ∧ vs'.length = l'.length * width t ∧ RL cx (okc ok w0.heap.size h' ρ) w t l' vs'
 | [], l, l', ks, ks', p, p', vs, h, hp, hl, hv, hr => by
  simp only [rowsB, Option.some.injEq, Prod.mk.injEq] at h
  obtain ⟨rfl, rfl, rfl⟩ := h
  exact ⟨fun _ h => h, hp, rfl, vs, rfl, hv, hr⟩
 | (i, x) :: r, l, l', ks, ks', p, p', vs, h, hp, hl, hv, hr => by
  have hx := RV_norm (T := e) (RV_op hi x)
  unfold rowsB at h
  split at h
  ·rename_i g ys hn
   rw [hn] at hx
   split at h
   ·rename_i ds k q hd
    split at h
    ·rename_i y hy
     split at h
     ·rename_i hlt
      obtain ⟨us, e1, e2, _⟩ := RA_cells hx
      have hin : ∀ (l2 : List (Ty t)) (r2 : List (Nat × Operand)) (ks2 : List Nat) (p2 : Bool), rowsB cx e t st.env st.heap r2 l2 ks2 p2 = some (l', ks', p') → (∀ n ∈ ks2, n ∈ ks') ∧ p2 = true := by
       intro l2 r2
       induction r2 generalizing l2 with
       | nil =>
        intro ks2 p2 h2
        simp only [rowsB, Option.some.injEq, Prod.mk.injEq] at h2
        obtain ⟨_, rfl, rfl⟩ := h2
        exact ⟨fun _ h => h, hp⟩
       | cons z r2 ih =>
        intro ks2 p2 h2
        unfold rowsB at h2
        repeat (split at h2 <;> try cases h2)
        have := ih _ _ _ h2
        simp only [Bool.and_eq_true] at this
        exact ⟨fun n hn => this.1 n (List.mem_append.2 (.inl hn)), this.2.1⟩
      obtain ⟨hks, hpq⟩ := hin _ _ _ _ h
      simp only [Bool.and_eq_true] at hpq
      obtain ⟨d1, d2⟩ := demL_ok hi.hv ys ds k q us hd hpq.2 (hl.sub fun n hn => hks n (List.mem_append.2 (.inr hn))) e2
      obtain ⟨d3, d4⟩ := dec_ok (cx := cx) (ok := okc ok w0.heap.size h' ρ) (w := w) t ds y hy
      have hul : us.length = width t := by rw [d1, d3]
      have hfit : i * width t + us.length ≤ vs.length := by
       rw [hv, hul]
       have : (i + 1) * width t ≤ l.length * width t := Nat.mul_le_mul_right _ hlt
       rw [Nat.add_mul, Nat.one_mul] at this
       exact this
      obtain ⟨_, _, g3, vs', g4, g5, g6⟩ := rows_ok hcx hi r (l.set i y) l' _ ks' _ p' (putL vs (i * width t) us) h hp hl (by rw [putL_length, hv]; simp) (fun i' j' hi' hj' => by
       have hi2 : i' < l.length := by simpa using hi'
       rw [putL_getD undef us vs _ _ hfit]
       by_cases hik : i' = i
       ·subst hik
        have ec : cellAt t (l.set i' y) i' j' = (enc t y).getD j' .nils := by
         unfold cellAt
         congr 2
         simp [List.getD_eq_getElem?_getD, List.getElem?_set, hi2]
        rw [ec, if_pos (by omega), show i' * width t + j' - i' * width t = j' from by omega]
        exact d4 j' _ hj' (d2 j' (by omega))
       ·have ec : cellAt t (l.set i y) i' j' = cellAt t l i' j' := by
          unfold cellAt
          congr 2
          simp [List.getD_eq_getElem?_getD, List.getElem?_set, show ¬ i = i' from fun e => hik e.symm]
        rw [ec, if_neg]
        ·exact hr i' j' hi2 hj'
        ·intro hin
         rcases Nat.lt_or_ge i' i with hlt' | hge
         ·have : (i' + 1) * width t ≤ i * width t := Nat.mul_le_mul_right _ hlt'
          rw [Nat.add_mul, Nat.one_mul] at this
          omega
         ·have : (i + 1) * width t ≤ i' * width t := Nat.mul_le_mul_right _ (by omega)
          rw [Nat.add_mul, Nat.one_mul] at this
          omega)
      refine ⟨fun n hn => hks n (List.mem_append.2 (.inl hn)), hpq.1, by simpa using g3, vs', ?_, g5, g6⟩
      have hzip : (us.toArray.zipIdx.foldl (fun (cs : Array Value) (x : Value × Nat) => cs.setIfInBounds (i * width t + x.2) x.1) vs.toArray) = (putL vs (i * width t) us).toArray := by
       apply Array.ext'
       have := fold_put us 0 vs.toArray (i * width t)
       simpa using this
      simp only [List.map_cons, Instr.fill, e1, List.size_toArray]
      rw [if_neg]
      ·rw [hzip]; exact g4
      ·simp; omega
     ·cases h
    ·cases h
   ·cases h
  ·cases h

theorem does_buildSlice (hcx : CxOk P cx) (hi : Inv cx ok w0 ρ st a w) {nm : Nat} (hρ : ρ nm = none) (hl : nm < st.heap.length) (hk : lk st.heap nm = none) {o : Oper} {T e : TypeId} {t : ET} {sz n : Nat} {z : List D} {es : List (Option ET)} {parts : Array (Nat × Operand)} {l : List (Ty t)} {ks : List Nat} {p : Bool}
    (ho : o.op = .buildSlice T n parts) (hT : cx.tt T = some ⟨.slice e t, sz, z, es⟩) (hr : rowsB cx e t st.env st.heap parts.toList (List.replicate n (dflt t)) [] true = some (l, ks, p)) (hp : p = true) (hn : n ≤ 1000) :
    Does P cx ok w0 ρ st a w nm o (.v false [.own nm t true 0 n]) ((kill st.heap ks).set nm (some (.arr e t l))) := by
 obtain ⟨hu, ie, hie, hsz, hz⟩ := und_of hcx hT
 have hte := hcx.ty _ _ hie
 obtain ⟨inf, g1, g2, g3, g4⟩ := hte.info
 have hcells := zval_cells hte hz hsz
 have hless := Less.kill st.heap ks
 obtain ⟨_, _, hll, vs', f1, f2, f3⟩ := rows_ok hcx hi parts.toList (List.replicate n (dflt t)) l [] ks true p (madeCells ((enc t (dflt t)).map zval).toArray (n * width t)).toList hr hp hless (by simp [size_madeCells]) (RL_zero t n)
 have hll' : l.length = n := by simpa using hll
 have hrun : (Instr.buildSlice T n (parts.map fun (i, x) => (i, a.eval x))).run P w = .ok (.slice (some ⟨w.heap.size, 0, none⟩) n n) (w.alloc (.cells vs'.toArray e)) := by
  have hw : width t ≤ 7 := by cases t <;> decide
  have hsmall : ¬ n * inf.size > 2 ^ 24 := by
   rw [g2, hsz]
   have : n * width t ≤ 1000 * 7 := Nat.mul_le_mul hn hw
   omega
  have hfill : Instr.fill (fun i => some (i * inf.size, inf.size)) (madeCells ((enc t (dflt t)).map zval).toArray (n * inf.size)) (parts.map fun (i, x) => (i, a.eval x)).toList = some vs'.toArray := by
   rw [g2, hsz, Array.toList_map]
   simpa using f1
  by_cases h0 : n * inf.size = 0
  ·have hn0 : n = 0 := by
     rcases Nat.mul_eq_zero.1 h0 with h | h
     ·exact h
     ·rw [g2, hsz] at h; have := width_pos t; omega
   subst hn0
   have hv0 : vs' = [] := by
    apply List.length_eq_zero_iff.1
    rw [f2, hll', Nat.zero_mul]
   subst hv0
   have hpe : parts.toList = [] := by
    cases hpl : parts.toList with
    | nil => rfl
    | cons q r =>
     rw [hpl] at hr
     unfold rowsB at hr
     repeat (split at hr <;> try cases hr)
     all_goals (rename_i hlt; simp at hlt)
   have hpe' : parts = #[] := Array.toList_inj.1 hpe
   subst hpe'
   simp only [Instr.buildSlice, Sem.run_bind, run_underlying hu, Result.andThen_ok]
   simp [sizeOf, typeInfo, g1, newRow, Instr.fill, Array.range_zero']
  ·have := run_buildSlice w T e n (parts.map fun (i, x) => (i, a.eval x)) vs'.toArray inf _ hu g1 g3 hsmall h0 (by rw [hcells]; exact hfill)
   exact this
 have hk' : lk (kill st.heap ks) nm = none := by
  rw [lk_kill]
  split
  ·rfl
  ·exact hk
 have key := new_arr (h := kill st.heap ks) (HInv.kills ks hi.hv) hρ (by rw [kill_length]; exact hl) hk' (T := e) (full := true) (cap := n) f3 (by omega) (by rw [f2, hll']; exact Nat.le_refl _) (by omega) (fun _ => hll'.symm)
 rw [hll'] at key
 have hx' := ext_new (HInv.kills ks hi.hv) hρ (.cells vs'.toArray e) (some (.arr e t l))
 refine ⟨_, _, _, _, ?_, .inl rfl, fun q hq => upd_ne hq, fun N => (hless.ext N).trans (hx' N), key.1, RV_of_c key.2⟩
 simp [execOp, ho, hrun]
end
end Go.Eng
/- Operations that make memory, third part: append. -/
set_option linter.unusedVariables false
set_option linter.unusedSimpArgs false
namespace Go.Eng
open Go Go.RowKit

section
variable {P : Program} {cx : Cx} {ok : Nat → Prop} {w0 : World} {ρ : Rho} {st : St} {a : Act} {w : World} {h : Heap}

theorem move_ok (hi : HInv cx ok w0 ρ h w) {n nm : Nat} {w' : World} (hs : (lk h n).isSome = true) (hne : n ≠ nm) (hρ : ρ nm = none) (hl : nm < h.length) (hk : lk h nm = none) (hw : ∀ k, ρ n ≠ some k → w'.heap[k]? = w.heap[k]?) (hsz : w'.heap.size = w.heap.size)
    (hroom : ∀ k, World.roomOf w' k = World.roomOf w k) (hB : Below w0.heap.size w0 w') {blk : Blk}
    (hblk : RB cx (upd ρ nm (ρ n)) (okc ok w0.heap.size ((h.set n none).set nm (some blk)) (upd ρ nm (ρ n))) w' nm blk) :
    (∀ N, Ext N (okc ok w0.heap.size h ρ) (okc ok w0.heap.size ((h.set n none).set nm (some blk)) (upd ρ nm (ρ n))) ρ (upd ρ nm (ρ n)) w w') ∧ HInv cx ok w0 (upd ρ nm (ρ n)) ((h.set n none).set nm (some blk)) w' := by
 have hlk : ∀ m, m ≠ nm → lk ((h.set n none).set nm (some blk)) m = if m = n then none else lk h m := fun m hm => by
  rw [lk_set_ne hm, lk_set]
  by_cases e : m = n
  ·rw [if_pos ⟨e, lk_lt hs⟩, if_pos e]
  ·rw [if_neg (fun x => e x.1), if_neg e]
 have live : ∀ m, m ≠ nm → (lk ((h.set n none).set nm (some blk)) m).isSome = true → m ≠ n ∧ (lk h m).isSome = true := fun m hm hx => by
  rw [hlk m hm] at hx
  split at hx
  ·cases hx
  ·rename_i e; exact ⟨e, hx⟩
 have hx : ∀ N, Ext N (okc ok w0.heap.size h ρ) (okc ok w0.heap.size ((h.set n none).set nm (some blk)) (upd ρ nm (ρ n))) ρ (upd ρ nm (ρ n)) w w' := fun N =>
  ⟨fun m b _ hm => by
   have : m ≠ nm := fun e => by rw [e, hρ] at hm; cases hm
   rw [upd_ne this]; exact hm,
   fun k _ ho => hw k (ho.2 n hs),
   fun k _ ho => ⟨ho.1, fun m hm => by
    by_cases e : m = nm
    ·rw [e, upd_same]; exact ho.2 n hs
    ·rw [upd_ne e]; exact ho.2 m (live m e hm).2⟩,
   fun k _ => hroom k, by rw [hsz]; exact Nat.le_refl _⟩
 refine ⟨hx, fun m c hm => ?_, fun m1 m2 k h1 h2 g1 g2 => ?_, fun m k hm => ?_, fun m hm => ?_, hB⟩
 ·by_cases e : m = nm
  ·subst e
   rw [lk_set_same (by simpa using hl)] at hm
   injection hm with hm; subst hm; exact hblk
  ·have hlv := live m e (by rw [hm]; rfl)
   rw [hlk m e, if_neg hlv.1] at hm
   refine Ext.all_B hx hi.lt (fun k hk2 => hw k (fun e2 => hlv.1 (hi.inj m n k hlv.2 hs hk2 e2))) (fun h0 => by rw [upd_ne e]; exact h0) (hi.heap m c hm)
 ·by_cases e1 : m1 = nm <;> by_cases e2 : m2 = nm
  ·rw [e1, e2]
  ·rw [e1, upd_same] at g1; rw [upd_ne e2] at g2
   have := live m2 e2 h2
   exact absurd (hi.inj m2 n k this.2 hs g2 g1) this.1
  ·rw [e2, upd_same] at g2; rw [upd_ne e1] at g1
   have := live m1 e1 h1
   exact absurd (hi.inj m1 n k this.2 hs g1 g2) this.1
  ·rw [upd_ne e1] at g1; rw [upd_ne e2] at g2
   exact hi.inj m1 m2 k (live m1 e1 h1).2 (live m2 e2 h2).2 g1 g2
 ·by_cases e : m = nm
  ·rw [e, upd_same] at hm; have := hi.own n k hm; exact ⟨this.1, by rw [hsz]; exact this.2⟩
  ·rw [upd_ne e] at hm; have := hi.own m k hm; exact ⟨this.1, by rw [hsz]; exact this.2⟩
 ·have hm' : h.length ≤ m := by simpa using hm
  have : m ≠ nm := fun e => by omega
  rw [upd_ne this]; exact hi.fresh m hm'

theorem cellAt_append {t : ET} {l m : List (Ty t)} {i j : Nat} : cellAt t (l ++ m) i j = if i < l.length then cellAt t l i j else cellAt t m (i - l.length) j := by
 unfold cellAt
 split
 ·rename_i hi
  congr 2
  simp [List.getD_eq_getElem?_getD, List.getElem?_append, hi]
 ·rename_i hi
  congr 2
  simp [List.getD_eq_getElem?_getD, List.getElem?_append, hi]

theorem RL_append {t : ET} {l m : List (Ty t)} {us vs rest : List Value} (h1 : us.length = l.length * width t) (h2 : vs.length = m.length * width t) (r1 : RL cx ok w t l us) (r2 : RL cx ok w t m vs) : RL cx ok w t (l ++ m) (us ++ vs ++ rest) := by
 intro i j hi hj
 rw [cellAt_append]
 rw [List.length_append] at hi
 split
 ·rename_i h
  have hlt := idx_lt h hj
  have := r1 i j h hj
  rw [show (us ++ vs ++ rest).getD (i * width t + j) undef = us.getD (i * width t + j) undef from by
   rw [List.append_assoc]
   simp [List.getD_eq_getElem?_getD, List.getElem?_append, show i * width t + j < us.length by omega]]
  exact this
 ·rename_i h
  have h' : i - l.length < m.length := by omega
  have hlt := idx_lt h' hj
  have := r2 (i - l.length) j h' hj
  have e : i * width t + j = us.length + ((i - l.length) * width t + j) := by
   rw [h1, ← Nat.add_assoc, ← Nat.add_mul]
   congr 2
   omega
  rw [show (us ++ vs ++ rest).getD (i * width t + j) undef = vs.getD ((i - l.length) * width t + j) undef from by
   rw [e, List.append_assoc]
   simp [List.getD_eq_getElem?_getD, List.getElem?_append, show (i - l.length) * width t + j < vs.length by omega]
   rw [if_neg (by omega)]
   rfl]
  exact this

theorem RL_take {t : ET} {l : List (Ty t)} {vs vs' : List Value} {n : Nat} (hn : n ≤ l.length) (r : RL cx ok w t l vs) (hv : ∀ q, q < n * width t → vs'.getD q undef = vs.getD q undef) : RL cx ok w t (l.take n) vs' := by
 intro i j hi hj
 have hi' : i < n := by simp at hi; omega
 rw [hv _ (idx_lt hi' hj)]
 have e : cellAt t (l.take n) i j = cellAt t l i j := by
  unfold cellAt
  congr 2
  simp [List.getD_eq_getElem?_getD, hi']
 rw [e]
 exact r i j (by omega) hj

theorem run_grow {T T2 e ty e2 : TypeId} {ie : TI} {t : ET} {lb lx : List (Ty t)} {f1 f2 o1 o2 : Bool} {d1 d2 : List Nat} {vb vx : Value} {A A2 : Option Addr} {cap cap2 : Nat} {olds news : List Value} (hu : P.underlying T = some (.slice e)) (hu2 : P.underlying T2 = some (.slice e2)) (hte : TyOk P cx e ie) (hsz : ie.size = width t)
    (hz : ie.zero.map zval = (enc t (dflt t)).map zval) (rb : SlRead cx ok w ⟨t, lb, f1, d1, o1⟩ vb A cap olds) (rx : SlRead cx ok w ⟨t, lx, f2, d2, o2⟩ vx A2 cap2 news) (hg : cap < lb.length + lx.length) (hb : (bif cx.wide then decide ((lb.length + lx.length) * szB t ≤ 140737488355328) else decide (lb.length + lx.length ≤ 1048576)) = true) (hby : ∀ inf, P.info? e = some inf → inf.bytes ≤ szB t) :
    ∃ cap' rest, (Builtin.append_ #[T, T2] ty #[vb, vx]).run P w = .ok (.slice (some ⟨w.heap.size, 0, none⟩) (lb.length + lx.length) cap') (w.drew.alloc (.cells (olds ++ news ++ rest).toArray e)) ∧ lb.length + lx.length ≤ cap' ∧ (olds ++ news ++ rest).length = cap' * width t := by
 obtain ⟨inf, g1, g2, g3, g4⟩ := hte.info
 have hcells := zval_cells hte hz hsz
 have hsb := rb.src (P := P) hu
 have hsx := rx.src (P := P) hu2
 simp only at hsb hsx
 have hw : inf.size = width t := by rw [g2, hsz]
 have hby' := hby inf g1
 have hsz4 : 1 ≤ szB t ∧ szB t ≤ 104 := by cases t <;> decide
 have hfit : Builtin.nextslicecap (lb.length + lx.length) cap * inf.bytes ≤ 281474976710656 ∧ lb.length + lx.length ≤ 140737488355328 := by
  have h1 := nextslicecap_le_wide hg
  generalize lb.length + lx.length = n at h1 hb
  cases hwd : cx.wide with
  | false =>
   rw [hwd] at hb
   simp only [cond_false, decide_eq_true_eq] at hb
   have h2 : Builtin.nextslicecap n cap * inf.bytes ≤ 1400000 * 4096 := Nat.mul_le_mul (by omega) g4
   omega
  | true =>
   rw [hwd] at hb
   simp only [cond_true, decide_eq_true_eq] at hb
   have h2 : Builtin.nextslicecap n cap * inf.bytes ≤ (n + n / 4 + 192) * szB t := Nat.mul_le_mul h1 hby'
   have h3 : (n + n / 4 + 192) * szB t = n * szB t + n / 4 * szB t + 192 * szB t := by rw [Nat.add_mul, Nat.add_mul]
   have h4 : 4 * (n / 4 * szB t) ≤ n * szB t := by rw [← Nat.mul_assoc]; exact Nat.mul_le_mul_right _ (by omega)
   have h5 : n ≤ n * szB t := Nat.le_mul_of_pos_right _ hsz4.1
   omega
 have hv := rb.shape
 have hcd := hsb.cellsD
 simp only at hv
 rw [hv] at hcd
 have hrun := run_append_grow_src w T T2 ty e inf _ hu g1 g3 A lb.length cap olds (by rw [hw]; exact hcd) vx lx.length news (by rw [hw]; exact hsx) hg (by have := hfit.2; omega) hfit.1
 rw [← hv, hcells] at hrun
 refine ⟨grownCap w (lb.length + lx.length) cap e, (Builtin.zeroCells ((enc t (dflt t)).map zval).toArray (grownCap w (lb.length + lx.length) cap e - (lb.length + lx.length))).toList, ?_, grownCap_ge w _ _ _, ?_⟩
 ·rw [hrun]
  congr 3
  apply Array.ext'
  simp
 ·have l1 := rb.len
  have l2 := rx.len
  simp only at l1 l2
  have hge := grownCap_ge w (lb.length + lx.length) cap e
  simp only [List.length_append, l1, l2, Array.length_toList, size_zeroCells]
  rw [← Nat.add_mul, show ((enc t (dflt t)).map zval).toArray.size = width t from by simp [enc_length], ← Nat.add_mul]
  congr 1
  omega

theorem grown_arr (hi : HInv cx ok w0 ρ h w) {h1 : Heap} {ks : List Nat} (hless : Less h h1 ks) (hi1 : HInv cx ok w0 ρ h1 w) {nm : Nat} (hρ : ρ nm = none) (hl : nm < h1.length) (hk : lk h1 nm = none) {e : TypeId} {t : ET} {lb lx : List (Ty t)} {olds news rest : List Value} {cap' : Nat}
    (l1 : olds.length = lb.length * width t) (l2 : news.length = lx.length * width t) (r1 : RL cx (okc ok w0.heap.size h ρ) w t lb olds) (r2 : RL cx (okc ok w0.heap.size h ρ) w t lx news) (hc1 : lb.length + lx.length ≤ cap') (hc2 : (olds ++ news ++ rest).length = cap' * width t) :
    (∀ N, Ext N (okc ok w0.heap.size h ρ) (okc ok w0.heap.size (h1.set nm (some (.arr e t (lb ++ lx)))) (upd ρ nm (some w.heap.size))) ρ (upd ρ nm (some w.heap.size)) w (w.drew.alloc (.cells (olds ++ news ++ rest).toArray e))) ∧
    HInv cx ok w0 (upd ρ nm (some w.heap.size)) (h1.set nm (some (.arr e t (lb ++ lx)))) (w.drew.alloc (.cells (olds ++ news ++ rest).toArray e)) ∧
    RC cx (upd ρ nm (some w.heap.size)) (okc ok w0.heap.size (h1.set nm (some (.arr e t (lb ++ lx)))) (upd ρ nm (some w.heap.size))) (w.drew.alloc (.cells (olds ++ news ++ rest).toArray e)) (.own nm t false 0 (lb.length + lx.length)) (.slice (some ⟨w.heap.size, 0, none⟩) (lb.length + lx.length) cap') := by
 have hrl : RL cx (okc ok w0.heap.size h1 ρ) w.drew t (lb ++ lx) (olds ++ news ++ rest) := (RL_append l1 l2 r1 r2).ext ((hless.ext (w := w) 0).trans (Ext.drew 0 _ _ _))
 have hcap : (lb ++ lx).length * width t ≤ (olds ++ news ++ rest).length := by
  rw [hc2, List.length_append]
  exact Nat.mul_le_mul_right _ hc1
 have key := new_arr (h := h1) (w := w.drew) hi1.drew hρ hl hk (T := e) (full := false) (cap := cap') hrl hcap (by omega) (by rw [List.length_append]; exact hc1) (fun e => by cases e)
 rw [List.length_append] at key
 refine ⟨fun N => ((hless.ext (w := w) N).trans (Ext.drew N _ _ _)).trans (ext_new (w := w.drew) hi1.drew hρ _ _ N), key.1, key.2⟩

theorem run_builtin {o : Oper} {cl : Call} {b : Builtin} {u : Value} {w' : World} (ho : o.op = .call cl) (hb : cl.callee = .builtin b) (hr : ∀ cs, (builtin b cl.argTypes o.type cs (cl.args.map a.eval)).run P w = .ok (.value u) w') : (execOp a.eval o).run P w = .ok (.value u) w' := by
 simp [execOp, ho, resolve, hb, invoke, hr]

theorem args_two {cl : Call} {x y : Operand} (h : cl.args.toList = [x, y]) : cl.args.map a.eval = #[a.eval x, a.eval y] := by
 have : cl.args = #[x, y] := Array.toList_inj.1 h
 rw [this]; simp
theorem args_one {cl : Call} {x : Operand} (h : cl.args.toList = [x]) : cl.args.map a.eval = #[a.eval x] := by
 have : cl.args = #[x] := Array.toList_inj.1 h
 rw [this]; simp

theorem app_grow (hi : Inv cx ok w0 ρ st a w) {nm : Nat} (hρ : ρ nm = none) (hl : nm < st.heap.length) {o : Oper} {S X : Operand} {T T2 E e2 : TypeId} {t : ET} {ie : TI} {h1 : Heap} {ks : List Nat} (hless : Less st.heap h1 ks) (hi1 : HInv cx ok w0 ρ h1 w) (hl1 : h1.length = st.heap.length) (hk : lk h1 nm = none)
    (run : ∀ u w', (Builtin.append_ #[T, T2] o.type #[a.eval S, a.eval X]).run P w = .ok u w' → (execOp a.eval o).run P w = .ok (.value u) w')
    (hu : P.underlying T = some (.slice E)) (hu2 : P.underlying T2 = some (.slice e2)) (hte : TyOk P cx E ie) (hsz : ie.size = width t) (hz : ie.zero.map zval = (enc t (dflt t)).map zval) {lb lx : List (Ty t)} {f1 f2 o1 o2 : Bool} {d1 d2 : List Nat} {A A2 : Option Addr} {cap cap2 : Nat} {olds news : List Value}
    (rb : SlRead cx (okc ok w0.heap.size st.heap ρ) w ⟨t, lb, f1, d1, o1⟩ (a.eval S) A cap olds) (rx : SlRead cx (okc ok w0.heap.size st.heap ρ) w ⟨t, lx, f2, d2, o2⟩ (a.eval X) A2 cap2 news) (hg : cap < lb.length + lx.length) (hb : (bif cx.wide then decide ((lb.length + lx.length) * szB t ≤ 140737488355328) else decide (lb.length + lx.length ≤ 1048576)) = true) (hby : ∀ inf, P.info? E = some inf → inf.bytes ≤ szB t) :
    Does P cx ok w0 ρ st a w nm o (.v false [.own nm t false 0 (lb.length + lx.length)]) (h1.set nm (some (.arr E t (lb ++ lx)))) := by
 obtain ⟨cap', rest, q1, q2, q3⟩ := run_grow (ty := o.type) hu hu2 hte hsz hz rb rx hg hb hby
 obtain ⟨k1, k2, k3⟩ := grown_arr hi.hv hless hi1 hρ (by omega) hk (e := E) rb.len rx.len rb.rl rx.rl q2 q3
 exact ⟨_, _, _, _, run _ _ q1, .inl rfl, fun q hq => upd_ne hq, k1, k2, RV_of_c k3⟩

theorem does_append (hcx : CxOk P cx) (hi : Inv cx ok w0 ρ st a w) {nm : Nat} (hρ : ρ nm = none) (hl : nm < st.heap.length) (hk : lk st.heap nm = none) {o : Oper} {cl : Call} {S X : Operand} {T T2 : TypeId} {s x : C} {e : Eff} (ho : o.op = .call cl) (hb : cl.callee = .builtin .append)
    (hargs : cl.args.toList = [S, X]) (hts : cl.argTypes.toList = [T, T2]) (hS : opv st.env S = .v false [s]) (hX : opv st.env X = .v false [x]) {e2 : TypeId} {t2 : ET} {n2 : Nat} {z2 : List D} {es2 : List (Option ET)} (hT2 : cx.tt T2 = some ⟨.slice e2 t2, n2, z2, es2⟩)
    (he : appendE cx T nm st.heap s x = some e) (hok : e.ok = true) : Does P cx ok w0 ρ st a w nm o e.val e.heap := by
 have hs := op_c hi hS
 have hx := op_c hi hX
 have hu2 : P.underlying T2 = some (.slice e2) := (und_of hcx hT2).1
 have hty : cl.argTypes = #[T, T2] := Array.toList_inj.1 hts
 have run : ∀ u w', (Builtin.append_ #[T, T2] o.type #[a.eval S, a.eval X]).run P w = .ok u w' → (execOp a.eval o).run P w = .ok (.value u) w' := fun u w' h =>
  run_builtin ho hb (fun cs => by rw [hty, args_two hargs]; simp [builtin, h])
 unfold appendE at he
 split at he
 ·rename_i E t sz z es hT
  obtain ⟨hu, ie, hie, hsz, hz⟩ := und_of hcx hT
  have hte := hcx.ty _ _ hie
  have hby := und_byt hcx hT
  obtain ⟨inf, g1, g2, _⟩ := hte.info
  have hw : inf.size = width t := by rw [g2, hsz]
  have nothing : ∀ (A : Option Addr) (n cap : Nat) (l2 : List (Ty t)) (f2 p : Bool) (r2 : List Nat) (A2 : Option Addr) (cap2 : Nat) (news : List Value), a.eval S = .slice A n cap → n ≤ cap → SlRead cx (okc ok w0.heap.size st.heap ρ) w ⟨t, l2, f2, r2, p⟩ (a.eval X) A2 cap2 news → l2 = [] →
      (Builtin.append_ #[T, T2] o.type #[a.eval S, a.eval X]).run P w = .ok (.slice A n cap) w := by
   intro A n cap l2 f2 p r2 A2 cap2 news hSe hle rx hm
   subst hm
   have hsx := rx.src (P := P) hu2
   have hn0 : news = [] := by have := rx.len; simpa using this
   subst hn0
   rw [hSe]
   exact run_append_nothing w T T2 o.type E inf hu g1 A n cap hle _ (by rw [hw]; exact hsx)
  split at he
  ·cases he
  ·rename_i t' l2 f2 r2 p hsl
   split at he
   ·rename_i ett; subst ett
    simp only at he
    split at he
    ·injection he with he; subst he
     simp only [Bool.and_eq_true, decide_eq_true_eq] at hok
     obtain ⟨A2, cap2, news, rx⟩ := sl_read hi.hv hx hsl hok.1
     have hSe : a.eval S = .slice none 0 0 := by
      generalize a.eval S = vs at hs
      cases hs; rfl
     have rb : SlRead cx (okc ok w0.heap.size st.heap ρ) w ⟨t', [], true, [], true⟩ (a.eval S) none 0 [] := ⟨hSe, Nat.le_refl _, fun _ => rfl, by simp, fun i j hi => by simp at hi, fun hne => absurd rfl hne⟩
     by_cases hm : l2 = []
     ·obtain ⟨q1, q2⟩ := no_arr hi.hv hρ hl hk (T := E) (t := t')
      have := nothing none 0 0 l2 f2 p r2 A2 cap2 news hSe (Nat.le_refl _) rx hm
      subst hm
      exact ⟨ρ, w, _, .slice none 0 0, run _ _ this, .inl rfl, fun _ _ => rfl, q2, q1, RV_of_c ⟨none, 0, rfl, Nat.le_refl _, (fun e => by cases e), (fun e => absurd rfl e)⟩⟩
     ·have hpos : 0 < l2.length := List.length_pos_iff.2 hm
      have := app_grow hi hρ hl (Less.refl _) hi.hv rfl hk run hu hu2 hte hsz hz rb rx (by simpa using hpos) (by simpa using hok.2) hby
      simpa using this
    ·rename_i nl full t'' l
     split at he
     ·rename_i e1; subst e1
      injection he with he; subst he
      simp only [Bool.and_eq_true, Bool.or_eq_true, decide_eq_true_eq] at hok
      obtain ⟨⟨⟨hp, hfull⟩, hem⟩, hbd⟩ := hok
      obtain ⟨A2, cap2, news, rx⟩ := sl_read hi.hv hx hsl hp
      obtain ⟨A, cap, olds, rb⟩ := sl_read hi.hv hs (s := ⟨t'', l, full, [], true⟩) rfl rfl
      have hcap : cap = l.length := rb.full hfull
      by_cases hm : l2 = []
      ·have hl0 : l = [] := by
         rcases hem with h | h
         ·simpa using h
         ·rw [hm] at h; simp at h
       subst hl0
       have hc0 : cap = 0 := by simpa using hcap
       subst hc0
       obtain ⟨q1, q2⟩ := no_arr hi.hv hρ hl hk (T := E) (t := t'')
       have := nothing A 0 0 l2 f2 p r2 A2 cap2 news rb.shape (Nat.le_refl _) rx hm
       subst hm
       exact ⟨ρ, w, _, .slice A 0 0, run _ _ this, .inl rfl, fun _ _ => rfl, q2, q1, RV_of_c ⟨A, 0, rfl, Nat.le_refl _, (fun e => by cases e), (fun e => absurd rfl e)⟩⟩
      ·have hpos : 0 < l2.length := List.length_pos_iff.2 hm
       exact app_grow hi hρ hl (Less.refl _) hi.hv rfl hk run hu hu2 hte hsz hz rb rx (by omega) hbd hby
     ·cases he
    ·rename_i n tn fulln len
     split at he
     ·rename_i E' t'' l hn
      split at he
      ·rename_i e1; subst e1
       split at he
       ·rename_i hcond
        simp only [Bool.and_eq_true, decide_eq_true_eq, beq_iff_eq, Bool.not_eq_true', List.contains_eq_mem, decide_eq_false_iff_not] at hcond
        obtain ⟨⟨htn, hE⟩, hr2⟩ := hcond
        subst htn; subst hE
        injection he with he; subst he
        simp only [Bool.and_eq_true, decide_eq_true_eq] at hok
        obtain ⟨⟨hp, hlen⟩, hbd⟩ := hok
        have hne : n ≠ nm := fun e => by rw [e, hk] at hn; cases hn
        obtain ⟨A2, cap2, news, rx⟩ := sl_read hi.hv hx hsl hp
        obtain ⟨A, cap, olds, rb⟩ := sl_read hi.hv hs (s := ⟨tn, sub l 0 (0 + len), fulln, [n], decide (0 + len ≤ l.length)⟩) (by simp [slOf, hn]) (by simpa using hlen)
        have etake : sub l 0 (0 + len) = l.take len := by simp [sub]
        rw [etake] at rb
        have elen : (l.take len).length = len := by simp; omega
        obtain ⟨A', cap', hSe, hle, hfl, hA⟩ := hs
        have hAA : A = A' ∧ cap = cap' := by
         have := rb.shape
         rw [hSe] at this
         injection this with q1 q2 q3
         exact ⟨q1.symm, q3.symm⟩
        obtain ⟨rfl, rfl⟩ := hAA
        by_cases hg : cap < len + l2.length
        ·have hk1 : lk (st.heap.set n none) nm = none := by rw [lk_set_ne (fun e => hne e.symm)]; exact hk
         have hless : Less st.heap (st.heap.set n none) [n] := by
          have := Less.kill st.heap [n]
          simpa [kill] using this
         have := app_grow hi hρ hl hless (hi.hv.kill n) (by simp) hk1 run hu hu2 hte hsz hz rb rx (by rw [elen]; exact hg) (by rw [elen]; exact hbd) hby
         rw [elen] at this
         exact this
        ·have hRB := hi.heap n _ hn
         by_cases hm : l2 = []
         ·have hrun := nothing A len cap l2 f2 p r2 A2 cap2 news hSe hle rx hm
          have mv := move_ok (w' := w) hi.hv (lk_some hn) hne hρ hl hk (fun _ _ => rfl) rfl (fun _ => rfl) hi.below (blk := .arr E' tn (l.take len ++ l2))
          subst hm
          rw [List.append_nil] at mv ⊢
          have hblk : RB cx (upd ρ nm (ρ n)) (okc ok w0.heap.size ((st.heap.set n none).set nm (some (.arr E' tn (l.take len)))) (upd ρ nm (ρ n))) w nm (.arr E' tn (l.take len)) := by
           rcases hRB with ⟨q1, q2⟩ | ⟨b, vs, q1, q2, q3, q4⟩
           ·exact .inl ⟨by rw [q1]; simp, by rw [upd_same]; exact q2⟩
           ·refine .inr ⟨b, vs, by rw [upd_same]; exact q1, q2, ?_, ?_⟩
            ·rw [elen]; exact Nat.le_trans (Nat.mul_le_mul_right _ hlen) q3
            ·refine RL_take hlen (vs := vs) (fun i j hi' hj => ?_) (fun _ _ => rfl)
             refine (q4 i j hi' hj).ext (fun _ _ _ => rfl) (fun k _ ho => ⟨ho.1, fun m hm => ?_⟩) (Nat.le_refl _)
             by_cases e : m = nm
             ·rw [e, upd_same]; exact ho.2 n (lk_some hn)
             ·rw [upd_ne e]
              rw [lk_set_ne e, lk_set] at hm
              split at hm
              ·cases hm
              ·exact ho.2 m hm
          obtain ⟨k1, k2⟩ := mv hblk
          refine ⟨_, w, _, .slice A len cap, run _ _ hrun, .inl rfl, fun q hq => upd_ne hq, k1, k2, RV_of_c ⟨A, cap, rfl, hle, (fun e => by cases e), fun hc => ?_⟩⟩
          obtain ⟨b, r1, r2, r3⟩ := hA hc
          exact ⟨b, (upd_same _ _ _).trans r1, r2, r3⟩
         ·have hpos : 0 < l2.length := List.length_pos_iff.2 hm
          obtain ⟨b, r1, r2, r3⟩ := hA (by omega)
          rcases hRB with ⟨q1, q2⟩ | ⟨b', vs, q1, q2, q3, q4⟩
          ·rw [r1] at q2; cases q2
          ·rw [r1] at q1; injection q1 with q1; subst q1
           have hroomv : World.roomOf w b = vs.length := by unfold World.roomOf; rw [q2]; simp
           rw [hroomv, Nat.zero_add] at r3
           have hnl := rx.len
           simp only at hnl
           have hfit : len * width tn + news.length ≤ vs.length := by
            rw [hnl, ← Nat.add_mul]
            exact Nat.le_trans (Nat.mul_le_mul_right _ (by omega)) r3
           have hrun : (Builtin.append_ #[T, T2] o.type #[a.eval S, a.eval X]).run P w = .ok (.slice A (len + l2.length) cap) (w.setRow b (vs.take (len * width tn) ++ news ++ vs.drop (len * width tn + news.length)).toArray) := by
            have hsx := rx.src (P := P) hu2
            simp only at hsx
            rw [hSe, r2]
            have hst := run_storeCells_at P b (len * width tn) E' news 0 vs.toArray w q2 (by simpa using hfit) hsx.one
            simp only [Nat.add_zero] at hst
            have hwr : (Builtin.firstCells (width tn) l2.length (a.eval X)).run P w = .ok news.toArray w := hsx.cells
            have hln := hsx.len w
            have hroom' : len + l2.length ≤ cap := by omega
            simp [Builtin.append_, run_underlying hu, run_underlying hu2, sizeOf, typeInfo, g1, hw, hln, hroom', hwr, add_plain, hst]
           have hz' : ((vs.take (len * width tn) ++ news ++ vs.drop (len * width tn + news.length)).toArray).size = (vs.toArray).size := by simp; omega
           have hne' : ∀ k, ρ n ≠ some k → (w.setRow b (vs.take (len * width tn) ++ news ++ vs.drop (len * width tn + news.length)).toArray).heap[k]? = w.heap[k]? := fun k hk => setRow_other w b k _ (fun e => hk (by rw [e]; exact r1))
           have hrm : ∀ k, World.roomOf (w.setRow b (vs.take (len * width tn) ++ news ++ vs.drop (len * width tn + news.length)).toArray) k = World.roomOf w k := fun k => by
            by_cases e : k = b
            ·subst e
             unfold World.roomOf
             rw [q2, setRow_heap w k _ _ _ _ q2]
             exact hz'
            ·exact roomOf_eq (setRow_other w b k _ e)
           have hB : Below w0.heap.size w0 (w.setRow b (vs.take (len * width tn) ++ news ++ vs.drop (len * width tn + news.length)).toArray) := hi.below.trans ⟨rfl, rfl, rfl, by simp, fun k hk => setRow_other w b k _ (by have := (hi.own n b r1).1; omega)⟩
           have mv := move_ok hi.hv (lk_some hn) hne hρ hl hk hne' (by simp) hrm hB (blk := .arr E' tn (l.take len ++ l2))
           have hoks : ∀ k, okc ok w0.heap.size st.heap ρ k → okc ok w0.heap.size ((st.heap.set n none).set nm (some (.arr E' tn (l.take len ++ l2)))) (upd ρ nm (ρ n)) k := fun k ho => ⟨ho.1, fun m hm => by
            by_cases e : m = nm
            ·rw [e, upd_same]; exact ho.2 n (lk_some hn)
            ·rw [upd_ne e]
             rw [lk_set_ne e, lk_set] at hm
             split at hm
             ·cases hm
             ·exact ho.2 m hm⟩
           have hcell : ∀ k, okc ok w0.heap.size st.heap ρ k → (w.setRow b (vs.take (len * width tn) ++ news ++ vs.drop (len * width tn + news.length)).toArray).heap[k]? = w.heap[k]? := fun k ho => hne' k (ho.2 n (lk_some hn))
           have hblk : RB cx (upd ρ nm (ρ n)) (okc ok w0.heap.size ((st.heap.set n none).set nm (some (.arr E' tn (l.take len ++ l2)))) (upd ρ nm (ρ n))) (w.setRow b (vs.take (len * width tn) ++ news ++ vs.drop (len * width tn + news.length)).toArray) nm (.arr E' tn (l.take len ++ l2)) := by
            refine .inr ⟨b, _, by rw [upd_same]; exact r1, setRow_heap w b _ _ _ _ q2, ?_, ?_⟩
            ·rw [List.length_append, elen, Nat.add_mul, ← hnl]
             simp; omega
            ·refine RL_append (by rw [elen, List.length_take]; have : len * width tn ≤ vs.length := by omega
                                  omega) hnl ?_ ?_
             ·refine RL_take hlen (vs := vs) (fun i j hi' hj => (q4 i j hi' hj).ext (fun k _ ho => hcell k ho) (fun k _ ho => hoks k ho) (by simp)) (fun q hq => ?_)
              simp [List.getD_eq_getElem?_getD, List.getElem?_take, hq]
             ·exact fun i j hi' hj => (rx.rl i j hi' hj).ext (fun k _ ho => hcell k ho) (fun k _ ho => hoks k ho) (by simp)
           obtain ⟨k1, k2⟩ := mv hblk
           refine ⟨_, _, _, .slice A (len + l2.length) cap, run _ _ hrun, .inl rfl, fun q hq => upd_ne hq, k1, k2, RV_of_c ⟨A, cap, rfl, by omega, (fun e => by cases e), fun hc => ⟨b, (upd_same _ _ _).trans r1, by rw [r2], ?_⟩⟩⟩
           rw [hrm b, hroomv, Nat.zero_add]
           exact r3
       ·cases he
      ·cases he
     ·cases he
    ·cases he
   ·cases he
 ·cases he
end
end Go.Eng
/- copy, clear. -/
set_option linter.unusedVariables false
set_option linter.unusedSimpArgs false
namespace Go.Eng
open Go Go.RowKit

section
variable {P : Program} {cx : Cx} {ok : Nat → Prop} {w0 : World} {ρ : Rho} {st : St} {a : Act} {w : World} {h : Heap}

theorem RL_put {t : ET} {l m : List (Ty t)} {vs us : List Value} {off : Nat} (hm : off + m.length ≤ l.length) (hv : l.length * width t ≤ vs.length) (hu : us.length = m.length * width t) (r1 : RL cx ok w t l vs) (r2 : RL cx ok w t m us) :
    RL cx ok w t (putL l off m) (putL vs (off * width t) us) := by
 intro i j hi hj
 rw [putL_length] at hi
 have hfit : off * width t + us.length ≤ vs.length := by
  rw [hu, ← Nat.add_mul]
  exact Nat.le_trans (Nat.mul_le_mul_right _ hm) hv
 have hc : cellAt t (putL l off m) i j = if off ≤ i ∧ i < off + m.length then cellAt t m (i - off) j else cellAt t l i j := by
  unfold cellAt
  rw [putL_getD (dflt t) m l off i hm]
  split <;> rfl
 rw [hc, putL_getD undef us vs _ _ hfit]
 by_cases hin : off ≤ i ∧ i < off + m.length
 ·have h1 : i - off < m.length := by omega
  have e : i * width t + j - off * width t = (i - off) * width t + j := by
   have : i * width t = off * width t + (i - off) * width t := by rw [← Nat.add_mul]; congr 1; omega
   omega
  have hlt := idx_lt h1 hj
  have hge : off * width t ≤ i * width t := Nat.mul_le_mul_right _ hin.1
  rw [if_pos hin, if_pos (by omega), e]
  exact r2 _ _ h1 hj
 ·rw [if_neg hin, if_neg]
  ·exact r1 i j hi hj
  ·intro hx
   apply hin
   rw [hu, ← Nat.add_mul] at hx
   constructor
   ·rcases Nat.lt_or_ge i off with h | h
    ·have : (i + 1) * width t ≤ off * width t := Nat.mul_le_mul_right _ h
     rw [Nat.add_mul, Nat.one_mul] at this
     omega
    ·exact h
   ·rcases Nat.lt_or_ge i (off + m.length) with h | h
    ·exact h
    ·have : (off + m.length) * width t ≤ i * width t := Nat.mul_le_mul_right _ h
     omega

theorem set_self {h : Heap} {n : Nat} {b : Option Blk} (e : lk h n = b) (hs : b.isSome = true) : h.set n b = h := by
 apply List.ext_getElem?
 intro m
 rw [List.getElem?_set]
 by_cases hm : n = m
 ·subst hm
  have hl : n < h.length := lk_lt (by rw [e]; exact hs)
  simp only [if_true, hl]
  rw [← e, lk, List.getD_eq_getElem?_getD, List.getElem?_eq_getElem hl]
  rfl
 ·rw [if_neg hm]

theorem does_part (hi : Inv cx ok w0 ρ st a w) {nm : Nat} {o : Oper} {n off : Nat} {B : TypeId} {t : ET} {l m : List (Ty t)} {us : List Value} {v : V} {x : Value} (hn : lk st.heap n = some (.arr B t l)) (hm : off + m.length ≤ l.length) (hne : m ≠ [])
    (hu : us.length = m.length * width t) (r2 : RL cx (okc ok w0.heap.size st.heap ρ) w t m us) {b : Nat} (hb : ρ n = some b) (hv : ∀ ok' w', RV cx ρ ok' w' v x)
    (run : ∀ vs : List Value, w.heap[b]? = some (.cells vs.toArray B (0, 0)) → off * width t + us.length ≤ vs.length → (execOp a.eval o).run P w = .ok (.value x) (w.setRow b (vs.take (off * width t) ++ us ++ vs.drop (off * width t + us.length)).toArray)) :
    Does P cx ok w0 ρ st a w nm o v (st.heap.set n (some (.arr B t (l.take off ++ m ++ l.drop (off + m.length))))) := by
 rcases hi.heap n _ hn with ⟨_, q2⟩ | ⟨b', vs, q1, q2, q3, q4⟩
 ·rw [hb] at q2; cases q2
 ·rw [hb] at q1; injection q1 with q1; subst q1
  have hfit : off * width t + us.length ≤ vs.length := by
   rw [hu, ← Nat.add_mul]
   exact Nat.le_trans (Nat.mul_le_mul_right _ hm) q3
  have hrun := run vs q2 hfit
  rw [← putL_eq us vs _ hfit] at hrun
  rw [← putL_eq m l off hm]
  have hz : ((putL vs (off * width t) us).toArray).size = (vs.toArray).size := by simp [putL_length]
  have hx := fun N => ext_write hi.hv (lk_some hn) hb q2 hz (.arr B t (putL l off m)) N
  refine ⟨ρ, _, _, x, hrun, .inl rfl, fun _ _ => rfl, hx, hi.hv.write (lk_some hn) hb q2 hz _ (.inr ⟨b, _, hb, setRow_heap w b _ _ _ _ q2, by simpa [putL_length] using q3, ?_⟩), hv _ _⟩
  exact (RL_put hm q3 hu (fun i j hi' hj => q4 i j hi' hj) r2).ext (hx 0)

theorem does_none (hi : Inv cx ok w0 ρ st a w) {nm : Nat} {o : Oper} {n : Nat} {blk : Blk} {v : V} {x : Value} (hn : lk st.heap n = some blk) (hv : ∀ ok' w', RV cx ρ ok' w' v x) (run : (execOp a.eval o).run P w = .ok (.value x) w) :
    Does P cx ok w0 ρ st a w nm o v (st.heap.set n (some blk)) := by
 rw [set_self hn rfl]
 exact ⟨ρ, w, _, x, run, .inl rfl, fun _ _ => rfl, fun N => Ext.refl N _ _ _, hi.hv, hv _ _⟩

theorem firstCells_take {s : Sl} {v : Value} {A : Option Addr} {cap k : Nat} {vs : List Value} (hr : SlRead cx ok w s v A cap vs) (hk : k ≤ s.l.length) : (Builtin.firstCells (width s.t) k v).run P w = .ok (vs.take (k * width s.t)).toArray w := by
 obtain ⟨rfl, h1, h2, h3, h4, h5⟩ := hr
 by_cases hl : s.l = []
 ·have e0 : s.l.length = 0 := by rw [hl]; rfl
  have ev : vs = [] := by apply List.length_eq_zero_iff.1; rw [h3, e0, Nat.zero_mul]
  have ek : k = 0 := by omega
  subst ek; subst ev
  cases A with
  | none => simpa using run_firstCells_none (P := P) w (width s.t) 0 s.l.length cap
  | some b => simpa using run_firstCells_some (P := P) w (width s.t) 0 b s.l.length cap [] (by simp) (fun j u hj => by simp at hj)
 ·obtain ⟨b, off, rfl, hc⟩ := h5 hl
  have hkl : k * width s.t ≤ vs.length := by rw [h3]; exact Nat.mul_le_mul_right _ hk
  refine run_firstCells_some (P := P) w (width s.t) k _ _ cap (vs.take (k * width s.t)) (by simp; omega) (fun j u hj => ?_)
  have hj' : j < k * width s.t := by
   rcases Nat.lt_or_ge j (k * width s.t) with h | h
   ·exact h
   ·rw [List.getElem?_eq_none (by simp; omega)] at hj; cases hj
  rw [add_plain, hc j (by omega)]
  rw [List.getElem?_take, if_pos hj'] at hj
  rw [List.getD_eq_getElem?_getD, hj]
  rfl

theorem does_copy (hcx : CxOk P cx) (hi : Inv cx ok w0 ρ st a w) {nm : Nat} {o : Oper} {cl : Call} {S X : Operand} {T T2 : TypeId} {s x : C} {e : Eff} (ho : o.op = .call cl) (hb : cl.callee = .builtin .copy)
    (hargs : cl.args.toList = [S, X]) (hts : cl.argTypes.toList = [T, T2]) (hS : opv st.env S = .v false [s]) (hX : opv st.env X = .v false [x]) {E : TypeId} {t : ET} {n2 : Nat} {z2 : List D} {es2 : List (Option ET)} (hT : cx.tt T = some ⟨.slice E t, n2, z2, es2⟩)
    (he : copyE E t st.heap s x = some e) (hok : e.ok = true) : Does P cx ok w0 ρ st a w nm o e.val e.heap := by
 have hs := op_c hi hS
 have hx := op_c hi hX
 obtain ⟨hu, ie, hie, hsz, hz⟩ := und_of hcx hT
 have hte := hcx.ty _ _ hie
 obtain ⟨inf, g1, g2, _⟩ := hte.info
 have hw : inf.size = width t := by rw [g2, hsz]
 have hty : cl.argTypes[0]? = some T := by rw [← Array.getElem?_toList, hts]; rfl
 have run : ∀ u w', (Builtin.copy_ cl.argTypes o.type #[a.eval S, a.eval X]).run P w = .ok u w' → (execOp a.eval o).run P w = .ok (.value u) w' := fun u w' h =>
  run_builtin ho hb (fun cs => by rw [args_two hargs]; simp [builtin, h])
 unfold copyE at he
 split at he
 ·rename_i n tn fulln off len
  split at he
  ·rename_i htn; subst htn
   split at he
   ·rename_i B t' l t2 l2 f2 r2 p hn hsl
    split at he
    ·rename_i e1; subst e1
     split at he
     ·rename_i e2; subst e2
      split at he
      ·injection he with he; subst he
       simp only [Bool.and_eq_true, decide_eq_true_eq] at hok
       obtain ⟨hp, hlen⟩ := hok
       obtain ⟨A2, cap2, news, rx⟩ := sl_read hi.hv hx hsl hp
       obtain ⟨A, cap, hSe, hle, hfl, hA⟩ := hs
       have hxl : ∀ w' : World, (Builtin.lenOf (a.eval X)).run P w' = .ok l2.length w' := fun w' => by rw [rx.shape]; rfl
       have hfc := firstCells_take (P := P) rx (k := min l2.length len) (Nat.min_le_left _ _)
       simp only at hfc
       have hk : (l2.take len).length = min l2.length len := by rw [List.length_take, Nat.min_comm]
       have hl2 : l2.take len = l2.take (min l2.length len) := by
        rcases Nat.le_total l2.length len with h | h
        ·rw [Nat.min_eq_left h, List.take_of_length_le h, List.take_of_length_le (Nat.le_refl _)]
        ·rw [Nat.min_eq_right h]
       by_cases hk0 : min l2.length len = 0
       ·have e3 : l2.take len = [] := List.length_eq_zero_iff.1 (by rw [hk, hk0])
        simp only [e3, hk0, Nat.add_zero, List.append_nil, List.take_append_drop]
        refine does_none hi hn (fun ok' w' => RV_of_sc (.int .i64 ((0 : Nat) : Int))) (run _ _ ?_)
        rw [hk0, Nat.zero_mul, List.take_zero] at hfc
        have hmin : Nat.min l2.length len = 0 := hk0
        cases A with
        | none => simp [Builtin.copy_, hty, hSe, run_underlying hu, hxl, hmin, sizeOf, typeInfo, g1, hw, hfc, goInt, Sc.val]
        | some A => simp [Builtin.copy_, hty, hSe, run_underlying hu, hxl, hmin, sizeOf, typeInfo, g1, hw, hfc, goInt, Sc.val, storeCells]
       ·obtain ⟨b, hb', hA', hroom⟩ := hA (by omega)
        have hnl := rx.len
        simp only at hnl
        have hkl : min l2.length len * width t2 ≤ news.length := by rw [hnl]; exact Nat.mul_le_mul_right _ (Nat.min_le_left _ _)
        have key := does_part hi (nm := nm) (off := off) (m := l2.take len) (us := news.take (min l2.length len * width t2)) (v := .i (min l2.length len : Nat)) (x := .int .i64 ((min l2.length len : Nat) : Int)) hn (by rw [hk]; omega)
         (fun e => hk0 (by rw [← hk, e]; rfl)) (by rw [hk, List.length_take]; omega) (by
          rw [hl2]
          exact RL_take (Nat.min_le_left _ _) rx.rl (fun q hq => by simp [List.getD_eq_getElem?_getD, List.getElem?_take, hq])) hb' (fun ok' w' => RV_of_sc (.int .i64 _)) (fun vs q2 hfit => run _ _ ?_)
        ·rw [hk] at key; exact key
        ·have hone : ∀ u ∈ news.take (min l2.length len * width t2), u.oneCell' = true := fun u hu => RL_one rx.len rx.rl u (List.mem_of_mem_take hu)
         have hst := run_storeCells_at P b (off * width t2) B (news.take (min l2.length len * width t2)) 0 vs.toArray w q2 (by simpa using hfit) hone
         simp only [Nat.add_zero] at hst
         have hmin : Nat.min l2.length len = min l2.length len := rfl
         simp [Builtin.copy_, hty, hSe, hA', run_underlying hu, hxl, hmin, sizeOf, typeInfo, g1, hw, hfc, goInt, hst]
      ·cases he
     ·cases he
    ·cases he
   ·cases he
  ·cases he
 ·cases he

theorem zeroCells_made (z : Array Value) (n : Nat) : Builtin.zeroCells z n = madeCells z (n * z.size) := rfl

theorem does_clear (hcx : CxOk P cx) (hi : Inv cx ok w0 ρ st a w) {nm : Nat} {o : Oper} {cl : Call} {S : Operand} {T : TypeId} {s : C} {e : Eff} (ho : o.op = .call cl) (hb : cl.callee = .builtin .clear)
    (hargs : cl.args.toList = [S]) (hts : cl.argTypes.toList = [T]) (hS : opv st.env S = .v false [s]) {E : TypeId} {t : ET} {n2 : Nat} {z2 : List D} {es2 : List (Option ET)} (hT : cx.tt T = some ⟨.slice E t, n2, z2, es2⟩)
    (he : clearE E t st.heap s = some e) (hok : e.ok = true) : Does P cx ok w0 ρ st a w nm o e.val e.heap := by
 have hs := op_c hi hS
 obtain ⟨hu, ie, hie, hsz, hz⟩ := und_of hcx hT
 have hte := hcx.ty _ _ hie
 have hcells := zval_cells hte hz hsz
 have hty : cl.argTypes[0]? = some T := by rw [← Array.getElem?_toList, hts]; rfl
 have run : ∀ u w', (Builtin.clear_ cl.argTypes o.type #[a.eval S]).run P w = .ok u w' → (execOp a.eval o).run P w = .ok (.value u) w' := fun u w' h =>
  run_builtin ho hb (fun cs => by rw [args_one hargs]; simp [builtin, h])
 unfold clearE at he
 split at he
 ·rename_i n tn fulln off len
  split at he
  ·rename_i htn; subst htn
   split at he
   ·rename_i B t' l hn
    split at he
    ·rename_i e1; subst e1
     injection he with he; subst he
     have hlen : off + len ≤ l.length := by simpa using hok
     obtain ⟨A, cap, hSe, hle, hfl, hA⟩ := hs
     by_cases hk0 : len = 0
     ·subst hk0
      simp only [List.replicate_zero, Nat.add_zero, List.append_nil, List.take_append_drop]
      refine does_none hi hn (x := .tuple #[]) (fun ok' w' => trivial) (run _ _ ?_)
      cases A <;> simp [Builtin.clear_, hty, hSe, run_underlying hu]
     ·obtain ⟨b, hb', hA', hroom⟩ := hA (by omega)
      have hzs : ((enc t' (dflt t')).map zval).toArray.size = width t' := by simp [enc_length]
      have key := does_part hi (nm := nm) (off := off) (m := List.replicate len (dflt t')) (us := (madeCells ((enc t' (dflt t')).map zval).toArray (len * width t')).toList) (v := .any) (x := .tuple #[]) hn (by simpa using hlen)
       (fun e => hk0 (by simpa using congrArg List.length e)) (by simp [size_madeCells]) (RL_zero t' len) hb' (fun _ _ => trivial) (fun vs q2 hfit => run _ _ ?_)
      ·rw [List.length_replicate] at key; exact key
      ·have hone : ∀ u ∈ (madeCells ((enc t' (dflt t')).map zval).toArray (len * width t')).toList, u.oneCell' = true :=
         RL_one (cx := cx) (ok := fun _ => True) (w := w) (l := List.replicate len (dflt t')) (by simp [size_madeCells]) (RL_zero t' len)
       have hst := run_storeCells_at P b (off * width t') B _ 0 vs.toArray w q2 (by simpa using hfit) hone
       simp only [Nat.add_zero] at hst
       have hz2 := run_zero (w := w) hte
       have hne : len ≠ 0 := hk0
       cases len with
       | zero => exact absurd rfl hk0
       | succ len =>
        have hzc : (Builtin.zeroCells (mkv ie.agg (ie.zero.map zval)).cells (len + 1)).toList = (madeCells ((enc t' (dflt t')).map zval).toArray ((len + 1) * width t')).toList := by
         rw [hcells, zeroCells_made, hzs]
        simp [Builtin.clear_, hty, hSe, hA', run_underlying hu, hz2, hzc, hst]
    ·cases he
   ·cases he
  ·cases he
 ·cases he
end
end Go.Eng
namespace Go.Eng
abbrev cI (n : Int) : C := .d (.sc (.int .i64 n))
abbrev cV (n : Int) : V := .v false [cI n]
def vs (n : Nat) (l : List V) : List V := List.replicate n .any ++ l
def ns (n : Nat) (l : Heap) : Heap := List.replicate n none ++ l
abbrev dI (n : Int) : D := .sc (.int .i64 n)
abbrev cB (b : Bool) : C := .d (.sc (.bool b))
abbrev cL (t : ET) (l : List (Ty t)) : C := .d (.sl none false t l)
abbrev OBz := Option Bool
abbrev Lm := List (Ty .mat)
abbrev Lv := List (Ty .val)
abbrev Li := List (Ty .int)
abbrev Lo := List (Ty .op)
abbrev Lt := List (Ty .thing)
abbrev Ls := List (Ty .step)
abbrev Lr := List (Ty .run)
abbrev Le := List (Ty .evt)
abbrev Lb := List (Ty .bool)
end Go.Eng
