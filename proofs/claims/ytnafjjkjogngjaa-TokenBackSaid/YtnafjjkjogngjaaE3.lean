/- How the evaluator's values stand to the machine's: relations, and that they last. -/
import Derived.Test.YtnafjjkjogngjaaE2
set_option linter.unusedVariables false
set_option linter.unusedSimpArgs false
namespace Go.Eng
open Go Go.RowKit

def Sc.val : Sc → Value
  | .int k n => .int k n
  | .bool b => .bool b
  | .str s => .string s

def valCells (v : Val) : Array Value := #[.int .i64 v.kind, .int .i64 v.n, .string v.s]

/-- a thing's scalar is of its type's kind -/
def oneOk (cx : Cx) (T : TypeId) (s : Sc) : Prop :=
  match cx.tt T, s with
  | some ⟨.int k, _, _, _⟩, .int k' _ => k' = k
  | some ⟨.bool, _, _, _⟩, .bool _ => True
  | some ⟨.str, _, _, _⟩, .str _ => True
  | some _, _ => False
  | none, _ => True
def threeOk (cx : Cx) (T : TypeId) : Prop :=
  match cx.tt T with
  | some ⟨.struct _, 3, [.sc (.int .i64 0), .sc (.int .i64 0), .sc (.str _)], _⟩ => True
  | some _ => False
  | none => True

abbrev cellAt (t : ET) (l : List (Ty t)) (i j : Nat) : D := (enc t (l.getD i (dflt t))).getD j .nils

inductive RD (cx : Cx) (ok : Nat → Prop) (w : World) : D → Value → Prop where
  | sc (s : Sc) : RD cx ok w (.sc s) s.val
  | nils : RD cx ok w .nils (.slice none 0 0)
  | sl0 (nl : Option Bool) (full : Bool) (t : ET) (A : Option Addr) (cap : Nat) (h1 : nl = some true → A = none) (h2 : nl = some false → A ≠ none) (h3 : full = true → cap = 0) (h4 : A = none → cap = 0) :
      RD cx ok w (.sl nl full t []) (.slice A 0 cap)
  | sl (nl : Option Bool) (full : Bool) (t : ET) (l : List (Ty t)) (b off cap : Nat) (vs : Nat → Nat → Value) (h0 : l ≠ []) (h1 : ok b) (h2 : l.length ≤ cap) (h3 : full = true → cap = l.length) (h4 : nl ≠ some true)
      (hc : ∀ i j, i < l.length → j < width t → w.cell? ⟨b, off + (i * width t + j), none⟩ = some (vs i j))
      (hr : ∀ i j, i < l.length → j < width t → RD cx ok w (cellAt t l i j) (vs i j)) :
      RD cx ok w (.sl nl full t l) (.slice (some ⟨b, off, none⟩) l.length cap)
  | fn (f : FuncId) (first caps : List (List D)) (a b : List Value) (h1 : a.length = first.length) (h2 : b.length = caps.length)
      (ha : ∀ i, i < first.length → RD cx ok w (.ref (first.getD i [])) (a.getD i undef)) (hb : ∀ i, i < caps.length → RD cx ok w (.ref (caps.getD i [])) (b.getD i undef)) :
      RD cx ok w (.fn f first caps) (.func (.func f) a.toArray b.toArray)
  | nilI : RD cx ok w (.th .nil) .nilIface
  | nilf : RD cx ok w .nilf .nilFunc
  | one (T : TypeId) (s : Sc) (h : oneOk cx T s) : RD cx ok w (.th (.one T s)) (.iface T s.val)
  | val (T : TypeId) (v : Val) (h : threeOk cx T) : RD cx ok w (.th (.val T v)) (.iface T (.agg (valCells v)))
  | ref (cs : List D) (b off : Nat) (vs : Nat → Value) (h1 : ok b) (hb : b < w.heap.size) (hc : ∀ j, j < cs.length → w.cell? ⟨b, off + j, none⟩ = some (vs j)) (hr : ∀ j, j < cs.length → RD cx ok w (cs.getD j .nils) (vs j)) :
      RD cx ok w (.ref cs) (.pointer (some ⟨b, off, none⟩))

theorem cell_lt {w : World} {b o : Nat} {v : Value} (h : w.cell? ⟨b, o, none⟩ = some v) : b < w.heap.size := by
  unfold World.cell? at h
  rcases Nat.lt_or_ge b w.heap.size with h1 | h1
  · exact h1
  · simp [Array.getElem?_eq_none h1] at h

theorem width_pos (t : ET) : 0 < width t := by cases t <;> decide
theorem enc_length (t : ET) (x : Ty t) : (enc t x).length = width t := by cases t <;> rfl

abbrev Rho := Nat → Option Nat

def ptrsTo (ρ : Rho) (ns : List Nat) (a : List Value) : Prop :=
  a.length = ns.length ∧ ∀ i, i < ns.length → ∃ b, ρ (ns.getD i 0) = some b ∧ a.getD i undef = .pointer (some ⟨b, 0, none⟩)

/-- the size of a block -/
def World.roomOf (w : World) (b : Nat) : Nat := match w.heap[b]? with
  | some (.cells cs _ _) => cs.size
  | _ => 0

def RC (cx : Cx) (ρ : Rho) (ok : Nat → Prop) (w : World) : C → Value → Prop
  | .d x, v => RD cx ok w x v
  | .ptr n off, v => ∃ b, ρ n = some b ∧ v = .pointer (some ⟨b, off, none⟩)
  | .ep n t i j, v => ∃ b, ρ n = some b ∧ v = .pointer (some ⟨b, i * width t + j, none⟩)
  | .own n t full off len, v => ∃ A cap, v = .slice A len cap ∧ len ≤ cap ∧ (full = true → cap = len) ∧
      (cap ≠ 0 → ∃ b, ρ n = some b ∧ A = some ⟨b, off * width t, none⟩ ∧ (off + cap) * width t ≤ World.roomOf w b)
  | .clo f first caps, v => ∃ a b : List Value, v = .func (.func f) a.toArray b.toArray ∧ ptrsTo ρ first a ∧ ptrsTo ρ caps b

/-- cell by cell -/
def RCs (cx : Cx) (ρ : Rho) (ok : Nat → Prop) (w : World) (cs : List C) (vs : List Value) : Prop :=
  vs.length = cs.length ∧ ∀ j, j < cs.length → RC cx ρ ok w (cs.getD j (.d .nils)) (vs.getD j undef)

def RA (cx : Cx) (ρ : Rho) (ok : Nat → Prop) (w : World) : Arg → Value → Prop
  | (true, cs), x => ∃ vs : List Value, x = .agg vs.toArray ∧ RCs cx ρ ok w cs vs
  | (false, cs), x => ∃ c, cs = [c] ∧ RC cx ρ ok w c x

def RAs (cx : Cx) (ρ : Rho) (ok : Nat → Prop) (w : World) (as : List Arg) (xs : List Value) : Prop :=
  xs.length = as.length ∧ ∀ j, j < as.length → RA cx ρ ok w (as.getD j (false, [])) (xs.getD j undef)

def RV (cx : Cx) (ρ : Rho) (ok : Nat → Prop) (w : World) : V → Value → Prop
  | .any, _ => True
  | .v g cs, x => RA cx ρ ok w (g, cs) x
  | .tup vs, x => ∃ xs : List Value, x = .tuple xs.toArray ∧ RAs cx ρ ok w vs xs

def RB (cx : Cx) (ρ : Rho) (ok : Nat → Prop) (w : World) (n : Nat) : Blk → Prop
  | .box T cs => ∃ b vs, ρ n = some b ∧ w.heap[b]? = some (.cells (List.toArray vs) T (0, 0)) ∧ RCs cx ρ ok w cs vs
  | .arr T t l => (l = [] ∧ ρ n = none) ∨ ∃ b vs, ρ n = some b ∧ w.heap[b]? = some (.cells (List.toArray vs) T (0, 0)) ∧ l.length * width t ≤ vs.length ∧
      ∀ i j, i < l.length → j < width t → RD cx ok w (cellAt t l i j) (vs.getD (i * width t + j) undef)

/-- what data may lie in: not in what the call owns -/
def okc (ok : Nat → Prop) (B0 : Nat) (h : Heap) (ρ : Rho) (k : Nat) : Prop := (ok k ∨ B0 ≤ k) ∧ ∀ n, (lk h n).isSome = true → ρ n ≠ some k

structure Inv (cx : Cx) (ok : Nat → Prop) (w0 : World) (ρ : Rho) (st : St) (a : Act) (w : World) : Prop where
  size : a.tmps.size = st.env.length
  env : ∀ t, t < st.env.length → RV cx ρ (okc ok w0.heap.size st.heap ρ) w (st.env.getD t .any) (a.tmps.getD t undef)
  heap : ∀ n b, lk st.heap n = some b → RB cx ρ (okc ok w0.heap.size st.heap ρ) w n b
  inj : ∀ n m b, (lk st.heap n).isSome = true → (lk st.heap m).isSome = true → ρ n = some b → ρ m = some b → n = m
  own : ∀ n b, ρ n = some b → w0.heap.size ≤ b ∧ b < w.heap.size
  fresh : ∀ n, st.heap.length ≤ n → ρ n = none
  below : Below w0.heap.size w0 w
  defers : a.defers = []

/-- the world goes on: what is data lasts, names keep their blocks, blocks their size -/
structure Ext (N : Nat) (ok ok' : Nat → Prop) (ρ ρ' : Rho) (w w' : World) : Prop where
  rho : ∀ n b, n < N → ρ n = some b → ρ' n = some b
  cell : ∀ k, k < w.heap.size → ok k → w'.heap[k]? = w.heap[k]?
  okk : ∀ k, k < w.heap.size → ok k → ok' k
  room : ∀ k, k < w.heap.size → World.roomOf w' k = World.roomOf w k
  size : w.heap.size ≤ w'.heap.size

theorem RD.ext {cx : Cx} {ok ok' : Nat → Prop} {w w' : World} {d : D} {x : Value} (h : RD cx ok w d x)
    (hh : ∀ k, k < w.heap.size → ok k → w'.heap[k]? = w.heap[k]?) (ho : ∀ k, k < w.heap.size → ok k → ok' k) (hs : w.heap.size ≤ w'.heap.size) : RD cx ok' w' d x := by
  induction h with
  | sc s => exact .sc s
  | nils => exact .nils
  | sl0 nl full t A cap h1 h2 h3 h4 => exact .sl0 nl full t A cap h1 h2 h3 h4
  | sl nl full t l b off cap vs h0 h1 h2 h3 h4 hc hr ih =>
    have hb : b < w.heap.size := cell_lt (hc 0 0 (List.length_pos_iff.2 h0) (width_pos t))
    refine .sl nl full t l b off cap vs h0 (ho _ hb h1) h2 h3 h4 (fun i j hi hj => ?_) ih
    rw [World.cell?_of_block (w := w) (hh b hb h1)]
    exact hc i j hi hj
  | fn f first caps a b h1 h2 ha hb iha ihb => exact .fn f first caps a b h1 h2 iha ihb
  | nilI => exact .nilI
  | nilf => exact .nilf
  | one T s h => exact .one T s h
  | val T v h => exact .val T v h
  | ref cs b off vs h1 hb hc hr ih =>
    refine .ref cs b off vs (ho _ hb h1) (Nat.lt_of_lt_of_le hb hs) (fun j hj => ?_) ih
    rw [World.cell?_of_block (w := w) (hh b hb h1)]
    exact hc j hj

def refsLt (N : Nat) : C → Prop
  | .d _ => True
  | .ptr n _ | .ep n _ _ _ | .own n _ _ _ _ => n < N
  | .clo _ a b => (∀ n ∈ a, n < N) ∧ ∀ n ∈ b, n < N

section
variable {cx : Cx} {N : Nat} {ok ok' : Nat → Prop} {ρ ρ' : Rho} {w w' : World}

theorem RD.of_ext {d : D} {x : Value} (e : Ext N ok ok' ρ ρ' w w') (h : RD cx ok w d x) : RD cx ok' w' d x := h.ext e.cell e.okk e.size

theorem ptrsTo.ext {ns : List Nat} {a : List Value} (hρ : ∀ n b, n ∈ ns → ρ n = some b → ρ' n = some b) (h : ptrsTo ρ ns a) : ptrsTo ρ' ns a := by
  refine ⟨h.1, fun i hi => ?_⟩
  obtain ⟨b, h1, h2⟩ := h.2 i hi
  refine ⟨b, hρ _ b ?_ h1, h2⟩
  rw [List.getD_eq_getElem?_getD, List.getElem?_eq_getElem hi]
  exact List.getElem_mem hi

theorem RC.ext {c : C} {x : Value} (e : Ext N ok ok' ρ ρ' w w') (hB : ∀ n b, ρ n = some b → b < w.heap.size) (hl : refsLt N c) (h : RC cx ρ ok w c x) : RC cx ρ' ok' w' c x := by
  cases c with
  | d y => exact RD.of_ext e h
  | ptr n off => obtain ⟨b, h1, h2⟩ := h; exact ⟨b, e.rho n b hl h1, h2⟩
  | ep n t i j => obtain ⟨b, h1, h2⟩ := h; exact ⟨b, e.rho n b hl h1, h2⟩
  | own n t full off len =>
    obtain ⟨A, cap, h1, h2, h3, h4⟩ := h
    refine ⟨A, cap, h1, h2, h3, fun hc => ?_⟩
    obtain ⟨b, h5, h6, h7⟩ := h4 hc
    exact ⟨b, e.rho n b hl h5, h6, by rw [e.room b (hB n b h5)]; exact h7⟩
  | clo f first caps =>
    obtain ⟨a, b, h1, h2, h3⟩ := h
    exact ⟨a, b, h1, h2.ext fun n b hn => e.rho n b (hl.1 n hn), h3.ext fun n b hn => e.rho n b (hl.2 n hn)⟩

def refsLtV (N : Nat) : V → Prop
  | .any => True
  | .v _ cs => ∀ c ∈ cs, refsLt N c
  | .tup vs => ∀ a ∈ vs, ∀ c ∈ a.2, refsLt N c

theorem getD_mem {α : Type} {l : List α} {i : Nat} {d : α} (h : i < l.length) : l.getD i d ∈ l := by
  rw [List.getD_eq_getElem?_getD, List.getElem?_eq_getElem h]
  exact List.getElem_mem h

theorem RCs.ext {cs : List C} {vs : List Value} (e : Ext N ok ok' ρ ρ' w w') (hB : ∀ n b, ρ n = some b → b < w.heap.size) (hl : ∀ c ∈ cs, refsLt N c) (h : RCs cx ρ ok w cs vs) : RCs cx ρ' ok' w' cs vs :=
  ⟨h.1, fun j hj => (h.2 j hj).ext e hB (hl _ (getD_mem hj))⟩
theorem RA.ext {g : Arg} {x : Value} (e : Ext N ok ok' ρ ρ' w w') (hB : ∀ n b, ρ n = some b → b < w.heap.size) (hl : ∀ c ∈ g.2, refsLt N c) (h : RA cx ρ ok w g x) : RA cx ρ' ok' w' g x := by
  obtain ⟨g, cs⟩ := g
  cases g with
  | true => obtain ⟨vs, h1, h2⟩ := h; exact ⟨vs, h1, h2.ext e hB hl⟩
  | false => obtain ⟨c, h1, h2⟩ := h; exact ⟨c, h1, h2.ext e hB (hl c (by rw [h1]; exact List.mem_singleton.2 rfl))⟩
theorem RAs.ext {as : List Arg} {xs : List Value} (e : Ext N ok ok' ρ ρ' w w') (hB : ∀ n b, ρ n = some b → b < w.heap.size) (hl : ∀ a ∈ as, ∀ c ∈ a.2, refsLt N c) (h : RAs cx ρ ok w as xs) : RAs cx ρ' ok' w' as xs :=
  ⟨h.1, fun j hj => (h.2 j hj).ext e hB (hl _ (getD_mem hj))⟩
theorem RV.ext {v : V} {x : Value} (e : Ext N ok ok' ρ ρ' w w') (hB : ∀ n b, ρ n = some b → b < w.heap.size) (hl : refsLtV N v) (h : RV cx ρ ok w v x) : RV cx ρ' ok' w' v x := by
  cases v with
  | any => trivial
  | v g cs => exact RA.ext e hB hl h
  | tup vs => obtain ⟨xs, h1, h2⟩ := h; exact ⟨xs, h1, h2.ext e hB hl⟩

/-- where every name keeps its block -/
theorem Ext.all_C {c : C} {x : Value} (e : ∀ N, Ext N ok ok' ρ ρ' w w') (hB : ∀ n b, ρ n = some b → b < w.heap.size) (h : RC cx ρ ok w c x) : RC cx ρ' ok' w' c x := by
  cases c with
  | d y => exact RD.of_ext (e 0) h
  | ptr n off => exact RC.ext (e (n + 1)) hB (Nat.lt_succ_self n) h
  | ep n t i j => exact RC.ext (e (n + 1)) hB (Nat.lt_succ_self n) h
  | own n t full off len => exact RC.ext (e (n + 1)) hB (Nat.lt_succ_self n) h
  | clo f first caps =>
    obtain ⟨a, b, h1, h2, h3⟩ := h
    exact ⟨a, b, h1, h2.ext fun n b _ => (e (n + 1)).rho n b (Nat.lt_succ_self n), h3.ext fun n b _ => (e (n + 1)).rho n b (Nat.lt_succ_self n)⟩
theorem Ext.all_Cs {cs : List C} {vs : List Value} (e : ∀ N, Ext N ok ok' ρ ρ' w w') (hB : ∀ n b, ρ n = some b → b < w.heap.size) (h : RCs cx ρ ok w cs vs) : RCs cx ρ' ok' w' cs vs :=
  ⟨h.1, fun j hj => Ext.all_C e hB (h.2 j hj)⟩
theorem Ext.all_A {g : Arg} {x : Value} (e : ∀ N, Ext N ok ok' ρ ρ' w w') (hB : ∀ n b, ρ n = some b → b < w.heap.size) (h : RA cx ρ ok w g x) : RA cx ρ' ok' w' g x := by
  obtain ⟨g, cs⟩ := g
  cases g with
  | true => obtain ⟨vs, h1, h2⟩ := h; exact ⟨vs, h1, Ext.all_Cs e hB h2⟩
  | false => obtain ⟨c, h1, h2⟩ := h; exact ⟨c, h1, Ext.all_C e hB h2⟩
theorem Ext.all_As {as : List Arg} {xs : List Value} (e : ∀ N, Ext N ok ok' ρ ρ' w w') (hB : ∀ n b, ρ n = some b → b < w.heap.size) (h : RAs cx ρ ok w as xs) : RAs cx ρ' ok' w' as xs :=
  ⟨h.1, fun j hj => Ext.all_A e hB (h.2 j hj)⟩
theorem Ext.all_V {v : V} {x : Value} (e : ∀ N, Ext N ok ok' ρ ρ' w w') (hB : ∀ n b, ρ n = some b → b < w.heap.size) (h : RV cx ρ ok w v x) : RV cx ρ' ok' w' v x := by
  cases v with
  | any => trivial
  | v g cs => exact Ext.all_A e hB h
  | tup vs => obtain ⟨xs, h1, h2⟩ := h; exact ⟨xs, h1, Ext.all_As e hB h2⟩
theorem Ext.all_B {n : Nat} {b : Blk} (e : ∀ N, Ext N ok ok' ρ ρ' w w') (hB : ∀ n b, ρ n = some b → b < w.heap.size)
    (hn : ∀ k, ρ n = some k → w'.heap[k]? = w.heap[k]?) (h0 : ρ n = none → ρ' n = none) (h : RB cx ρ ok w n b) : RB cx ρ' ok' w' n b := by
  cases b with
  | box T cs =>
    obtain ⟨b, vs, h1, h2, h3⟩ := h
    exact ⟨b, vs, (e (n + 1)).rho n b (Nat.lt_succ_self n) h1, by rw [hn b h1]; exact h2, Ext.all_Cs e hB h3⟩
  | arr T t l =>
    rcases h with ⟨h1, h2⟩ | ⟨b, vs, h1, h2, h3, h4⟩
    · exact .inl ⟨h1, h0 h2⟩
    · exact .inr ⟨b, vs, (e (n + 1)).rho n b (Nat.lt_succ_self n) h1, by rw [hn b h1]; exact h2, h3, fun i j hi hj => RD.of_ext (e 0) (h4 i j hi hj)⟩
end

end Go.Eng
