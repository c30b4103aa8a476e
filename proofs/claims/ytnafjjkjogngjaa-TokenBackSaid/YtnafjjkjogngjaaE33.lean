/- The tables are checked by reckoning. -/
import Derived.Test.YtnafjjkjogngjaaE32
set_option linter.unusedVariables false
set_option linter.unusedSimpArgs false
namespace Go.Eng
open Go Go.RowKit

def cellC : Value → Value → Bool
  | .int k n, .int k' n' => decide (k = k') && decide (n = n')
  | .bool a, .bool b => a == b
  | .string a, .string b => decide (a = b)
  | .slice none 0 0, .slice none 0 0 => true
  | .nilIface, .nilIface => true
  | .nilFunc, .nilFunc => true
  | _, _ => false
theorem cellC_ok {x y : Value} (h : cellC x y = true) : x = y := by
  unfold cellC at h
  split at h
  · simp only [Bool.and_eq_true, decide_eq_true_eq] at h; rw [h.1, h.2]
  · simp only [beq_iff_eq] at h; rw [h]
  · simp only [decide_eq_true_eq] at h; rw [h]
  · rfl
  · rfl
  · rfl
  · cases h
def cellsC : List Value → List Value → Bool
  | [], [] => true
  | x :: xs, y :: ys => cellC x y && cellsC xs ys
  | _, _ => false
theorem cellsC_ok : ∀ {xs ys : List Value}, cellsC xs ys = true → xs = ys
  | [], [], _ => rfl
  | x :: xs, y :: ys, h => by
    simp only [cellsC, Bool.and_eq_true] at h
    rw [cellC_ok h.1, cellsC_ok h.2]
  | [], _ :: _, h => by cases h
  | _ :: _, [], h => by cases h
def valC : Value → Value → Bool
  | .agg a, .agg b => cellsC a.toList b.toList
  | x, y => cellC x y
theorem valC_ok {x y : Value} (h : valC x y = true) : x = y := by
  unfold valC at h
  split at h
  · rw [Array.toList_inj.1 (cellsC_ok h)]
  · exact cellC_ok h

def zeroC : D → Bool
  | .sc _ => true
  | .sl nl _ _ l => l.isEmpty && (match nl with
    | some false => false
    | _ => true)
  | .th .nil => true
  | .nilf => true
  | _ => false
theorem zeroC_ok {d : D} (h : zeroC d = true) : zeroD d := by
  unfold zeroC at h
  split at h
  · trivial
  · rename_i nl full t l
    simp only [Bool.and_eq_true] at h
    refine ⟨?_, by simpa using h.1⟩
    cases nl with
    | none => exact .inr rfl
    | some b => cases b
                · cases h.2
                · exact .inl rfl
  · rfl
  · trivial
  · cases h

def kdC (P : Program) (tt : TypeId → Option TI) (T : TypeId) : Kd → Bool
  | .int k => match P.underlying T with
    | some (.int k') => decide (k' = k)
    | _ => false
  | .bool => match P.underlying T with
    | some .bool => true
    | _ => false
  | .str => match P.underlying T with
    | some .string => true
    | _ => false
  | .slice e t => (match P.underlying T with
    | some (.slice e') => e' == e
    | _ => false) && (match tt e with
    | some ie => ie.size == width t && cellsC (ie.zero.map zval) ((enc t (dflt t)).map zval)
    | none => false)
  | .struct fs => match P.underlying T with
    | some (.struct fields) => decide (fields.toList.map (fun f => (f.offset, f.type)) = fs) && (fields.toList.mapM (fun f => (P.info? f.type).map fun i => (f.offset, i.size))).isSome
    | _ => false
  | .array n e => match P.underlying T with
    | some (.array n' e') => n' == n && e' == e
    | _ => false
  | .iface => match P.underlying T with
    | some (.interface _) => true
    | _ => false
  | .func => match P.underlying T with
    | some (.func _ _ _) => true
    | _ => false
  | .other => false

def tyC (P : Program) (tt : TypeId → Option TI) (T : TypeId) (i : TI) : Bool :=
  (match P.info? T with
  | some inf => inf.size == i.size && (match inf.zero with
    | some z => valC z (mkv i.agg (i.zero.map zval))
    | none => false) && decide (inf.bytes ≤ 4096)
  | none => false) && kdC P tt T i.kd && i.zero.length == i.size && (i.agg || i.size == 1) && i.zero.all zeroC

/-- a struct's fields lie as the zero value's cells -/
def eqFs (P : Program) (rec : TypeId → List D → Bool) : List Field → Nat → List D → Bool
  | [], _, z => z.isEmpty
  | f :: fs, off, z => f.name != "_" && f.offset == off && (match P.info? f.type with
    | some i => decide (0 < i.size) && decide (i.size ≤ z.length) && rec f.type (z.take i.size) && eqFs P rec fs (off + i.size) (z.drop i.size)
    | none => false)
def eqT (P : Program) : Nat → TypeId → List D → Bool
  | 0, _, _ => false
  | d + 1, T, z => match P.underlying T, z with
    | some (.int _), [.sc (.int _ _)] => true
    | some .bool, [.sc (.bool _)] => true
    | some .string, [.sc (.str _)] => true
    | some (.struct fs), z => !P.stoodInHeld T && !z.isEmpty && eqFs P (eqT P d) fs.toList 0 z
    | _, _ => false

def tabC (P : Program) (tab : List (Option TI)) : Bool :=
  (List.range tab.length).all fun T => match tab.getD T none with
    | none => true
    | some i => tyC P (fun T => tab.getD T none) T i && (match i.kd with
      | .struct _ => !i.zero.all D.isSc || (P.eqGuardType P.depth T == false && eqT P 8 T i.zero)
      | _ => true)

section
variable {P : Program} {cx : Cx}

theorem kdC_ok {T : TypeId} {k : Kd} (h : kdC P cx.tt T k = true) : KdOk P cx T k := by
  unfold kdC at h
  cases k with
  | int k => simp only at h; split at h <;> first | cases h | (rename_i hu; simp only [decide_eq_true_eq] at h; subst h; exact hu)
  | bool => simp only at h; split at h <;> first | (rename_i hu; exact hu) | cases h
  | str => simp only at h; split at h <;> first | (rename_i hu; exact hu) | cases h
  | slice e t =>
    simp only [Bool.and_eq_true] at h
    obtain ⟨h1, h2⟩ := h
    refine ⟨?_, ?_⟩
    · split at h1 <;> first | cases h1 | (rename_i hu; simp only [beq_iff_eq] at h1; subst h1; exact hu)
    · split at h2
      · rename_i ie hie
        simp only [Bool.and_eq_true, beq_iff_eq] at h2
        exact ⟨ie, hie, h2.1, cellsC_ok h2.2⟩
      · cases h2
  | struct fs =>
    simp only at h
    split at h
    · rename_i fields hu
      simp only [Bool.and_eq_true, decide_eq_true_eq] at h
      exact ⟨fields, hu, h.1, h.2⟩
    · cases h
  | array n e =>
    simp only at h
    split at h
    · rename_i n' e' hu
      simp only [Bool.and_eq_true, beq_iff_eq] at h
      rw [h.1, h.2] at hu
      exact hu
    · cases h
  | iface =>
    simp only at h
    split at h
    · rename_i ms hu; exact ⟨ms, hu⟩
    · cases h
  | func =>
    simp only at h
    split at h
    · rename_i a b c hu; exact ⟨a, b, c, hu⟩
    · cases h
  | other => cases h

theorem tyC_ok {T : TypeId} {i : TI} (h : tyC P cx.tt T i = true) : TyOk P cx T i := by
  unfold tyC at h
  simp only [Bool.and_eq_true, Bool.or_eq_true, beq_iff_eq, List.all_eq_true] at h
  obtain ⟨⟨⟨⟨h1, h2⟩, h3⟩, h4⟩, h5⟩ := h
  refine ⟨?_, kdC_ok h2, h3, fun hg => ?_, fun z hz => zeroC_ok (h5 z hz)⟩
  · split at h1
    · rename_i inf hinf
      simp only [Bool.and_eq_true, beq_iff_eq, decide_eq_true_eq] at h1
      obtain ⟨⟨q1, q2⟩, q3⟩ := h1
      refine ⟨inf, hinf, q1, ?_, q3⟩
      split at q2
      · rename_i z hz; rw [hz, valC_ok q2]
      · cases q2
    · cases h1
  · rcases h4 with h4 | h4
    · rw [hg] at h4; cases h4
    · exact h4

def scEq : Sc → Sc → Bool
  | .int _ a, .int _ b => a == b
  | .bool a, .bool b => a == b
  | .str a, .str b => decide (a = b)
  | _, _ => false
def eqB : List Sc → List Sc → Bool
  | a :: x, b :: y => scEq a b && eqB x y
  | _, _ => true

theorem kinds_len : ∀ (z : List D) (x : List Sc), kindsOk z x = true → x.length = z.length
  | [], [], _ => rfl
  | .sc (.int _ _) :: z, .int _ _ :: x, h => by simp only [kindsOk, Bool.and_eq_true] at h; simp [kinds_len z x h.2]
  | .sc (.bool _) :: z, .bool _ :: x, h => by simp only [kindsOk] at h; simp [kinds_len z x h]
  | .sc (.str _) :: z, .str _ :: x, h => by simp only [kindsOk] at h; simp [kinds_len z x h]
  | [], _ :: _, h => by cases h
  | d :: z, [], h => by unfold kindsOk at h; split at h <;> simp_all

theorem eqRowS_B : ∀ (z : List D) (x y : List Sc) (p : Bool), kindsOk z x = true → kindsOk z y = true → eqRowS x y = some p → p = eqB x y := by
  have one : ∀ a b p, eqSc a b = some p → p = scEq a b := fun a b p h => by
    unfold eqSc at h
    split at h
    · split at h
      · injection h with h; exact h.symm
      · cases h
    · injection h with h; exact h.symm
    · injection h with h; exact h.symm
    · cases h
  intro z x
  induction x generalizing z with
  | nil =>
    intro y p h1 h2 h
    have := kinds_len z _ h1; have h3 := kinds_len z _ h2
    have hy : y = [] := List.length_eq_zero_iff.1 (by rw [h3, ← this]; rfl)
    subst hy
    simp only [eqRowS] at h; injection h with h; exact h.symm
  | cons a x ih =>
    intro y p h1 h2 h
    have l1 := kinds_len z _ h1; have l2 := kinds_len z _ h2
    cases y with
    | nil => simp at l1 l2; omega
    | cons b y =>
      cases z with
      | nil => simp at l1
      | cons d z =>
        have k1 : kindsOk z x = true := by
          unfold kindsOk at h1; split at h1 <;> simp_all
        have k2 : kindsOk z y = true := by
          unfold kindsOk at h2; split at h2 <;> simp_all
        cases x with
        | nil =>
          have hy : y = [] := List.length_eq_zero_iff.1 (by simp only [List.length_cons, List.length_nil] at l1 l2; omega)
          subst hy
          have h' : eqSc a b = some p := h
          simp [eqB, one a b p h']
        | cons a2 x2 =>
          unfold eqRowS at h
          split at h
          · rename_i pa pb ha hb
            injection h with h
            rw [← h, one _ _ _ ha, ih z y pb k1 k2 hb]
            rfl
          · cases h

theorem eqB_append : ∀ (x x' y y' : List Sc), x.length = y.length → eqB (x ++ x') (y ++ y') = (eqB x y && eqB x' y')
  | [], x', [], y', _ => by simp [eqB]
  | a :: x, x', b :: y, y', h => by
    simp only [List.cons_append, eqB]
    rw [eqB_append x x' y y' (by simpa using h), Bool.and_assoc]
  | [], _, _ :: _, _, h => by simp at h
  | _ :: _, _, [], _, h => by simp at h

theorem kinds_append : ∀ (z : List D) (n : Nat) (x : List Sc), kindsOk z x = true → kindsOk (z.take n) (x.take n) = true ∧ kindsOk (z.drop n) (x.drop n) = true
  | [], n, [], _ => by simp [kindsOk]
  | z, 0, x, h => ⟨by simp [kindsOk], by simpa using h⟩
  | .sc (.int _ _) :: z, n + 1, .int _ _ :: x, h => by
    simp only [kindsOk, Bool.and_eq_true] at h
    obtain ⟨h1, h2⟩ := kinds_append z n x h.2
    simp only [List.take_succ_cons, List.drop_succ_cons, kindsOk, Bool.and_eq_true]
    exact ⟨⟨h.1, h1⟩, h2⟩
  | .sc (.bool _) :: z, n + 1, .bool _ :: x, h => by
    simp only [kindsOk] at h
    obtain ⟨h1, h2⟩ := kinds_append z n x h
    simp only [List.take_succ_cons, List.drop_succ_cons, kindsOk]
    exact ⟨h1, h2⟩
  | .sc (.str _) :: z, n + 1, .str _ :: x, h => by
    simp only [kindsOk] at h
    obtain ⟨h1, h2⟩ := kinds_append z n x h
    simp only [List.take_succ_cons, List.drop_succ_cons, kindsOk]
    exact ⟨h1, h2⟩
  | [], n + 1, _ :: _, h => by cases h
  | d :: z, n + 1, [], h => by unfold kindsOk at h; split at h <;> simp_all

/-- a value of a type out of its cells -/
def aggT (P : Program) (T : TypeId) : Bool := match P.underlying T with
  | some (.struct _) => true
  | _ => false
def vOf (P : Program) (T : TypeId) (x : List Sc) : Value := mkv (aggT P T) (x.map Sc.val)
end
end Go.Eng
