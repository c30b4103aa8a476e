/- Runs in plain words: what an event makes of one, and what is so of it. -/
import Derived.Test.YtbjeikmkngcjlaaZE3
set_option linter.unusedVariables false
set_option linter.unusedSimpArgs false
namespace Go.Eng
open Go Go.Eng
abbrev HH := ByteArray → List Opn → Evt → Bool
abbrev w64 (n : Int) : Int := IntKind.i64.wrap n
abbrev u64 (n : Int) : Int := IntKind.u64.wrap n
def stp (l : List Step) (i : Int) : Step := l.getD i.toNat default
def sumL (was x : Int) : Int × Bool := if decide (w64 (was + x) > was) = decide (x > 0) then (w64 (was + x), true) else (was, false)
def toldL (q : Query) (r : Run) (v : List Val) : Run :=
 if r.step ≠ q.aggStep then r
 else if q.agg = 0 then { r with many := w64 (r.many + 1), agg := w64 (r.many + 1) }
 else if q.aggF < 0 ∨ q.aggF ≥ v.length ∨ (v.getD q.aggF.toNat default).kind ≠ 0 then { r with many := w64 (r.many + 1), bad := true }
 else
  let x := (v.getD q.aggF.toNat default).n
  if q.agg = 1 then { r with many := w64 (r.many + 1), agg := (sumL r.agg x).1, bad := r.bad || !(sumL r.agg x).2 }
  else
   let a := if w64 (r.many + 1) = 1 then x else r.agg
   if q.agg = 2 then { r with many := w64 (r.many + 1), agg := min a x }
   else { r with many := w64 (r.many + 1), agg := max a x }
def fateL (q : Query) (r : Run) : Int := if r.step = (q.steps.length : Int) - 1 ∧ r.n ≥ (stp q.steps r.step).min then 2 else 0
def takesL (H : HH) (x : Step) (e : Evt) : Bool := H x.name x.ifs e
def forbidsL (H : HH) (x : Step) (e : Evt) : Bool := x.guard && H x.notName x.notIf e
def lateL (q : Query) (r : Run) (e : Evt) : Bool := decide (q.within < 0) || decide (u64 (u64 e.at_ - u64 r.at_) > u64 q.within)
def beginL (H : HH) (q : Query) (e : Evt) (at' : Int) : Run × Int :=
 if q.steps.length = 0 then (default, 1)
 else if takesL H (stp q.steps 0) e = false then (default, 1)
 else
  let r := toldL q ⟨at', e.at_, 0, 1, 0, 0, false⟩ e.v
  (r, fateL q r)
def nextL (H : HH) (q : Query) (r : Run) (e : Evt) : Run × Int :=
 if r.step < 0 ∨ r.step ≥ q.steps.length then (r, 1)
 else if e.at_ < r.at_ then (r, 0)
 else if lateL q r e = true then (r, 1)
 else if (r.step + 1 < q.steps.length ∧ r.n ≥ (stp q.steps r.step).min) ∧ forbidsL H (stp q.steps (r.step + 1)) e = true then (r, 1)
 else if (r.step + 1 < q.steps.length ∧ r.n ≥ (stp q.steps r.step).min) ∧ takesL H (stp q.steps (r.step + 1)) e = true then
  let y := toldL q { r with step := r.step + 1, n := 1 } e.v
  (y, fateL q y)
 else if r.n < (stp q.steps r.step).max ∧ takesL H (stp q.steps r.step) e = true then
  let y := toldL q { r with n := w64 (r.n + 1) } e.v
  (y, fateL q y)
 else (r, 0)
def mayR (q : Query) (r : Run) : Prop := 0 ≤ r.step ∧ r.step < q.steps.length ∧ 0 ≤ r.many ∧ 0 < r.n ∧ r.n ≤ (stp q.steps r.step).max ∧ fateL q r = 0
instance (q : Query) (r : Run) : Decidable (mayR q r) := by unfold mayR; infer_instance
structure Made (q : Query) : Prop where
 l0 : 0 < q.steps.length
 l1 : q.steps.length ≤ 4
 w0 : 0 ≤ q.within
 w1 : q.within ≤ 1125899906842624
 a0 : 0 ≤ q.agg
 a1 : q.agg < 4
 s0 : 0 ≤ q.aggStep
 s1 : q.aggStep < q.steps.length
 st : ∀ i : Int, 0 ≤ i → i < q.steps.length → 1 ≤ (stp q.steps i).min ∧ (stp q.steps i).min ≤ (stp q.steps i).max ∧ (stp q.steps i).max ≤ 4 ∧ (i = (q.steps.length : Int) - 1 → (stp q.steps i).min = (stp q.steps i).max)
theorem toldL_keep (q : Query) (r : Run) (v : List Val) : (toldL q r v).first = r.first ∧ (toldL q r v).at_ = r.at_ ∧ (toldL q r v).step = r.step ∧ (toldL q r v).n = r.n := by
 unfold toldL; dsimp only
 repeat' split
 all_goals exact ⟨rfl, rfl, rfl, rfl⟩
theorem next_other {H : HH} {q : Query} {r : Run} {e : Evt} (h0 : 0 ≤ r.step) (h1 : r.step < q.steps.length) (w0 : 0 ≤ q.within) (ea : e.at_ = r.at_)
    (hn : ∀ i : Int, 0 ≤ i → i < q.steps.length → takesL H (stp q.steps i) e = false ∧ forbidsL H (stp q.steps i) e = false) : nextL H q r e = (r, 0) := by
 unfold nextL
 rw [if_neg (by omega), if_neg (by omega), if_neg, if_neg, if_neg, if_neg]
 ·rintro ⟨_, h⟩; rw [(hn r.step h0 h1).1] at h; cases h
 ·rintro ⟨⟨h2, _⟩, h⟩; rw [(hn (r.step + 1) (by omega) h2).1] at h; cases h
 ·rintro ⟨⟨h2, _⟩, h⟩; rw [(hn (r.step + 1) (by omega) h2).2] at h; cases h
 ·have e1 : u64 (u64 e.at_ - u64 r.at_) = 0 := by rw [ea]; simp only [u64, IntKind.wrap_u64]; omega
  have e2 : 0 ≤ u64 q.within := by simp only [u64, IntKind.wrap_u64]; omega
  simp only [lateL, e1, Bool.or_eq_true, decide_eq_true_eq, not_or]
  omega
theorem begin_other {H : HH} {q : Query} {e : Evt} {at' : Int} (hn : ∀ i : Int, 0 ≤ i → i < q.steps.length → takesL H (stp q.steps i) e = false ∧ forbidsL H (stp q.steps i) e = false) : beginL H q e at' = (default, 1) := by
 unfold beginL
 split
 ·rfl
 ·rw [if_pos (hn 0 (by omega) (by omega)).1]
def pre (l : List Step) : Nat → Int
 | 0 => 0
 | k + 1 => pre l k + (stp l k).max
structure RunInv (q : Query) (r : Run) (took : Int) : Prop where
 s0 : 0 ≤ r.step
 s1 : r.step < q.steps.length
 n0 : 0 < r.n
 n1 : r.n ≤ (stp q.steps r.step).max
 tk : took ≤ pre q.steps r.step.toNat + r.n
 m0 : r.step < q.aggStep → r.many = 0
 m1 : r.step = q.aggStep → r.many = r.n
 m2 : q.aggStep < r.step → 0 ≤ r.many ∧ r.many ≤ (stp q.steps q.aggStep).max
 ct : q.agg = 0 → r.agg = r.many ∧ r.bad = false
end Go.Eng
