/- Runs in plain words: what an event makes of one, and what is so of it. -/
import Derived.Test.YtbjeikmkngcjlaaZE3
set_option linter.unusedVariables false
set_option linter.unusedSimpArgs false
namespace Go.Eng
open Go Go.Eng
abbrev HH := ByteArray → List Opn → Evt → Bool
abbrev w64 (n : Int) : Int := IntKind.i64.wrap n
abbrev u64 (n : Int) : Int := IntKind.u64.wrap n
def stp (l : List Step) (i : Int) : Step := l.getD i.toNat default
def sumL (was x : Int) : Int × Bool := if decide (w64 (was + x) > was) = decide (x > 0) then (w64 (was + x), true) else (was, false)
def toldL (q : Query) (r : Run) (v : List Val) : Run :=
 if r.step ≠ q.aggStep then r
 else if q.agg = 0 then { r with many := w64 (r.many + 1), agg := w64 (r.many + 1) }
 else if q.aggF < 0 ∨ q.aggF ≥ v.length ∨ (v.getD q.aggF.toNat default).kind ≠ 0 then { r with many := w64 (r.many + 1), bad := true }
 else
  let x := (v.getD q.aggF.toNat default).n
  if q.agg = 1 then { r with many := w64 (r.many + 1), agg := (sumL r.agg x).1, bad := r.bad || !(sumL r.agg x).2 }
  else
   let a := if w64 (r.many + 1) = 1 then x else r.agg
   if q.agg = 2 then { r with many := w64 (r.many + 1), agg := min a x }
   else { r with many := w64 (r.many + 1), agg := max a x }
def fateL (q : Query) (r : Run) : Int := if r.step = (q.steps.length : Int) - 1 ∧ r.n ≥ (stp q.steps r.step).min then 2 else 0
def takesL (H : HH) (x : Step) (e : Evt) : Bool := H x.name x.ifs e
def forbidsL (H : HH) (x : Step) (e : Evt) : Bool := x.guard && H x.notName x.notIf e
def lateL (q : Query) (r : Run) (e : Evt) : Bool := decide (q.within < 0) || decide (u64 (u64 e.at_ - u64 r.at_) > u64 q.within)
def beginL (H : HH) (q : Query) (e : Evt) (at' : Int) : Run × Int :=
 if q.steps.length = 0 then (default, 1)
 else if takesL H (stp q.steps 0) e = false then (default, 1)
 else
  let r := toldL q ⟨at', e.at_, 0, 1, 0, 0, false⟩ e.v
  (r, fateL q r)
def nextL (H : HH) (q : Query) (r : Run) (e : Evt) : Run × Int :=
 if r.step < 0 ∨ r.step ≥ q.steps.length then (r, 1)
 else if e.at_ < r.at_ then (r, 0)
 else if lateL q r e = true then (r, 1)
 else if (r.step + 1 < q.steps.length ∧ r.n ≥ (stp q.steps r.step).min) ∧ forbidsL H (stp q.steps (r.step + 1)) e = true then (r, 1)
 else if (r.step + 1 < q.steps.length ∧ r.n ≥ (stp q.steps r.step).min) ∧ takesL H (stp q.steps (r.step + 1)) e = true then
  let y := toldL q { r with step := r.step + 1, n := 1 } e.v
  (y, fateL q y)
 else if r.n < (stp q.steps r.step).max ∧ takesL H (stp q.steps r.step) e = true then
  let y := toldL q { r with n := w64 (r.n + 1) } e.v
  (y, fateL q y)
 else (r, 0)
def mayR (q : Query) (r : Run) : Prop := 0 ≤ r.step ∧ r.step < q.steps.length ∧ 0 ≤ r.many ∧ 0 < r.n ∧ r.n ≤ (stp q.steps r.step).max ∧ fateL q r = 0
instance (q : Query) (r : Run) : Decidable (mayR q r) := by unfold mayR; infer_instance
structure Made (q : Query) : Prop where
 l0 : 0 < q.steps.length
 l1 : q.steps.length ≤ 4
 w0 : 0 ≤ q.within
 w1 : q.within ≤ 1125899906842624
 a0 : 0 ≤ q.agg
 a1 : q.agg < 4
 s0 : 0 ≤ q.aggStep
 s1 : q.aggStep < q.steps.length
 st : ∀ i : Int, 0 ≤ i → i < q.steps.length → 1 ≤ (stp q.steps i).min ∧ (stp q.steps i).min ≤ (stp q.steps i).max ∧ (stp q.steps i).max ≤ 4 ∧ (i = (q.steps.length : Int) - 1 → (stp q.steps i).min = (stp q.steps i).max)
theorem toldL_keep (q : Query) (r : Run) (v : List Val) : (toldL q r v).first = r.first ∧ (toldL q r v).at_ = r.at_ ∧ (toldL q r v).step = r.step ∧ (toldL q r v).n = r.n := by
 unfold toldL; dsimp only
 repeat' split
 all_goals exact ⟨rfl, rfl, rfl, rfl⟩
theorem toldL_many (q : Query) (r : Run) (v : List Val) : (toldL q r v).many = if r.step = q.aggStep then w64 (r.many + 1) else r.many := by
 unfold toldL; dsimp only
 by_cases h : r.step = q.aggStep
 ·simp only [h, ne_eq, not_true, if_false, if_true]
  repeat' split
  all_goals rfl
 ·simp [h]
theorem toldL_count (q : Query) (r : Run) (v : List Val) (h : q.agg = 0) (h1 : r.agg = r.many ∧ r.bad = false) : (toldL q r v).agg = (toldL q r v).many ∧ (toldL q r v).bad = false := by
 unfold toldL; dsimp only
 by_cases h2 : r.step = q.aggStep
 ·simp [h2, h, h1]
 ·simpa [h2] using h1
theorem nextL_cases (H : HH) (q : Query) (r : Run) (e : Evt) (h0 : 0 ≤ r.step) (h1 : r.step < q.steps.length) :
    nextL H q r e = (r, 1) ∨ nextL H q r e = (r, 0) ∨
    (r.step + 1 < q.steps.length ∧ r.n ≥ (stp q.steps r.step).min ∧ nextL H q r e = (toldL q { r with step := r.step + 1, n := 1 } e.v, fateL q (toldL q { r with step := r.step + 1, n := 1 } e.v))) ∨
    (r.n < (stp q.steps r.step).max ∧ nextL H q r e = (toldL q { r with n := w64 (r.n + 1) } e.v, fateL q (toldL q { r with n := w64 (r.n + 1) } e.v))) := by
 unfold nextL
 rw [if_neg (by omega)]
 by_cases c1 : e.at_ < r.at_
 ·rw [if_pos c1]; exact .inr (.inl rfl)
 rw [if_neg c1]
 by_cases c2 : lateL q r e = true
 ·rw [if_pos c2]; exact .inl rfl
 rw [if_neg c2]
 by_cases c3 : (r.step + 1 < q.steps.length ∧ r.n ≥ (stp q.steps r.step).min) ∧ forbidsL H (stp q.steps (r.step + 1)) e = true
 ·rw [if_pos c3]; exact .inl rfl
 rw [if_neg c3]
 by_cases c4 : (r.step + 1 < q.steps.length ∧ r.n ≥ (stp q.steps r.step).min) ∧ takesL H (stp q.steps (r.step + 1)) e = true
 ·rw [if_pos c4]; exact .inr (.inr (.inl ⟨c4.1.1, c4.1.2, rfl⟩))
 rw [if_neg c4]
 by_cases c5 : r.n < (stp q.steps r.step).max ∧ takesL H (stp q.steps r.step) e = true
 ·rw [if_pos c5]; exact .inr (.inr (.inr ⟨c5.1, rfl⟩))
 rw [if_neg c5]
 exact .inr (.inl rfl)
theorem beginL_may {H : HH} {q : Query} (hq : Made q) {e : Evt} {at' : Int} : (beginL H q e at').2 = 1 ∨ ((beginL H q e at').2 = fateL q (beginL H q e at').1 ∧ (beginL H q e at').1.first = at' ∧ (beginL H q e at').1.at_ = e.at_ ∧ (beginL H q e at').1.step = 0 ∧ (beginL H q e at').1.n = 1 ∧
    ((beginL H q e at').2 = 0 → mayR q (beginL H q e at').1)) := by
 unfold beginL
 have := hq.l0
 rw [if_neg (by omega)]
 by_cases c : takesL H (stp q.steps 0) e = false
 ·rw [if_pos c]; exact .inl rfl
 rw [if_neg c]
 dsimp only
 obtain ⟨k1, k2, k3, k4⟩ := toldL_keep q ⟨at', e.at_, 0, 1, 0, 0, false⟩ e.v
 have k5 := toldL_many q ⟨at', e.at_, 0, 1, 0, 0, false⟩ e.v
 refine .inr ⟨rfl, k1, k2, k3, k4, fun hf => ?_⟩
 have hs := hq.st 0 (by omega) (by omega)
 refine ⟨by rw [k3]; exact Int.le_refl 0, by rw [k3]; show (0 : Int) < _; omega, ?_, by rw [k4]; show (0 : Int) < 1; decide, by rw [k4, k3]; show (1 : Int) ≤ (stp q.steps 0).max; omega, hf⟩
 rw [k5]
 split
 ·show 0 ≤ IntKind.i64.wrap (0 + 1); decide
 ·exact Int.le_refl 0
def pre (l : List Step) : Nat → Int
 | 0 => 0
 | k + 1 => pre l k + (stp l k).max
structure RunInv (q : Query) (r : Run) (took : Int) : Prop where
 s0 : 0 ≤ r.step
 s1 : r.step < q.steps.length
 n0 : 0 < r.n
 n1 : r.n ≤ (stp q.steps r.step).max
 tk : took ≤ pre q.steps r.step.toNat + r.n
 m0 : r.step < q.aggStep → r.many = 0
 m1 : r.step = q.aggStep → r.many = r.n
 m2 : q.aggStep < r.step → 0 ≤ r.many ∧ r.many ≤ (stp q.steps q.aggStep).max
 ct : q.agg = 0 → r.agg = r.many ∧ r.bad = false
theorem RunInv_begin {H : HH} {q : Query} (hq : Made q) {e : Evt} {at' : Int} (h : (beginL H q e at').2 ≠ 1) : RunInv q (beginL H q e at').1 1 := by
 unfold beginL at h ⊢
 have := hq.l0
 have := hq.s0
 rw [if_neg (by omega)] at h ⊢
 by_cases c : takesL H (stp q.steps 0) e = false
 ·rw [if_pos c] at h; exact absurd rfl h
 rw [if_neg c]
 dsimp only
 obtain ⟨k1, k2, k3, k4⟩ := toldL_keep q ⟨at', e.at_, 0, 1, 0, 0, false⟩ e.v
 have k5 := toldL_many q ⟨at', e.at_, 0, 1, 0, 0, false⟩ e.v
 have k6 := fun h => toldL_count q ⟨at', e.at_, 0, 1, 0, 0, false⟩ e.v h ⟨rfl, rfl⟩
 have hs := hq.st 0 (by omega) (by omega)
 have w1 : w64 (0 + 1) = 1 := by decide
 generalize toldL q ⟨at', e.at_, 0, 1, 0, 0, false⟩ e.v = y at *
 dsimp only at k1 k2 k3 k4 k5
 rw [w1] at k5
 refine ⟨by omega, by omega, by omega, by rw [k4, k3]; omega, ?_, ?_, ?_, ?_, k6⟩
 ·rw [k3, k4]; show (1 : Int) ≤ 0 + 1; omega
 ·intro h; rw [k5, if_neg (by omega)]
 ·intro h; rw [k5, if_pos (by omega), k4]
 ·intro h; omega
theorem RunInv_next {H : HH} {q : Query} (hq : Made q) {r : Run} {took : Int} (hr : RunInv q r took) (e : Evt) (h : (nextL H q r e).2 ≠ 1) :
    RunInv q (nextL H q r e).1 (if (nextL H q r e).1.step ≠ r.step ∨ (nextL H q r e).1.n ≠ r.n then took + 1 else took) := by
 have hl := hq.l1
 have h0 := hr.s0
 have h1 := hr.s1
 have hs := hq.st r.step h0 h1
 have ha := hq.st q.aggStep hq.s0 hq.s1
 have tk := hr.tk
 have n1 := hr.n1
 have n0 := hr.n0
 rcases nextL_cases H q r e h0 h1 with c | c | ⟨c1, c2, c⟩ | ⟨c1, c⟩
 ·rw [c] at h; exact absurd rfl h
 ·rw [c]; simpa using hr
 ·rw [c]; dsimp only
  obtain ⟨k1, k2, k3, k4⟩ := toldL_keep q { r with step := r.step + 1, n := 1 } e.v
  have k5 := toldL_many q { r with step := r.step + 1, n := 1 } e.v
  have k6 := fun h => toldL_count q { r with step := r.step + 1, n := 1 } e.v h (hr.ct h)
  have hs' := hq.st (r.step + 1) (by omega) c1
  generalize toldL q { r with step := r.step + 1, n := 1 } e.v = y at *
  dsimp only at k1 k2 k3 k4 k5
  rw [if_pos (.inl (by omega))]
  have ep : pre q.steps y.step.toNat = pre q.steps r.step.toNat + (stp q.steps r.step).max := by
   have e1 : y.step.toNat = r.step.toNat + 1 := by omega
   have e2 : ((r.step.toNat : Nat) : Int) = r.step := by omega
   rw [e1]; show pre _ _ + (stp q.steps ((r.step.toNat : Nat) : Int)).max = _
   rw [e2]
  refine ⟨by omega, by omega, by omega, by rw [k4, k3]; omega, by rw [ep, k4]; omega, ?_, ?_, ?_, k6⟩
  ·intro g; rw [k5, if_neg (by omega)]; exact hr.m0 (by omega)
  ·intro g; rw [k5, if_pos (by omega), hr.m0 (by omega), k4]; decide
  ·intro g; rw [k5, if_neg (by omega)]
   by_cases g2 : r.step = q.aggStep
   ·rw [hr.m1 g2]; rw [g2] at n1; omega
   ·exact hr.m2 (by omega)
 ·rw [c]; dsimp only
  have wn : w64 (r.n + 1) = r.n + 1 := e_wrap (by omega) (by omega)
  rw [wn]
  obtain ⟨k1, k2, k3, k4⟩ := toldL_keep q { r with n := r.n + 1 } e.v
  have k5 := toldL_many q { r with n := r.n + 1 } e.v
  have k6 := fun h => toldL_count q { r with n := r.n + 1 } e.v h (hr.ct h)
  generalize toldL q { r with n := r.n + 1 } e.v = y at *
  dsimp only at k1 k2 k3 k4 k5
  rw [if_pos (.inr (by omega))]
  refine ⟨by omega, by omega, by omega, by rw [k4, k3]; omega, by rw [k3, k4]; omega, ?_, ?_, ?_, k6⟩
  ·intro g; rw [k5, if_neg (by omega)]; exact hr.m0 (by omega)
  ·intro g; rw [k5, if_pos (by omega), hr.m1 (by omega), k4]; exact e_wrap (by omega) (by omega)
  ·intro g; rw [k5, if_neg (by omega)]; exact hr.m2 (by omega)
end Go.Eng
