/- Plain texts: M1, M4, M5, M2, M3, M7, M8, M9. -/
import Derived.Test.YtoohnjneocohnaaGreatZE3
set_option linter.unusedVariables false
set_option linter.unusedSimpArgs false
namespace Go.Eng
open Go Go.Eng
abbrev HH := ByteArray → List Opn → Evt → Bool
abbrev w64 (n : Int) : Int := IntKind.i64.wrap n
abbrev u64 (n : Int) : Int := IntKind.u64.wrap n
def stp (l : List Step) (i : Int) : Step := l.getD i.toNat default
def sumL (was x : Int) : Int × Bool := if decide (w64 (was + x) > was) = decide (x > 0) then (w64 (was + x), true) else (was, false)
def toldL (q : Query) (r : Run) (v : List Val) : Run :=
 if r.step ≠ q.aggStep then r
 else if q.agg = 0 then { r with many := w64 (r.many + 1), agg := w64 (r.many + 1) }
 else if q.aggF < 0 ∨ q.aggF ≥ v.length ∨ (v.getD q.aggF.toNat default).kind ≠ 0 then { r with many := w64 (r.many + 1), bad := true }
 else
  let x := (v.getD q.aggF.toNat default).n
  if q.agg = 1 then { r with many := w64 (r.many + 1), agg := (sumL r.agg x).1, bad := r.bad || !(sumL r.agg x).2 }
  else
   let a := if w64 (r.many + 1) = 1 then x else r.agg
   if q.agg = 2 then { r with many := w64 (r.many + 1), agg := min a x }
   else { r with many := w64 (r.many + 1), agg := max a x }
def fateL (q : Query) (r : Run) : Int := if r.step = (q.steps.length : Int) - 1 ∧ r.n ≥ (stp q.steps r.step).min then 2 else 0
def takesL (H : HH) (x : Step) (e : Evt) : Bool := H x.name x.ifs e
def forbidsL (H : HH) (x : Step) (e : Evt) : Bool := x.guard && H x.notName x.notIf e
def lateL (q : Query) (r : Run) (e : Evt) : Bool := decide (q.within < 0) || decide (u64 (u64 e.at_ - u64 r.at_) > u64 q.within)
def beginL (H : HH) (q : Query) (e : Evt) (at' : Int) : Run × Int :=
 if q.steps.length = 0 then (default, 1)
 else if takesL H (stp q.steps 0) e = false then (default, 1)
 else
  let r := toldL q ⟨at', e.at_, 0, 1, 0, 0, false⟩ e.v
  (r, fateL q r)
def nextL (H : HH) (q : Query) (r : Run) (e : Evt) : Run × Int :=
 if r.step < 0 ∨ r.step ≥ q.steps.length then (r, 1)
 else if e.at_ < r.at_ then (r, 0)
 else if lateL q r e = true then (r, 1)
 else if (r.step + 1 < q.steps.length ∧ r.n ≥ (stp q.steps r.step).min) ∧ forbidsL H (stp q.steps (r.step + 1)) e = true then (r, 1)
 else if (r.step + 1 < q.steps.length ∧ r.n ≥ (stp q.steps r.step).min) ∧ takesL H (stp q.steps (r.step + 1)) e = true then
  let y := toldL q { r with step := r.step + 1, n := 1 } e.v
  (y, fateL q y)
 else if r.n < (stp q.steps r.step).max ∧ takesL H (stp q.steps r.step) e = true then
  let y := toldL q { r with n := w64 (r.n + 1) } e.v
  (y, fateL q y)
 else (r, 0)
def mayR (q : Query) (r : Run) : Prop := 0 ≤ r.step ∧ r.step < q.steps.length ∧ 0 ≤ r.many ∧ 0 < r.n ∧ r.n ≤ (stp q.steps r.step).max ∧ fateL q r = 0
instance (q : Query) (r : Run) : Decidable (mayR q r) := by unfold mayR; infer_instance
structure Made (q : Query) : Prop where
 l0 : 0 < q.steps.length
 l1 : q.steps.length ≤ 4
 w0 : 0 ≤ q.within
 w1 : q.within ≤ 1125899906842624
 a0 : 0 ≤ q.agg
 a1 : q.agg < 4
 s0 : 0 ≤ q.aggStep
 s1 : q.aggStep < q.steps.length
 st : ∀ i : Int, 0 ≤ i → i < q.steps.length → 1 ≤ (stp q.steps i).min ∧ (stp q.steps i).min ≤ (stp q.steps i).max ∧ (stp q.steps i).max ≤ 4 ∧ (i = (q.steps.length : Int) - 1 → (stp q.steps i).min = (stp q.steps i).max)
theorem toldL_keep (q : Query) (r : Run) (v : List Val) : (toldL q r v).first = r.first ∧ (toldL q r v).at_ = r.at_ ∧ (toldL q r v).step = r.step ∧ (toldL q r v).n = r.n := by
 unfold toldL; dsimp only
 repeat' split
 all_goals exact ⟨rfl, rfl, rfl, rfl⟩
theorem toldL_many (q : Query) (r : Run) (v : List Val) : (toldL q r v).many = if r.step = q.aggStep then w64 (r.many + 1) else r.many := by
 unfold toldL; dsimp only
 by_cases h : r.step = q.aggStep
 ·simp only [h, ne_eq, not_true, if_false, if_true]
  repeat' split
  all_goals rfl
 ·simp [h]
theorem toldL_count (q : Query) (r : Run) (v : List Val) (h : q.agg = 0) (h1 : r.agg = r.many ∧ r.bad = false) : (toldL q r v).agg = (toldL q r v).many ∧ (toldL q r v).bad = false := by
 unfold toldL; dsimp only
 by_cases h2 : r.step = q.aggStep
 ·simp [h2, h, h1]
 ·simpa [h2] using h1
theorem nextL_cases (H : HH) (q : Query) (r : Run) (e : Evt) (h0 : 0 ≤ r.step) (h1 : r.step < q.steps.length) :
    nextL H q r e = (r, 1) ∨ nextL H q r e = (r, 0) ∨
    (r.step + 1 < q.steps.length ∧ r.n ≥ (stp q.steps r.step).min ∧ nextL H q r e = (toldL q { r with step := r.step + 1, n := 1 } e.v, fateL q (toldL q { r with step := r.step + 1, n := 1 } e.v))) ∨
    (r.n < (stp q.steps r.step).max ∧ nextL H q r e = (toldL q { r with n := w64 (r.n + 1) } e.v, fateL q (toldL q { r with n := w64 (r.n + 1) } e.v))) := by
 unfold nextL
 rw [if_neg (by omega)]
 by_cases c1 : e.at_ < r.at_
 ·rw [if_pos c1]; exact .inr (.inl rfl)
 rw [if_neg c1]
 by_cases c2 : lateL q r e = true
 ·rw [if_pos c2]; exact .inl rfl
 rw [if_neg c2]
 by_cases c3 : (r.step + 1 < q.steps.length ∧ r.n ≥ (stp q.steps r.step).min) ∧ forbidsL H (stp q.steps (r.step + 1)) e = true
 ·rw [if_pos c3]; exact .inl rfl
 rw [if_neg c3]
 by_cases c4 : (r.step + 1 < q.steps.length ∧ r.n ≥ (stp q.steps r.step).min) ∧ takesL H (stp q.steps (r.step + 1)) e = true
 ·rw [if_pos c4]; exact .inr (.inr (.inl ⟨c4.1.1, c4.1.2, rfl⟩))
 rw [if_neg c4]
 by_cases c5 : r.n < (stp q.steps r.step).max ∧ takesL H (stp q.steps r.step) e = true
 ·rw [if_pos c5]; exact .inr (.inr (.inr ⟨c5.1, rfl⟩))
 rw [if_neg c5]
 exact .inr (.inl rfl)
theorem beginL_may {H : HH} {q : Query} (hq : Made q) {e : Evt} {at' : Int} : (beginL H q e at').2 = 1 ∨ ((beginL H q e at').2 = fateL q (beginL H q e at').1 ∧ (beginL H q e at').1.first = at' ∧ (beginL H q e at').1.at_ = e.at_ ∧ (beginL H q e at').1.step = 0 ∧ (beginL H q e at').1.n = 1 ∧
    ((beginL H q e at').2 = 0 → mayR q (beginL H q e at').1)) := by
 unfold beginL
 have := hq.l0
 rw [if_neg (by omega)]
 by_cases c : takesL H (stp q.steps 0) e = false
 ·rw [if_pos c]; exact .inl rfl
 rw [if_neg c]
 dsimp only
 obtain ⟨k1, k2, k3, k4⟩ := toldL_keep q ⟨at', e.at_, 0, 1, 0, 0, false⟩ e.v
 have k5 := toldL_many q ⟨at', e.at_, 0, 1, 0, 0, false⟩ e.v
 refine .inr ⟨rfl, k1, k2, k3, k4, fun hf => ?_⟩
 have hs := hq.st 0 (by omega) (by omega)
 refine ⟨by rw [k3]; exact Int.le_refl 0, by rw [k3]; show (0 : Int) < _; omega, ?_, by rw [k4]; show (0 : Int) < 1; decide, by rw [k4, k3]; show (1 : Int) ≤ (stp q.steps 0).max; omega, hf⟩
 rw [k5]
 split
 ·show 0 ≤ IntKind.i64.wrap (0 + 1); decide
 ·exact Int.le_refl 0
def pre (l : List Step) : Nat → Int
 | 0 => 0
 | k + 1 => pre l k + (stp l k).max
structure RunInv (q : Query) (r : Run) (took : Int) : Prop where
 s0 : 0 ≤ r.step
 s1 : r.step < q.steps.length
 n0 : 0 < r.n
 n1 : r.n ≤ (stp q.steps r.step).max
 tk : took ≤ pre q.steps r.step.toNat + r.n
 m0 : r.step < q.aggStep → r.many = 0
 m1 : r.step = q.aggStep → r.many = r.n
 m2 : q.aggStep < r.step → 0 ≤ r.many ∧ r.many ≤ (stp q.steps q.aggStep).max
 ct : q.agg = 0 → r.agg = r.many ∧ r.bad = false
theorem RunInv_begin {H : HH} {q : Query} (hq : Made q) {e : Evt} {at' : Int} (h : (beginL H q e at').2 ≠ 1) : RunInv q (beginL H q e at').1 1 := by
 unfold beginL at h ⊢
 have := hq.l0
 have := hq.s0
 rw [if_neg (by omega)] at h ⊢
 by_cases c : takesL H (stp q.steps 0) e = false
 ·rw [if_pos c] at h; exact absurd rfl h
 rw [if_neg c]
 dsimp only
 obtain ⟨k1, k2, k3, k4⟩ := toldL_keep q ⟨at', e.at_, 0, 1, 0, 0, false⟩ e.v
 have k5 := toldL_many q ⟨at', e.at_, 0, 1, 0, 0, false⟩ e.v
 have k6 := fun h => toldL_count q ⟨at', e.at_, 0, 1, 0, 0, false⟩ e.v h ⟨rfl, rfl⟩
 have hs := hq.st 0 (by omega) (by omega)
 have w1 : w64 (0 + 1) = 1 := by decide
 generalize toldL q ⟨at', e.at_, 0, 1, 0, 0, false⟩ e.v = y at *
 dsimp only at k1 k2 k3 k4 k5
 rw [w1] at k5
 refine ⟨by omega, by omega, by omega, by rw [k4, k3]; omega, ?_, ?_, ?_, ?_, k6⟩
 ·rw [k3, k4]; show (1 : Int) ≤ 0 + 1; omega
 ·intro h; rw [k5, if_neg (by omega)]
 ·intro h; rw [k5, if_pos (by omega), k4]
 ·intro h; omega
theorem RunInv_next {H : HH} {q : Query} (hq : Made q) {r : Run} {took : Int} (hr : RunInv q r took) (e : Evt) (h : (nextL H q r e).2 ≠ 1) :
    RunInv q (nextL H q r e).1 (if (nextL H q r e).1.step ≠ r.step ∨ (nextL H q r e).1.n ≠ r.n then took + 1 else took) := by
 have hl := hq.l1
 have h0 := hr.s0
 have h1 := hr.s1
 have hs := hq.st r.step h0 h1
 have ha := hq.st q.aggStep hq.s0 hq.s1
 have tk := hr.tk
 have n1 := hr.n1
 have n0 := hr.n0
 rcases nextL_cases H q r e h0 h1 with c | c | ⟨c1, c2, c⟩ | ⟨c1, c⟩
 ·rw [c] at h; exact absurd rfl h
 ·rw [c]; simpa using hr
 ·rw [c]; dsimp only
  obtain ⟨k1, k2, k3, k4⟩ := toldL_keep q { r with step := r.step + 1, n := 1 } e.v
  have k5 := toldL_many q { r with step := r.step + 1, n := 1 } e.v
  have k6 := fun h => toldL_count q { r with step := r.step + 1, n := 1 } e.v h (hr.ct h)
  have hs' := hq.st (r.step + 1) (by omega) c1
  generalize toldL q { r with step := r.step + 1, n := 1 } e.v = y at *
  dsimp only at k1 k2 k3 k4 k5
  rw [if_pos (.inl (by omega))]
  have ep : pre q.steps y.step.toNat = pre q.steps r.step.toNat + (stp q.steps r.step).max := by
   have e1 : y.step.toNat = r.step.toNat + 1 := by omega
   have e2 : ((r.step.toNat : Nat) : Int) = r.step := by omega
   rw [e1]; show pre _ _ + (stp q.steps ((r.step.toNat : Nat) : Int)).max = _
   rw [e2]
  refine ⟨by omega, by omega, by omega, by rw [k4, k3]; omega, by rw [ep, k4]; omega, ?_, ?_, ?_, k6⟩
  ·intro g; rw [k5, if_neg (by omega)]; exact hr.m0 (by omega)
  ·intro g; rw [k5, if_pos (by omega), hr.m0 (by omega), k4]; decide
  ·intro g; rw [k5, if_neg (by omega)]
   by_cases g2 : r.step = q.aggStep
   ·rw [hr.m1 g2]; rw [g2] at n1; omega
   ·exact hr.m2 (by omega)
 ·rw [c]; dsimp only
  have wn : w64 (r.n + 1) = r.n + 1 := e_wrap (by omega) (by omega)
  rw [wn]
  obtain ⟨k1, k2, k3, k4⟩ := toldL_keep q { r with n := r.n + 1 } e.v
  have k5 := toldL_many q { r with n := r.n + 1 } e.v
  have k6 := fun h => toldL_count q { r with n := r.n + 1 } e.v h (hr.ct h)
  generalize toldL q { r with n := r.n + 1 } e.v = y at *
  dsimp only at k1 k2 k3 k4 k5
  rw [if_pos (.inr (by omega))]
  refine ⟨by omega, by omega, by omega, by rw [k4, k3]; omega, by rw [k3, k4]; omega, ?_, ?_, ?_, k6⟩
  ·intro g; rw [k5, if_neg (by omega)]; exact hr.m0 (by omega)
  ·intro g; rw [k5, if_pos (by omega), hr.m1 (by omega), k4]; exact e_wrap (by omega) (by omega)
  ·intro g; rw [k5, if_neg (by omega)]; exact hr.m2 (by omega)
def Plain (H : HH) : Prop := ∀ (nm : ByteArray) (e : Evt), H nm [] e = decide (nm = e.name)
abbrev bA : ByteArray := { data := { toList := [97] } }
def stA : Step := ⟨bA, [], 1, 1, false, ByteArray.empty, []⟩
structure StoreL where
 q : Query
 r : List Run
 over : Int
def mayS (s : StoreL) : Prop := s.r.length ≤ 5 ∧ (∀ r ∈ s.r, mayR s.q r) ∧ (s.over = -1 ∨ s.over ≥ 0 ∧ s.r.length = 0)
instance (s : StoreL) : Decidable (mayS s) := by unfold mayS; infer_instance
def leftOf (H : HH) (q : Query) (e : Evt) (l : List Run) : List Run := l.filterMap (fun r => if (nextL H q r e).2 = 0 then some (nextL H q r e).1 else none)
def doneM (at' : Int) (r : Run) : Mat := ⟨r.first, at', r.agg, r.bad⟩
def doneOf (H : HH) (q : Query) (e : Evt) (at' : Int) (l : List Run) : List Mat := l.filterMap (fun r => if (nextL H q r e).2 = 2 then some (doneM at' (nextL H q r e).1) else none)
def feedL (H : HH) (s : StoreL) (e : Evt) (at' : Int) : StoreL × List Mat :=
 if ¬ mayS s ∨ s.over ≠ -1 then (s, [])
 else if (beginL H s.q e at').2 = 2 then (⟨s.q, leftOf H s.q e s.r, s.over⟩, doneOf H s.q e at' s.r ++ [doneM at' (beginL H s.q e at').1])
 else if (beginL H s.q e at').2 = 0 ∧ (leftOf H s.q e s.r).length = 5 then (⟨s.q, [], max at' 0⟩, doneOf H s.q e at' s.r)
 else if (beginL H s.q e at').2 = 0 then (⟨s.q, leftOf H s.q e s.r ++ [(beginL H s.q e at').1], s.over⟩, doneOf H s.q e at' s.r)
 else (⟨s.q, leftOf H s.q e s.r, s.over⟩, doneOf H s.q e at' s.r)
theorem leftOf_len (H : HH) (q : Query) (e : Evt) (l : List Run) : (leftOf H q e l).length ≤ l.length := List.length_filterMap_le _ _
theorem doneOf_len (H : HH) (q : Query) (e : Evt) (at' : Int) (l : List Run) : (doneOf H q e at' l).length ≤ l.length := List.length_filterMap_le _ _
theorem feedL_over {H : HH} {s : StoreL} {e : Evt} {at' : Int} (h : ¬ mayS s ∨ s.over ≠ -1) : feedL H s e at' = (s, []) := by unfold feedL; rw [if_pos h]
theorem feedL_len (H : HH) (s : StoreL) (e : Evt) (at' : Int) : (feedL H s e at').2.length ≤ 6 := by
 by_cases h : ¬ mayS s ∨ s.over ≠ -1
 ·rw [feedL_over h]; exact Nat.zero_le 6
 ·have h1 : s.r.length ≤ 5 := by
    by_cases h2 : mayS s
    ·exact h2.1
    ·exact absurd (.inl h2) h
  have h2 := doneOf_len H s.q e at' s.r
  unfold feedL; rw [if_neg h]
  repeat' split
  all_goals (try rw [List.length_append]); simp only [List.length_cons, List.length_nil]; omega
theorem nextL_first (H : HH) (q : Query) (r : Run) (e : Evt) : (nextL H q r e).1.first = r.first := by
 by_cases h : r.step < 0 ∨ r.step ≥ q.steps.length
 ·unfold nextL; rw [if_pos h]
 ·rcases nextL_cases H q r e (by omega) (by omega) with c | c | ⟨_, _, c⟩ | ⟨_, c⟩ <;> rw [c]
  ·exact (toldL_keep q { r with step := r.step + 1, n := 1 } e.v).1
  ·exact (toldL_keep q { r with n := w64 (r.n + 1) } e.v).1
theorem beginL_first {H : HH} {q : Query} {e : Evt} {at' : Int} (h : (beginL H q e at').2 ≠ 1) : (beginL H q e at').1.first = at' := by
 unfold beginL at h ⊢
 split at h
 ·exact absurd rfl h
 ·rename_i h1
  rw [if_neg h1]
  split at h
  ·exact absurd rfl h
  ·rename_i h2
   rw [if_neg h2]
   exact (toldL_keep q ⟨at', e.at_, 0, 1, 0, 0, false⟩ e.v).1
def RunOk (q : Query) (r : Run) : Prop := (∃ t, RunInv q r t) ∧ fateL q r = 0
theorem RunOk.may {q : Query} (hq : Made q) {r : Run} (h : RunOk q r) : mayR q r ∧ r.many ≤ 4 := by
 obtain ⟨⟨t, h⟩, hf⟩ := h
 have ha := hq.st q.aggStep hq.s0 hq.s1
 have hs := hq.st r.step h.s0 h.s1
 have n0 := h.n0
 have n1 := h.n1
 have : 0 ≤ r.many ∧ r.many ≤ 4 := by
  rcases Int.lt_trichotomy r.step q.aggStep with g | g | g
  ·rw [h.m0 g]; omega
  ·rw [h.m1 g]; omega
  ·have := h.m2 g; omega
 exact ⟨⟨h.s0, h.s1, this.1, n0, n1, hf⟩, this.2⟩
theorem RunOk_next {H : HH} {q : Query} (hq : Made q) {r : Run} (h : RunOk q r) {e : Evt} (h2 : (nextL H q r e).2 = 0) : RunOk q (nextL H q r e).1 := by
 obtain ⟨⟨t, h⟩, hf⟩ := h
 refine ⟨⟨_, RunInv_next hq h e (by omega)⟩, ?_⟩
 rcases nextL_cases H q r e h.s0 h.s1 with c | c | ⟨_, _, c⟩ | ⟨_, c⟩
 ·rw [c] at h2; cases h2
 ·rw [c]; exact hf
 ·rw [c] at h2 ⊢; exact h2
 ·rw [c] at h2 ⊢; exact h2
theorem RunOk_begin {H : HH} {q : Query} (hq : Made q) {e : Evt} {at' : Int} (h : (beginL H q e at').2 = 0) : RunOk q (beginL H q e at').1 := by
 refine ⟨⟨_, RunInv_begin hq (by omega)⟩, ?_⟩
 rcases beginL_may (H := H) hq (e := e) (at' := at') with c | ⟨c, _⟩
 ·omega
 ·omega
structure StInv (q : Query) (s : StoreL) (t : Int) : Prop where
 qq : s.q = q
 len : s.r.length ≤ 5
 over : s.over = -1 ∨ s.over ≥ 0 ∧ s.r.length = 0
 run : ∀ r ∈ s.r, RunOk q r ∧ 0 ≤ r.at_ ∧ r.at_ ≤ t ∧ t - r.at_ ≤ q.within
theorem StInv.may {q : Query} (hq : Made q) {s : StoreL} {t : Int} (h : StInv q s t) : mayS s := ⟨h.len, fun r hr => by rw [h.qq]; exact ((h.run r hr).1.may hq).1, h.over⟩
structure SubL where
 id : Int
 sess : Int
 s : StoreL
 ack : Int
 sent : Int
 m : List Mat
 hold : Bool
 fin : Int
 told : Bool
structure NoteL where
 sub : Int
 seq : Int
 fin : Int
 m : Mat
def rMayL (a s : Int) (m : List Mat) : Prop := 0 ≤ a ∧ (m.length : Int) ≤ 6 ∧ a + m.length ≤ 1099511627776 ∧ a ≤ s ∧ s ≤ a + m.length
instance (a s : Int) (m : List Mat) : Decidable (rMayL a s m) := by unfold rMayL; infer_instance
def mayU (u : SubL) : Prop := 0 ≤ u.id ∧ 0 ≤ u.sess ∧ mayS u.s ∧ rMayL u.ack u.sent u.m ∧
 ((u.fin = 0 ∧ u.s.over = -1 ∧ u.told = false) ∨ ((u.fin = 1 ∧ u.s.over ≠ -1 ∨ u.fin = 2) ∧ u.s.r.length = 0 ∧ (u.told = false ∨ u.sent = u.ack + u.m.length)))
instance (u : SubL) : Decidable (mayU u) := by unfold mayU; infer_instance
def putM (a s : Int) : List Mat → List Mat → Bool × List Mat
 | m, [] => (true, m)
 | m, x :: l => if rMayL a s m ∧ m.length ≠ 6 ∧ a + m.length ≠ 1099511627776 then putM a s (m ++ [x]) l else (false, m)
def feedU (H : HH) (u : SubL) (e : Evt) (at' : Int) : SubL :=
 if ¬ mayU u ∨ u.fin ≠ 0 then u
 else if (putM u.ack u.sent u.m (feedL H u.s e at').2).1 = false then
  { u with s := ⟨(feedL H u.s e at').1.q, [], (feedL H u.s e at').1.over⟩, m := (putM u.ack u.sent u.m (feedL H u.s e at').2).2.take (u.sent - u.ack).toNat, fin := 2 }
 else { u with s := (feedL H u.s e at').1, m := (putM u.ack u.sent u.m (feedL H u.s e at').2).2, fin := if (feedL H u.s e at').1.over ≠ -1 then 1 else 0 }
def noNote : NoteL := ⟨0, 0, 0, default⟩
def giveU (u : SubL) : SubL × NoteL × Bool :=
 if ¬ mayU u ∨ u.hold = true then (u, noNote, false)
 else if u.sent ≠ u.ack + u.m.length then ({ u with sent := u.sent + 1 }, ⟨u.id, u.sent + 1, 0, u.m.getD (u.sent - u.ack).toNat default⟩, true)
 else if u.fin = 0 ∨ u.told = true then (u, noNote, false)
 else ({ u with told := true }, ⟨u.id, 0, u.fin, default⟩, true)
def whyL (a s : Int) (m : List Mat) (x : Int) : Int := if rMayL a s m then (if x < a ∨ s < x then 9 else 0) else 1
def ackL (u : SubL) (x : Int) : SubL := { u with ack := x, m := u.m.drop (x - u.ack).toNat }
theorem whyL_zero {a s : Int} {m : List Mat} {x : Int} : whyL a s m x = 0 ↔ rMayL a s m ∧ a ≤ x ∧ x ≤ s := by
 unfold whyL
 split
 ·rename_i h
  split
  ·constructor
   ·intro h; cases h
   ·intro h; omega
  ·exact ⟨fun _ => ⟨h, by omega⟩, fun _ => rfl⟩
 ·rename_i h
  exact ⟨(by intro h; cases h), fun h2 => absurd h2.1 h⟩
theorem putM_room {a s : Int} : ∀ (l m : List Mat), rMayL a s m → m.length + l.length ≤ 6 → a + m.length + l.length ≤ 1099511627776 → putM a s m l = (true, m ++ l)
 | [], m, _, _, _ => by simp [putM]
 | x :: l, m, h, h1, h2 => by
  simp only [List.length_cons] at h1 h2
  obtain ⟨g1, g2, g3, g4, g5⟩ := h
  unfold putM
  rw [if_pos ⟨⟨g1, g2, g3, g4, g5⟩, by omega, by omega⟩, putM_room l (m ++ [x])]
  ·simp
  ·refine ⟨g1, ?_, ?_, g4, ?_⟩ <;> simp only [List.length_append, List.length_cons, List.length_nil] <;> omega
  ·simp only [List.length_append, List.length_cons, List.length_nil]; omega
  ·simp only [List.length_append, List.length_cons, List.length_nil]; omega
theorem putM_full {a s : Int} : ∀ (l m : List Mat), rMayL a s m → (m.length + l.length > 6 ∨ a + m.length + l.length > 1099511627776) → ∃ k, putM a s m l = (false, m ++ l.take k)
 | [], m, h, h1 => by
  simp only [List.length_nil] at h1
  obtain ⟨g1, g2, g3, g4, g5⟩ := h
  omega
 | x :: l, m, h, h1 => by
  simp only [List.length_cons] at h1
  obtain ⟨g1, g2, g3, g4, g5⟩ := h
  unfold putM
  by_cases c : rMayL a s m ∧ m.length ≠ 6 ∧ a + m.length ≠ 1099511627776
  ·rw [if_pos c]
   obtain ⟨k, hk⟩ := putM_full (a := a) (s := s) l (m ++ [x]) (by
    refine ⟨g1, ?_, ?_, g4, ?_⟩ <;> simp only [List.length_append, List.length_cons, List.length_nil] <;> omega) (by
    simp only [List.length_append, List.length_cons, List.length_nil]; omega)
   exact ⟨k + 1, by rw [hk]; simp⟩
  ·rw [if_neg c]; exact ⟨0, by simp⟩
theorem putM_cases {a s : Int} {l m : List Mat} (h : rMayL a s m) : (m.length + l.length ≤ 6 ∧ a + m.length + l.length ≤ 1099511627776 ∧ putM a s m l = (true, m ++ l)) ∨
    ((m.length + l.length > 6 ∨ a + m.length + l.length > 1099511627776) ∧ (putM a s m l).1 = false ∧ (putM a s m l).2.take (s - a).toNat = m.take (s - a).toNat) := by
 by_cases c : m.length + l.length ≤ 6 ∧ a + m.length + l.length ≤ 1099511627776
 ·exact .inl ⟨c.1, c.2, putM_room l m h c.1 c.2⟩
 ·right
  have c' : m.length + l.length > 6 ∨ a + m.length + l.length > 1099511627776 := by omega
  obtain ⟨k, hk⟩ := putM_full (a := a) (s := s) l m h c'
  refine ⟨c', by rw [hk], ?_⟩
  rw [hk]
  obtain ⟨g1, g2, g3, g4, g5⟩ := h
  exact List.take_append_of_le_length (by omega)
theorem rMayL_take {a s : Int} {m : List Mat} (h : rMayL a s m) : rMayL a s (m.take (s - a).toNat) ∧ a + ((m.take (s - a).toNat).length : Int) = s := by
 obtain ⟨g1, g2, g3, g4, g5⟩ := h
 have e : ((m.take (s - a).toNat).length : Int) = s - a := by rw [List.length_take]; omega
 exact ⟨⟨g1, by omega, by omega, g4, by omega⟩, by omega⟩
theorem feedU_evicts {H : HH} {u : SubL} (h : mayU u) (h0 : u.fin = 0) (e : Evt) (at' : Int) :
    (u.m.length + (feedL H u.s e at').2.length ≤ 6 ∧ u.ack + u.m.length + (feedL H u.s e at').2.length ≤ 1099511627776 ∧ (feedU H u e at').fin ≠ 2 ∧ (feedU H u e at').m.length = u.m.length + (feedL H u.s e at').2.length) ∨
    ((u.m.length + (feedL H u.s e at').2.length > 6 ∨ u.ack + u.m.length + (feedL H u.s e at').2.length > 1099511627776) ∧ (feedU H u e at').fin = 2 ∧ (feedU H u e at').s.r = [] ∧
     (feedU H u e at').ack = u.ack ∧ (feedU H u e at').sent = u.sent ∧ u.ack + ((feedU H u e at').m.length : Int) = u.sent ∧ (feedU H u e at').m = u.m.take (u.sent - u.ack).toNat) := by
 unfold feedU
 rw [if_neg (show ¬ (¬ mayU u ∨ u.fin ≠ 0) by intro c; rcases c with c | c; exact c h; exact c h0)]
 rcases putM_cases (l := (feedL H u.s e at').2) h.2.2.2.1 with ⟨p1, p2, p3⟩ | ⟨p1, p2, p3⟩
 ·left
  rw [p3]
  rw [if_neg (by simp)]
  refine ⟨p1, p2, ?_, by simp⟩
  dsimp only
  split <;> decide
 ·right
  rw [if_pos p2]
  refine ⟨p1, rfl, rfl, rfl, rfl, ?_, p3⟩
  show u.ack + ((List.take _ _ : List Mat).length : Int) = u.sent
  rw [p3]
  exact (rMayL_take h.2.2.2.1).2
theorem giveU_next {u : SubL} (h : mayU u) (h1 : u.hold = false) (h2 : u.sent ≠ u.ack + u.m.length) :
    giveU u = ({ u with sent := u.sent + 1 }, ⟨u.id, u.sent + 1, 0, u.m.getD (u.sent - u.ack).toNat default⟩, true) := by
 unfold giveU
 rw [if_neg (by intro c; rcases c with c | c; exact c h; rw [h1] at c; cases c), if_pos h2]
theorem giveU_last {u : SubL} (h : mayU u) (h1 : u.hold = false) (h2 : u.sent = u.ack + u.m.length) :
    giveU u = if u.fin = 0 ∨ u.told = true then (u, noNote, false) else ({ u with told := true }, ⟨u.id, 0, u.fin, default⟩, true) := by
 unfold giveU
 rw [if_neg (by intro c; rcases c with c | c; exact c h; rw [h1] at c; cases c), if_neg (by omega)]
def stepsL (H : HH) (q : Query) : List Evt → Run → Int → List Run × Run × Int
 | [], r, f => (if f = 0 then [r] else [], r, f)
 | e :: es, r, f => if f = 0 then (r :: (stepsL H q es (nextL H q r e).1 (nextL H q r e).2).1, (stepsL H q es (nextL H q r e).1 (nextL H q r e).2).2) else ([], r, f)
def evAt (l : List Evt) (i : Nat) : Evt := l.getD i default
def fromL (H : HH) (q : Query) (l : List Evt) (i : Nat) : List Run × Run × Int := stepsL H q (l.drop (i + 1)) (beginL H q (evAt l i) i).1 (beginL H q (evAt l i) i).2
def nRun (H : HH) (q : Query) (l : List Evt) (i : Nat) : Nat := (fromL H q l i).1.length
def matL (H : HH) (q : Query) (l : List Evt) (i : Nat) : Mat := ⟨i, i + (nRun H q l i : Nat), (fromL H q l i).2.1.agg, (fromL H q l i).2.1.bad⟩
def oneL (H : HH) (q : Query) (l : List Evt) (i : Nat) : Option Mat := if (fromL H q l i).2.2 = 2 then some (matL H q l i) else none
def liveB (H : HH) (q : Query) (l : List Evt) (e i : Nat) : Bool := decide (i ≤ e) && decide (e < i + nRun H q l i)
def nLive (H : HH) (q : Query) (l : List Evt) (e : Nat) : Nat := (List.range l.length).countP (liveB H q l e)
def overB (H : HH) (q : Query) (l : List Evt) (most : Int) (e : Nat) : Bool := decide (0 < nRun H q l e) && decide ((nLive H q l e : Int) > most)
def overL (H : HH) (q : Query) (l : List Evt) (most : Int) : Int := match (List.range l.length).find? (overB H q l most) with
 | some e => e
 | none => -1
def insL (x : Mat) : List Mat → List Mat
 | [] => [x]
 | y :: ys => if y.fin ≤ x.fin then y :: insL x ys else x :: y :: ys
def stab (l : List Mat) : List Mat := l.foldl (fun a x => insL x a) []
def onesL (H : HH) (q : Query) (l : List Evt) : List Mat := (List.range l.length).filterMap (oneL H q l)
def keptB (over : Int) (m : Mat) : Bool := decide (over < 0) || decide (m.fin ≤ over)
def allL (H : HH) (q : Query) (l : List Evt) (most : Int) : List Mat := stab ((onesL H q l).filter (keptB (overL H q l most)))

section
variable {H : HH} {q : Query}
theorem stepsL_stop (f : Int) (hf : f ≠ 0) (es : List Evt) (r : Run) : stepsL H q es r f = ([], r, f) := by
 cases es with
 | nil => simp [stepsL, hf]
 | cons e es => simp [stepsL, hf]
theorem stepsL_len : ∀ (es : List Evt) (r : Run) (f : Int), ((stepsL H q es r f).2.2 = 0 → (stepsL H q es r f).1.length = es.length + 1) ∧ ((stepsL H q es r f).2.2 ≠ 0 → (stepsL H q es r f).1.length ≤ es.length)
 | [], r, f => by
  by_cases h : f = 0
  ·simp [stepsL, h]
  ·simp [stepsL, h]
 | e :: es, r, f => by
  by_cases h : f = 0
  ·have ih := stepsL_len es (nextL H q r e).1 (nextL H q r e).2
   simp only [stepsL, h, if_true, List.length_cons]
   exact ⟨fun h0 => by rw [ih.1 h0], fun h0 => by have := ih.2 h0; omega⟩
  ·rw [stepsL_stop f h]; simp [h]
theorem nRun_le (l : List Evt) {i : Nat} (hi : i < l.length) : i + nRun H q l i ≤ l.length ∧ ((fromL H q l i).2.2 ≠ 0 → i + nRun H q l i < l.length) ∧ ((fromL H q l i).2.2 = 0 → i + nRun H q l i = l.length) := by
 have := stepsL_len (H := H) (q := q) (l.drop (i + 1)) (beginL H q (evAt l i) i).1 (beginL H q (evAt l i) i).2
 have hl : (l.drop (i + 1)).length = l.length - (i + 1) := List.length_drop
 rw [hl] at this
 unfold nRun fromL
 by_cases h : (stepsL H q (l.drop (i + 1)) (beginL H q (evAt l i) i).1 (beginL H q (evAt l i) i).2).2.2 = 0
 ·have := this.1 h
  exact ⟨by omega, fun h0 => absurd h h0, fun _ => by omega⟩
 ·have := this.2 h
  exact ⟨by omega, fun _ => by omega, fun h0 => absurd h0 h⟩
theorem oneL_some {l : List Evt} {i : Nat} {m : Mat} (h : oneL H q l i = some m) : m = matL H q l i ∧ (fromL H q l i).2.2 = 2 := by
 unfold oneL at h
 split at h
 ·rename_i h2; injection h with h; exact ⟨h.symm, h2⟩
 ·cases h
theorem overL_cases (l : List Evt) (most : Int) : (overL H q l most = -1 ∧ ∀ e, e < l.length → overB H q l most e = false) ∨ (∃ e : Nat, e < l.length ∧ overL H q l most = e ∧ overB H q l most e = true ∧ ∀ j, j < e → overB H q l most j = false) := by
 unfold overL
 cases h : (List.range l.length).find? (overB H q l most) with
 | none =>
  left
  refine ⟨rfl, fun e he => ?_⟩
  have := List.find?_eq_none.1 h e (List.mem_range.2 he)
  simpa using this
 | some e =>
  right
  obtain ⟨h1, i, hi, h2, h3⟩ := List.find?_eq_some_iff_getElem.1 h
  simp only [List.getElem_range] at h2
  subst h2
  refine ⟨i, by simpa using hi, rfl, h1, fun j hj => ?_⟩
  have := h3 j hj
  simpa using this
def finB (e : Nat) (m : Mat) : Bool := decide (m.fin = (e : Int))
theorem finB_eq {e : Nat} {m : Mat} : finB e m = true ↔ m.fin = (e : Int) := by simp [finB]
theorem finB_ne {e : Nat} {m : Mat} (h : m.fin ≠ (e : Int)) : finB e m = false := by simp [finB, h]
theorem fm_congr {α β : Type} {f g : α → List β} : ∀ {l : List α}, (∀ x ∈ l, f x = g x) → l.flatMap f = l.flatMap g
 | [], _ => rfl
 | x :: l, h => by
  rw [List.flatMap_cons, List.flatMap_cons, h x List.mem_cons_self, fm_congr (fun y hy => h y (List.mem_cons_of_mem _ hy))]
theorem fmap_congr {α β : Type} {f g : α → Option β} : ∀ {l : List α}, (∀ x ∈ l, f x = g x) → l.filterMap f = l.filterMap g
 | [], _ => rfl
 | x :: l, h => by
  rw [List.filterMap_cons, List.filterMap_cons, h x List.mem_cons_self, fmap_congr (fun y hy => h y (List.mem_cons_of_mem _ hy))]
theorem snoc_ind {α : Type} {P : List α → Prop} (h0 : P []) (h1 : ∀ l x, P l → P (l ++ [x])) (l : List α) : P l := by
 have : ∀ r : List α, P r.reverse := fun r => by
  induction r with
  | nil => exact h0
  | cons x r ih => rw [List.reverse_cons]; exact h1 _ _ ih
 have := this l.reverse
 rwa [List.reverse_reverse] at this
def byEnd (l : List Mat) (n : Nat) : List Mat := (List.range n).flatMap fun e => l.filter (finB e)
theorem insL_mid (x : Mat) : ∀ (a b : List Mat), (∀ y ∈ a, y.fin ≤ x.fin) → (∀ y ∈ b, x.fin < y.fin) → insL x (a ++ b) = a ++ x :: b
 | [], [], _, _ => rfl
 | [], y :: b, _, hb => by
  have := hb y List.mem_cons_self
  simp [insL]; omega
 | y :: a, b, ha, hb => by
  have := ha y List.mem_cons_self
  simp only [List.cons_append, insL, if_pos this]
  rw [insL_mid x a b (fun z hz => ha z (List.mem_cons_of_mem _ hz)) hb]
theorem stab_snoc (l : List Mat) (x : Mat) : stab (l ++ [x]) = insL x (stab l) := by unfold stab; rw [List.foldl_append]; rfl
theorem stab_eq (n : Nat) : ∀ (l : List Mat), (∀ m ∈ l, 0 ≤ m.fin ∧ m.fin < n) → stab l = byEnd l n := by
 intro l
 refine snoc_ind (P := fun l => (∀ m ∈ l, 0 ≤ m.fin ∧ m.fin < (n : Int)) → stab l = byEnd l n) ?_ (fun l x ih => ?_) l
 ·intro _; unfold byEnd; simp [stab]
 ·intro h
  have hx := h x (by simp)
  obtain ⟨e, he⟩ : ∃ e : Nat, x.fin = e := ⟨x.fin.toNat, by omega⟩
  have hen : e < n := by omega
  rw [stab_snoc, ih (fun m hm => h m (List.mem_append.2 (.inl hm)))]
  have er : List.range n = List.range e ++ (e :: (List.range (n - (e + 1))).map (e + 1 + ·)) := by
   have : n = (e + 1) + (n - (e + 1)) := by omega
   conv => lhs; rw [this, List.range_add, List.range_succ]
   simp
  unfold byEnd
  rw [er]
  simp only [List.flatMap_append, List.flatMap_cons]
  have f1 : ∀ j ∈ List.range e, (l ++ [x]).filter (finB j) = l.filter (finB j) := fun j hj => by
   have := List.mem_range.1 hj
   rw [List.filter_append]
   have : finB j x = false := finB_ne (by omega)
   simp [this]
  have f2 : ∀ j ∈ (List.range (n - (e + 1))).map (e + 1 + ·), (l ++ [x]).filter (finB j) = l.filter (finB j) := fun j hj => by
   obtain ⟨i, _, rfl⟩ := List.mem_map.1 hj
   rw [List.filter_append]
   have : finB (e + 1 + i) x = false := finB_ne (by omega)
   simp [this]
  have f3 : (l ++ [x]).filter (finB e) = (l.filter (finB e)) ++ [x] := by
   have : finB e x = true := finB_eq.2 he
   rw [List.filter_append]; simp [this]
  rw [fm_congr f1, fm_congr f2, f3]
  rw [← List.append_assoc, ← List.append_assoc]
  rw [insL_mid x _ _ (fun y hy => ?_) (fun y hy => ?_)]
  ·simp
  ·rcases List.mem_append.1 hy with h1 | h1
   ·obtain ⟨j, hj, h2⟩ := List.mem_flatMap.1 h1
    have h3 := List.mem_range.1 hj
    have := finB_eq.1 (List.mem_filter.1 h2).2
    omega
   ·have := finB_eq.1 (List.mem_filter.1 h1).2
    omega
  ·obtain ⟨j, hj, h2⟩ := List.mem_flatMap.1 hy
   obtain ⟨i, _, rfl⟩ := List.mem_map.1 hj
   have := finB_eq.1 (List.mem_filter.1 h2).2
   omega
theorem ones_fin (l : List Evt) {m : Mat} (h : m ∈ onesL H q l) : ∃ i, i < l.length ∧ m = matL H q l i ∧ oneL H q l i = some m ∧ (i : Int) = m.start ∧ m.start ≤ m.fin ∧ m.fin < l.length := by
 obtain ⟨i, hi, h1⟩ := List.mem_filterMap.1 h
 have hi := List.mem_range.1 hi
 obtain ⟨h2, h3⟩ := oneL_some h1
 have hn := nRun_le (H := H) (q := q) l hi
 have := hn.2.1 (by rw [h3]; decide)
 refine ⟨i, hi, h2, h1, by rw [h2]; rfl, ?_, ?_⟩
 ·rw [h2]; show (i : Int) ≤ i + (nRun H q l i : Nat); omega
 ·rw [h2]; show (i : Int) + (nRun H q l i : Nat) < l.length; omega
theorem all_eq (l : List Evt) (most : Int) : allL H q l most = byEnd ((onesL H q l).filter (keptB (overL H q l most))) l.length :=
 stab_eq _ _ fun m hm => by
  obtain ⟨i, hi, _, _, h1, h2, h3⟩ := ones_fin l (List.mem_filter.1 hm).1
  omega
theorem kept_end (l : List Mat) (o : Int) (e : Nat) : ((l.filter (keptB o)).filter (finB e)) = if o < 0 ∨ (e : Int) ≤ o then l.filter (finB e) else [] := by
 rw [List.filter_filter]
 split
 ·rename_i h
  refine List.filter_congr fun m _ => ?_
  by_cases hm : m.fin = (e : Int)
  ·have : keptB o m = true := by unfold keptB; rcases h with h | h <;> simp [h, hm]
   simp [this]
  ·simp [finB_ne hm]
 ·rename_i h
  rw [List.filter_eq_nil_iff]
  intro m _
  by_cases hm : m.fin = (e : Int)
  ·have : keptB o m = false := by unfold keptB; simp [hm]; omega
   simp [this]
  ·simp [finB_ne hm]
theorem all_events (l : List Evt) (most : Int) : allL H q l most = (List.range l.length).flatMap fun (e : Nat) => if overL H q l most < 0 ∨ (e : Int) ≤ overL H q l most then (onesL H q l).filter (finB e) else [] := by
 rw [all_eq]
 unfold byEnd
 exact fm_congr fun e _ => kept_end _ _ e
theorem all_len (l : List Evt) (most : Int) : (allL H q l most).length ≤ l.length := by
 have : ∀ (l : List Mat), (stab l).length = l.length := fun l => by
  have h1 : ∀ (x : Mat) (a : List Mat), (insL x a).length = a.length + 1 := fun x a => by
   induction a with
   | nil => rfl
   | cons y a ih => unfold insL; split <;> simp [ih]
  refine snoc_ind (P := fun l => (stab l).length = l.length) rfl (fun l x ih => ?_) l
  rw [stab_snoc, h1, ih]; simp
 unfold allL
 rw [this]
 refine Nat.le_trans (List.length_filter_le _ _) (Nat.le_trans (List.length_filterMap_le _ _) ?_)
 simp
end
section
variable {H : HH} {q : Query}
def onB (H : HH) (q : Query) (e : Evt) (r : Run) : Option Run := if (nextL H q r e).2 = 0 then some (nextL H q r e).1 else none
theorem steps_next : ∀ (es : List Evt) (r : Run) (f : Int) (j : Nat) (e : Evt), es[j]? = some e → (stepsL H q es r f).1[j + 1]? = (stepsL H q es r f).1[j]?.bind (onB H q e)
 | [], r, f, j, e, h => by simp at h
 | e0 :: es, r, f, 0, e, h => by
  have : e0 = e := by simpa using h
  subst this
  by_cases hf : f = 0
  ·subst hf
   simp only [stepsL, if_true, List.getElem?_cons_zero, List.getElem?_cons_succ, Option.bind_some]
   unfold onB
   by_cases h2 : (nextL H q r e0).2 = 0
   ·rw [if_pos h2, h2]
    cases es with
    | nil => simp [stepsL]
    | cons e2 es => simp [stepsL]
   ·rw [if_neg h2, stepsL_stop _ h2]; rfl
  ·rw [stepsL_stop f hf]; rfl
 | e0 :: es, r, f, j + 1, e, h => by
  by_cases hf : f = 0
  ·subst hf
   simp only [stepsL, if_true, List.getElem?_cons_succ]
   exact steps_next es _ _ j e (by simpa using h)
  ·rw [stepsL_stop f hf]; rfl
theorem steps_end : ∀ (es : List Evt) (r : Run) (f : Int) (j : Nat) (e : Evt) (r' : Run), es[j]? = some e → (stepsL H q es r f).1[j]? = some r' → (nextL H q r' e).2 ≠ 0 →
    (stepsL H q es r f).1.length = j + 1 ∧ (stepsL H q es r f).2 = nextL H q r' e
 | [], r, f, j, e, r', h, _, _ => by simp at h
 | e0 :: es, r, f, 0, e, r', h, h1, h2 => by
  have : e0 = e := by simpa using h
  subst this
  by_cases hf : f = 0
  ·subst hf
   simp only [stepsL, if_true, List.getElem?_cons_zero] at h1
   injection h1 with h1
   subst h1
   simp only [stepsL, if_true]
   rw [stepsL_stop _ h2]
   exact ⟨rfl, rfl⟩
  ·rw [stepsL_stop f hf] at h1; cases h1
 | e0 :: es, r, f, j + 1, e, r', h, h1, h2 => by
  by_cases hf : f = 0
  ·subst hf
   simp only [stepsL, if_true, List.getElem?_cons_succ] at h1
   have ih := steps_end es _ _ j e r' (by simpa using h) h1 h2
   simp only [stepsL, if_true, List.length_cons]
   exact ⟨by rw [ih.1], ih.2⟩
  ·rw [stepsL_stop f hf] at h1; cases h1
theorem steps_first : ∀ (es : List Evt) (r : Run) (f : Int), (∀ x ∈ (stepsL H q es r f).1, x.first = r.first) ∧ (stepsL H q es r f).2.1.first = r.first
 | [], r, f => by
  by_cases hf : f = 0
  ·simp [stepsL, hf]
  ·simp [stepsL, hf]
 | e :: es, r, f => by
  by_cases hf : f = 0
  ·subst hf
   have ih := steps_first es (nextL H q r e).1 (nextL H q r e).2
   rw [nextL_first] at ih
   simp only [stepsL, if_true]
   refine ⟨fun x hx => ?_, ih.2⟩
   rcases List.mem_cons.1 hx with rfl | hx
   ·rfl
   ·exact ih.1 x hx
  ·rw [stepsL_stop f hf]; simp
theorem steps_ok (hq : Made q) : ∀ (es : List Evt) (r : Run) (f : Int), (f = 0 → RunOk q r) → ∀ x ∈ (stepsL H q es r f).1, RunOk q x
 | [], r, f, h, x, hx => by
  by_cases hf : f = 0
  ·have : x = r := by simpa [stepsL, hf] using hx
   rw [this]; exact h hf
  ·simp [stepsL, hf] at hx
 | e :: es, r, f, h, x, hx => by
  by_cases hf : f = 0
  ·have h9 : RunOk q r := h hf
   subst hf
   simp only [stepsL, if_true] at hx
   rcases List.mem_cons.1 hx with hx | hx
   ·rw [hx]; exact h9
   ·exact steps_ok hq es _ _ (fun h2 => RunOk_next hq h9 h2) x hx
  ·rw [stepsL_stop f hf] at hx; cases hx
def atR (H : HH) (q : Query) (l : List Evt) (k i : Nat) : Option Run := (fromL H q l i).1[k - i]?
def runsL (H : HH) (q : Query) (l : List Evt) (k : Nat) : List Run := (List.range k).filterMap (atR H q l (k - 1))
theorem evAt_get {l : List Evt} {k : Nat} (hk : k < l.length) : l[k]? = some (evAt l k) := by
 unfold evAt; rw [List.getD_eq_getElem?_getD, List.getElem?_eq_getElem hk]; rfl
theorem at_next (l : List Evt) {k i : Nat} (hi : i < k) (hk : k < l.length) : atR H q l k i = (atR H q l (k - 1) i).bind (onB H q (evAt l k)) := by
 have e1 : (l.drop (i + 1))[k - 1 - i]? = some (evAt l k) := by
  rw [List.getElem?_drop, show i + 1 + (k - 1 - i) = k by omega]; exact evAt_get hk
 have := steps_next (H := H) (q := q) (l.drop (i + 1)) (beginL H q (evAt l i) i).1 (beginL H q (evAt l i) i).2 (k - 1 - i) _ e1
 have e2 : k - i = k - 1 - i + 1 := by omega
 unfold atR fromL
 rw [e2]; exact this
theorem steps_head (es : List Evt) (r : Run) (f : Int) : (stepsL H q es r f).1[0]? = if f = 0 then some r else none := by
 cases es with
 | nil => by_cases h : f = 0 <;> simp [stepsL, h]
 | cons e es => by_cases h : f = 0 <;> simp [stepsL, h]
theorem at_head (l : List Evt) (k : Nat) : atR H q l k k = if (beginL H q (evAt l k) k).2 = 0 then some (beginL H q (evAt l k) k).1 else none := by
 unfold atR fromL
 rw [Nat.sub_self, steps_head]
theorem at_none (l : List Evt) (k i : Nat) : (atR H q l k i).isSome = decide (k - i < nRun H q l i) := by
 unfold atR nRun
 by_cases h : k - i < (fromL H q l i).1.length
 ·rw [List.getElem?_eq_getElem h, decide_eq_true h]; rfl
 ·rw [List.getElem?_eq_none (by omega), decide_eq_false h]; rfl
theorem begin_of_at {l : List Evt} {k i : Nat} {r : Run} (h : atR H q l k i = some r) : (beginL H q (evAt l i) i).2 = 0 := by
 unfold atR fromL at h
 by_cases h2 : (beginL H q (evAt l i) i).2 = 0
 ·exact h2
 ·rw [stepsL_stop _ h2] at h; cases h
theorem at_first {l : List Evt} {k i : Nat} {r : Run} (h : atR H q l k i = some r) : r.first = i := by
 have h0 := begin_of_at h
 unfold atR fromL at h
 have := (steps_first (H := H) (q := q) (l.drop (i + 1)) (beginL H q (evAt l i) i).1 (beginL H q (evAt l i) i).2).1 r (List.mem_of_getElem? h)
 rw [this]; exact beginL_first (by omega)
theorem at_ok (hq : Made q) {l : List Evt} {k i : Nat} {r : Run} (h : atR H q l k i = some r) : RunOk q r := by
 unfold atR fromL at h
 exact steps_ok hq _ _ _ (fun h0 => RunOk_begin hq h0) r (List.mem_of_getElem? h)
theorem runs_ok (hq : Made q) (l : List Evt) (k : Nat) : ∀ r ∈ runsL H q l k, RunOk q r := fun r hr => by
 obtain ⟨i, _, h⟩ := List.mem_filterMap.1 hr
 exact at_ok hq h
theorem runs_next (l : List Evt) {k : Nat} (hk : k < l.length) : runsL H q l (k + 1) = leftOf H q (evAt l k) (runsL H q l k) ++ if (beginL H q (evAt l k) k).2 = 0 then [(beginL H q (evAt l k) k).1] else [] := by
 unfold runsL
 rw [List.range_succ, List.filterMap_append]
 congr 1
 ·unfold leftOf
  rw [List.filterMap_filterMap]
  refine fmap_congr fun i hi => ?_
  rw [show k + 1 - 1 = k by omega, at_next l (List.mem_range.1 hi) hk]
  cases atR H q l (k - 1) i with
  | none => rfl
  | some r => rfl
 ·rw [show k + 1 - 1 = k by omega]
  simp only [List.filterMap_cons, List.filterMap_nil]
  rw [at_head]
  by_cases h : (beginL H q (evAt l k) k).2 = 0
  ·rw [if_pos h, if_pos h]
  ·rw [if_neg h, if_neg h]
theorem runs_live (l : List Evt) {k : Nat} (hk : k < l.length) : nLive H q l k = (runsL H q l (k + 1)).length := by
 unfold nLive runsL
 have e1 : List.range l.length = List.range (k + 1) ++ (List.range (l.length - (k + 1))).map (k + 1 + ·) := by rw [← List.range_add]; congr 1; omega
 rw [e1, List.countP_append]
 have : ((List.range (l.length - (k + 1))).map (k + 1 + ·)).countP (liveB H q l k) = 0 := by
  rw [List.countP_eq_zero]
  intro x hx
  obtain ⟨y, _, rfl⟩ := List.mem_map.1 hx
  simp [liveB]; omega
 rw [this, Nat.add_zero, List.length_filterMap_eq_countP]
 refine List.countP_congr fun i hi => ?_
 have hi := List.mem_range.1 hi
 rw [show k + 1 - 1 = k by omega]
 show liveB H q l k i = true ↔ (atR H q l k i).isSome = true
 rw [at_none]
 unfold liveB
 simp only [Bool.and_eq_true, decide_eq_true_eq]
 omega
theorem nRun_pos (l : List Evt) (k : Nat) : 0 < nRun H q l k ↔ (beginL H q (evAt l k) k).2 = 0 := by
 have := at_none (H := H) (q := q) l k k
 rw [at_head, Nat.sub_self] at this
 by_cases h : (beginL H q (evAt l k) k).2 = 0
 ·rw [if_pos h] at this
  have := this.symm
  simp at this
  exact ⟨fun _ => h, fun _ => this⟩
 ·rw [if_neg h] at this
  have := this.symm
  simp at this
  exact ⟨fun h2 => absurd h2 (by omega), fun h2 => absurd h2 h⟩
def endsAt (H : HH) (q : Query) (l : List Evt) (k : Nat) : List Mat := (onesL H q l).filter (finB k)
theorem mat_ext {a b : Mat} (h1 : a.start = b.start) (h2 : a.fin = b.fin) (h3 : a.agg = b.agg) (h4 : a.bad = b.bad) : a = b := by
 cases a; cases b; simp only at h1 h2 h3 h4; subst h1; subst h2; subst h3; subst h4; rfl
theorem ends_next (l : List Evt) {k : Nat} (hk : k < l.length) : endsAt H q l k = doneOf H q (evAt l k) k (runsL H q l k) ++ if (beginL H q (evAt l k) k).2 = 2 then [doneM k (beginL H q (evAt l k) k).1] else [] := by
 unfold endsAt onesL runsL doneOf
 have e1 : List.range l.length = List.range k ++ (k :: (List.range (l.length - (k + 1))).map (k + 1 + ·)) := by
  have : l.length = (k + 1) + (l.length - (k + 1)) := by omega
  conv => lhs; rw [this, List.range_add, List.range_succ]
  simp
 rw [e1, List.filterMap_append, List.filter_append, List.filterMap_filterMap, List.filter_filterMap]
 congr 1
 ·refine fmap_congr fun i hi => ?_
  have hi := List.mem_range.1 hi
  have e2 : (l.drop (i + 1))[k - 1 - i]? = some (evAt l k) := by
   rw [List.getElem?_drop, show i + 1 + (k - 1 - i) = k by omega]; exact evAt_get hk
  cases ha : atR H q l (k - 1) i with
  | none =>
   have h1 := at_none (H := H) (q := q) l (k - 1) i
   rw [ha] at h1
   have h1 : ¬ (k - 1 - i < nRun H q l i) := of_decide_eq_false h1.symm
   show (oneL H q l i).filter (finB k) = none
   cases h2 : oneL H q l i with
   | none => rfl
   | some m =>
    obtain ⟨h3, _⟩ := oneL_some h2
    have : finB k m = false := finB_ne (by rw [h3]; show ¬ (i : Int) + (nRun H q l i : Nat) = k; omega)
    simp [Option.filter, this]
  | some r =>
   have ha' := ha
   unfold atR fromL at ha'
   have hnext := at_next (H := H) (q := q) l hi hk
   rw [ha] at hnext
   show (oneL H q l i).filter (finB k) = if (nextL H q r (evAt l k)).2 = 2 then some (doneM k (nextL H q r (evAt l k)).1) else none
   by_cases h0 : (nextL H q r (evAt l k)).2 = 0
   ·rw [if_neg (by omega)]
    have h1 := at_none (H := H) (q := q) l k i
    rw [hnext] at h1
    have h5 : onB H q (evAt l k) r = some (nextL H q r (evAt l k)).1 := by unfold onB; rw [if_pos h0]
    rw [Option.bind_some, h5] at h1
    have h1 : k - i < nRun H q l i := of_decide_eq_true h1.symm
    cases h2 : oneL H q l i with
    | none => rfl
    | some m =>
     obtain ⟨h3, _⟩ := oneL_some h2
     have : finB k m = false := finB_ne (by rw [h3]; show ¬ (i : Int) + (nRun H q l i : Nat) = k; omega)
     simp [Option.filter, this]
   ·obtain ⟨s1, s2⟩ := steps_end (H := H) (q := q) _ _ _ _ _ r e2 ha' h0
    have s1' : nRun H q l i = k - 1 - i + 1 := s1
    have s2' : (fromL H q l i).2 = nextL H q r (evAt l k) := s2
    unfold oneL
    rw [s2']
    by_cases h2 : (nextL H q r (evAt l k)).2 = 2
    ·rw [if_pos h2, if_pos h2]
     have hm : matL H q l i = doneM k (nextL H q r (evAt l k)).1 := by
      refine mat_ext ?_ ?_ ?_ ?_
      ·show (i : Int) = (nextL H q r (evAt l k)).1.first
       rw [nextL_first, at_first ha]
      ·show (i : Int) + (nRun H q l i : Nat) = (k : Int)
       rw [s1']; omega
      ·show (fromL H q l i).2.1.agg = _
       rw [s2']; rfl
      ·show (fromL H q l i).2.1.bad = _
       rw [s2']; rfl
     rw [hm]
     have : finB k (doneM k (nextL H q r (evAt l k)).1) = true := finB_eq.2 rfl
     simp [Option.filter, this]
    ·rw [if_neg h2, if_neg h2]; rfl
 ·rw [List.filterMap_cons]
  have z : ((((List.range (l.length - (k + 1))).map (k + 1 + ·)).filterMap (oneL H q l)).filter (finB k)) = [] := by
   rw [List.filter_eq_nil_iff]
   intro m hm
   obtain ⟨i, hi, h1⟩ := List.mem_filterMap.1 hm
   obtain ⟨j, _, rfl⟩ := List.mem_map.1 hi
   obtain ⟨h2, _⟩ := oneL_some h1
   have : finB k (matL H q l (k + 1 + j)) = false := finB_ne (by show ¬ ((k + 1 + j : Nat) : Int) + (nRun H q l (k + 1 + j) : Nat) = k; omega)
   rw [h2, this]; simp
  have hp := nRun_pos (H := H) (q := q) l k
  by_cases h2 : (beginL H q (evAt l k) k).2 = 2
  ·rw [if_pos h2]
   have hf : fromL H q l k = ([], (beginL H q (evAt l k) k).1, (beginL H q (evAt l k) k).2) := by
    unfold fromL; rw [stepsL_stop _ (by rw [h2]; decide)]
   have h3 : oneL H q l k = some (matL H q l k) := by unfold oneL; rw [hf]; exact if_pos h2
   have hm : matL H q l k = doneM k (beginL H q (evAt l k) k).1 := by
    refine mat_ext ?_ ?_ ?_ ?_
    ·show (k : Int) = (beginL H q (evAt l k) k).1.first
     rw [beginL_first (by rw [h2]; decide)]
    ·show (k : Int) + (nRun H q l k : Nat) = (k : Int)
     have : ¬ 0 < nRun H q l k := fun h => by have := hp.1 h; omega
     omega
    ·show (fromL H q l k).2.1.agg = _
     rw [hf]; rfl
    ·show (fromL H q l k).2.1.bad = _
     rw [hf]; rfl
   rw [h3, hm]
   have : finB k (doneM k (beginL H q (evAt l k) k).1) = true := finB_eq.2 rfl
   dsimp only
   rw [List.filter_cons, if_pos this, z]
  ·rw [if_neg h2]
   cases h3 : oneL H q l k with
   | none => exact z
   | some m =>
    obtain ⟨h4, h5⟩ := oneL_some h3
    have h6 : 0 < nRun H q l k := by
     rw [hp]
     by_cases h7 : (beginL H q (evAt l k) k).2 = 0
     ·exact h7
     ·exfalso
      unfold fromL at h5
      rw [stepsL_stop _ h7] at h5
      exact h2 h5
    have : finB k m = false := finB_ne (by rw [h4]; show ¬ (k : Int) + (nRun H q l k : Nat) = k; omega)
    dsimp only
    rw [List.filter_cons, if_neg (by rw [this]; decide), z]
theorem begin_fates (hq : Made q) (e : Evt) (i : Int) : (beginL H q e i).2 = 0 ∨ (beginL H q e i).2 = 1 ∨ (beginL H q e i).2 = 2 := by
 unfold beginL
 split
 ·exact .inr (.inl rfl)
 split
 ·exact .inr (.inl rfl)
 ·dsimp only
  unfold fateL
  split
  ·exact .inr (.inr rfl)
  ·exact .inl rfl
def goes (o : Int) (k : Nat) : Prop := o < 0 ∨ (k : Int) ≤ o
instance (o : Int) (k : Nat) : Decidable (goes o k) := by unfold goes; infer_instance
def storeAt (H : HH) (q : Query) (l : List Evt) (k : Nat) : StoreL := if goes (overL H q l 5) k then ⟨q, runsL H q l k, -1⟩ else ⟨q, [], overL H q l 5⟩
def toldAt (H : HH) (q : Query) (l : List Evt) (k : Nat) : List Mat := if goes (overL H q l 5) k then endsAt H q l k else []
theorem over_at (l : List Evt) {k : Nat} (hk : k < l.length) : overB H q l 5 k = true ↔ (beginL H q (evAt l k) k).2 = 0 ∧ 5 < (runsL H q l (k + 1)).length := by
 unfold overB
 rw [runs_live l hk]
 simp only [Bool.and_eq_true, decide_eq_true_eq]
 rw [nRun_pos]
 constructor
 ·rintro ⟨a, b⟩; exact ⟨a, by omega⟩
 ·rintro ⟨a, b⟩; exact ⟨a, by omega⟩
theorem over_not (l : List Evt) {k : Nat} (hk : k < l.length) (h : goes (overL H q l 5) (k + 1)) : overB H q l 5 k = false := by
 rcases overL_cases (H := H) (q := q) l 5 with ⟨h1, h2⟩ | ⟨e, h1, h2, h3, h4⟩
 ·exact h2 k hk
 ·refine h4 k ?_
  unfold goes at h
  rw [h2] at h; omega
theorem runs_few (l : List Evt) : ∀ {k : Nat}, k ≤ l.length → goes (overL H q l 5) k → (runsL H q l k).length ≤ 5
 | 0, _, _ => by simp [runsL]
 | k + 1, hk, h => by
  have ih := runs_few l (k := k) (by omega) (by unfold goes at h ⊢; omega)
  have hn := over_not l (by omega) h
  rw [runs_next l (by omega)]
  have hl := leftOf_len H q (evAt l k) (runsL H q l k)
  by_cases c : (beginL H q (evAt l k) k).2 = 0
  ·have : ¬ (5 < (runsL H q l (k + 1)).length) := fun h5 => by
     have := (over_at l (by omega)).2 ⟨c, h5⟩
     rw [hn] at this; cases this
   rw [runs_next l (by omega)] at this
   omega
  ·rw [if_neg c, List.append_nil]; omega
theorem store_may (hq : Made q) (l : List Evt) {k : Nat} (hk : k ≤ l.length) : mayS (storeAt H q l k) := by
 unfold storeAt
 split
 ·rename_i h
  exact ⟨runs_few l hk h, fun r hr => (RunOk.may hq (runs_ok hq l k r hr)).1, .inl rfl⟩
 ·rename_i h
  refine ⟨by simp, by simp, .inr ⟨?_, rfl⟩⟩
  show overL H q l 5 ≥ 0
  unfold goes at h; omega
theorem store_next (hq : Made q) (l : List Evt) {k : Nat} (hk : k < l.length) : feedL H (storeAt H q l k) (evAt l k) k = (storeAt H q l (k + 1), toldAt H q l k) := by
 have hm := store_may (H := H) hq l (k := k) (by omega)
 by_cases hg : goes (overL H q l 5) k
 case neg =>
  have h1 : ¬ goes (overL H q l 5) (k + 1) := by unfold goes at hg ⊢; omega
  have h2 : (storeAt H q l k).over ≠ -1 := by
   unfold storeAt; rw [if_neg hg]
   show overL H q l 5 ≠ -1
   unfold goes at hg; omega
  rw [feedL_over (.inr h2)]
  unfold storeAt toldAt
  rw [if_neg hg, if_neg h1, if_neg hg]
 have e0 : storeAt H q l k = ⟨q, runsL H q l k, -1⟩ := by unfold storeAt; rw [if_pos hg]
 have e1 : toldAt H q l k = endsAt H q l k := by unfold toldAt; rw [if_pos hg]
 rw [e0] at hm ⊢
 rw [e1]
 have hr := runs_next (H := H) (q := q) l hk
 have he := ends_next (H := H) (q := q) l hk
 have hl := leftOf_len H q (evAt l k) (runsL H q l k)
 have hf := runs_few l (by omega) hg
 have ha := over_at (H := H) (q := q) l hk
 have go1 : goes (overL H q l 5) (k + 1) ↔ overB H q l 5 k = false := by
  constructor
  ·exact over_not l hk
  ·intro h
   rcases overL_cases (H := H) (q := q) l 5 with ⟨h1, h2⟩ | ⟨e, h1, h2, h3, h4⟩
   ·left; omega
   ·unfold goes at hg ⊢
    rw [h2] at hg ⊢
    have : e ≠ k := fun h5 => by rw [h5, h] at h3; cases h3
    omega
 have stay : overB H q l 5 k = false → storeAt H q l (k + 1) = ⟨q, runsL H q l (k + 1), -1⟩ := fun h => by
  unfold storeAt; rw [if_pos (go1.2 h)]
 unfold feedL
 rw [if_neg (by intro h; rcases h with h | h; exact h hm; exact h rfl)]
 dsimp only
 rcases begin_fates (H := H) hq (evAt l k) k with c | c | c
 ·rw [if_neg (by omega)]
  rw [if_neg (show ¬ (beginL H q (evAt l k) k).2 = 2 by omega), List.append_nil] at he
  rw [if_pos c] at hr
  by_cases c5 : (leftOf H q (evAt l k) (runsL H q l k)).length = 5
  ·rw [if_pos ⟨c, c5⟩]
   have hb : overB H q l 5 k = true := ha.2 ⟨c, by rw [hr, List.length_append]; simp; omega⟩
   have ho : overL H q l 5 = k := by
    rcases overL_cases (H := H) (q := q) l 5 with ⟨h1, h2⟩ | ⟨e, h1, h2, h3, h4⟩
    ·rw [h2 k hk] at hb; cases hb
    ·unfold goes at hg
     rw [h2] at hg ⊢
     have : ¬ k < e := fun h5 => by rw [h4 k h5] at hb; cases hb
     congr 1; omega
   have hng : ¬ goes (overL H q l 5) (k + 1) := fun h => by rw [go1.1 h] at hb; cases hb
   unfold storeAt
   rw [if_neg hng, ho, he]
   congr 2
   omega
  ·rw [if_neg (fun h => c5 h.2), if_pos c]
   have hb : overB H q l 5 k = false := by
    cases hb : overB H q l 5 k with
    | false => rfl
    | true =>
     have := (ha.1 hb).2
     rw [hr, List.length_append] at this
     simp at this; omega
   rw [stay hb, hr, he]
 ·rw [if_neg (by omega), if_neg (by omega), if_neg (by omega)]
  rw [if_neg (show ¬ (beginL H q (evAt l k) k).2 = 2 by omega), List.append_nil] at he
  rw [if_neg (show ¬ (beginL H q (evAt l k) k).2 = 0 by omega), List.append_nil] at hr
  have hb : overB H q l 5 k = false := by
   cases hb : overB H q l 5 k with
   | false => rfl
   | true => have := (ha.1 hb).1; omega
  rw [stay hb, hr, he]
 ·rw [if_pos c]
  rw [if_pos c] at he
  rw [if_neg (show ¬ (beginL H q (evAt l k) k).2 = 0 by omega), List.append_nil] at hr
  have hb : overB H q l 5 k = false := by
   cases hb : overB H q l 5 k with
   | false => rfl
   | true => have := (ha.1 hb).1; omega
  rw [stay hb, hr, he]
def toldBy (H : HH) (q : Query) (l : List Evt) (k : Nat) : List Mat := (List.range k).flatMap (toldAt H q l)
theorem told_next (l : List Evt) (k : Nat) : toldBy H q l (k + 1) = toldBy H q l k ++ toldAt H q l k := by
 unfold toldBy; rw [List.range_succ, List.flatMap_append]; simp
theorem told_all (l : List Evt) : toldBy H q l l.length = allL H q l 5 := by
 rw [all_events]; rfl
theorem store_zero (l : List Evt) : storeAt H q l 0 = ⟨q, [], -1⟩ := by
 unfold storeAt
 by_cases h : goes (overL H q l 5) 0
 ·rw [if_pos h]; rfl
 ·exfalso; unfold goes at h; omega
theorem store_over (l : List Evt) : (storeAt H q l l.length).over = overL H q l 5 := by
 unfold storeAt
 rcases overL_cases (H := H) (q := q) l 5 with ⟨h1, h2⟩ | ⟨e, h1, h2, h3, h4⟩
 ·rw [if_pos (by left; omega), h1]
 ·rw [if_neg (by unfold goes; omega)]
theorem told_len (l : List Evt) {k : Nat} (hk : k ≤ l.length) : (toldBy H q l k).length ≤ l.length := by
 have h : ∃ r, allL H q l 5 = toldBy H q l k ++ r := by
  rw [← told_all]
  refine ⟨((List.range (l.length - k)).map (k + ·)).flatMap (toldAt H q l), ?_⟩
  unfold toldBy
  have : l.length = k + (l.length - k) := by omega
  conv => lhs; rw [this, List.range_add, List.flatMap_append]
 obtain ⟨r, h⟩ := h
 have := all_len (H := H) (q := q) l 5
 rw [h, List.length_append] at this
 omega
end
section
variable {H : HH} {q : Query}
def nBy (H : HH) (q : Query) (l : List Evt) (k : Nat) : Nat := (toldBy H q l k).length
theorem nBy_next (l : List Evt) (k : Nat) : nBy H q l (k + 1) = nBy H q l k + (toldAt H q l k).length := by
 unfold nBy; rw [told_next, List.length_append]
def wasO (H : HH) (q : Query) (l : List Evt) (k : Nat) : Bool := decide ((storeAt H q l k).over ≠ -1)
def finO (H : HH) (q : Query) (l : List Evt) (k : Nat) : Int := if (storeAt H q l k).over = -1 then 0 else 1
def subAt (H : HH) (q : Query) (l : List Evt) (k : Nat) : SubL := ⟨1, 1, storeAt H q l k, nBy H q l k, nBy H q l k, [], false, finO H q l k, wasO H q l k⟩
def subMid (H : HH) (q : Query) (l : List Evt) (k j : Nat) (t : Bool) : SubL := ⟨1, 1, storeAt H q l (k + 1), nBy H q l k, ((nBy H q l k + j : Nat) : Int), toldAt H q l k, false, finO H q l (k + 1), t⟩
theorem storeAt_over (l : List Evt) (k : Nat) : (storeAt H q l k).over = if goes (overL H q l 5) k then -1 else overL H q l 5 := by
 unfold storeAt; split <;> rfl
theorem nBy_le (l : List Evt) {k : Nat} (hk : k ≤ l.length) : nBy H q l k ≤ l.length := told_len l hk
theorem sub_zero' (l : List Evt) : subAt H q l 0 = ⟨1, 1, ⟨q, [], -1⟩, 0, 0, [], false, 0, false⟩ := by
 have h0 : nBy H q l 0 = 0 := rfl
 unfold subAt finO wasO
 rw [store_zero, h0]
 rfl
theorem subAt_may (hq : Made q) (l : List Evt) {k : Nat} (hk : k ≤ l.length) (hb : l.length ≤ 1000) : mayU (subAt H q l k) := by
 have hm := store_may (H := H) hq l hk
 have hn := nBy_le (H := H) (q := q) l hk
 refine ⟨by show (0 : Int) ≤ 1; omega, by show (0 : Int) ≤ 1; omega, hm, ⟨?_, ?_, ?_, ?_, ?_⟩, ?_⟩
 ·show (0 : Int) ≤ (nBy H q l k : Int); omega
 ·show ((0 : Nat) : Int) ≤ 6; omega
 ·show (nBy H q l k : Int) + ((0 : Nat) : Int) ≤ 1099511627776; omega
 ·show (nBy H q l k : Int) ≤ (nBy H q l k : Int); omega
 ·show (nBy H q l k : Int) ≤ (nBy H q l k : Int) + ((0 : Nat) : Int); omega
 ·by_cases c : (storeAt H q l k).over = -1
  ·refine .inl ⟨?_, c, ?_⟩
   ·show finO H q l k = 0; unfold finO; rw [if_pos c]
   ·show wasO H q l k = false; unfold wasO; simp [c]
  ·refine .inr ⟨.inl ⟨?_, c⟩, ?_, .inr ?_⟩
   ·show finO H q l k = 1; unfold finO; rw [if_neg c]
   ·rcases hm.2.2 with h | h
    ·exact absurd h c
    ·exact h.2
   ·show (nBy H q l k : Int) = (nBy H q l k : Int) + ((0 : Nat) : Int); omega
theorem toldAt_len (hq : Made q) (l : List Evt) {k : Nat} (hk : k < l.length) : (toldAt H q l k).length ≤ 6 := by
 have h := store_next (H := H) hq l hk
 have h2 := feedL_len H (storeAt H q l k) (evAt l k) k
 rw [h] at h2; exact h2
theorem over_keeps (hq : Made q) (l : List Evt) {k : Nat} (hk : k < l.length) (h : (storeAt H q l k).over ≠ -1) : storeAt H q l (k + 1) = storeAt H q l k ∧ toldAt H q l k = [] := by
 have h1 := store_next (H := H) hq l hk
 rw [feedL_over (.inr h)] at h1
 injection h1 with h1 h2
 exact ⟨h1.symm, h2.symm⟩
theorem sub_feed (hq : Made q) (l : List Evt) {k : Nat} (hk : k < l.length) (hb : l.length ≤ 1000) : feedU H (subAt H q l k) (evAt l k) k = subMid H q l k 0 (wasO H q l k) := by
 have hm := subAt_may (H := H) hq l (k := k) (by omega) hb
 have hn := nBy_le (H := H) (q := q) l (k := k) (by omega)
 have h1 := store_next (H := H) hq l hk
 have h6 := toldAt_len (H := H) hq l hk
 by_cases c : (storeAt H q l k).over = -1
 ·have f0 : (subAt H q l k).fin = 0 := by show finO H q l k = 0; unfold finO; rw [if_pos c]
  unfold feedU
  rw [if_neg (by intro hh; rcases hh with hh | hh; exact hh hm; exact hh f0)]
  have e1 : feedL H (subAt H q l k).s (evAt l k) k = (storeAt H q l (k + 1), toldAt H q l k) := h1
  rw [e1]
  have e2 : putM (subAt H q l k).ack (subAt H q l k).sent (subAt H q l k).m (toldAt H q l k) = (true, toldAt H q l k) := by
   rw [putM_room _ _ hm.2.2.2.1]
   ·rfl
   ·show 0 + _ ≤ 6; omega
   ·show (nBy H q l k : Int) + ((0 : Nat) : Int) + _ ≤ 1099511627776; omega
  dsimp only
  rw [e2, if_neg (by simp)]
  unfold subMid finO
  have e3 : (if (storeAt H q l (k + 1)).over ≠ -1 then (1 : Int) else 0) = if (storeAt H q l (k + 1)).over = -1 then 0 else 1 := by
   by_cases c2 : (storeAt H q l (k + 1)).over = -1 <;> simp [c2]
  rw [e3, Nat.add_zero]
  rfl
 ·have f0 : (subAt H q l k).fin ≠ 0 := by show finO H q l k ≠ 0; unfold finO; rw [if_neg c]; decide
  unfold feedU
  rw [if_pos (.inr f0)]
  obtain ⟨k1, k2⟩ := over_keeps (H := H) hq l hk c
  unfold subMid subAt finO
  rw [k1, k2, Nat.add_zero]
theorem mid_may (hq : Made q) (l : List Evt) {k : Nat} (hk : k < l.length) (hb : l.length ≤ 1000) {j : Nat} (hj : j ≤ (toldAt H q l k).length) {t : Bool}
    (ht : t = true → (storeAt H q l (k + 1)).over ≠ -1 ∧ j = (toldAt H q l k).length) : mayU (subMid H q l k j t) := by
 have hm := store_may (H := H) hq l (k := k + 1) (by omega)
 have hn := nBy_le (H := H) (q := q) l (k := k) (by omega)
 have h6 := toldAt_len (H := H) hq l hk
 refine ⟨by show (0 : Int) ≤ 1; omega, by show (0 : Int) ≤ 1; omega, hm, ⟨?_, ?_, ?_, ?_, ?_⟩, ?_⟩
 ·show (0 : Int) ≤ (nBy H q l k : Int); omega
 ·show ((toldAt H q l k).length : Int) ≤ 6; omega
 ·show (nBy H q l k : Int) + ((toldAt H q l k).length : Int) ≤ 1099511627776; omega
 ·show (nBy H q l k : Int) ≤ ((nBy H q l k + j : Nat) : Int); omega
 ·show ((nBy H q l k + j : Nat) : Int) ≤ (nBy H q l k : Int) + ((toldAt H q l k).length : Int); omega
 ·by_cases c : (storeAt H q l (k + 1)).over = -1
  ·refine .inl ⟨?_, c, ?_⟩
   ·show finO H q l (k + 1) = 0; unfold finO; rw [if_pos c]
   ·show t = false
    cases t with
    | false => rfl
    | true => exact absurd c (ht rfl).1
  ·refine .inr ⟨.inl ⟨?_, c⟩, ?_, ?_⟩
   ·show finO H q l (k + 1) = 1; unfold finO; rw [if_neg c]
   ·rcases hm.2.2 with h | h
    ·exact absurd h c
    ·exact h.2
   ·cases t with
    | false => exact .inl rfl
    | true =>
     right
     have := (ht rfl).2
     show ((nBy H q l k + j : Nat) : Int) = (nBy H q l k : Int) + ((toldAt H q l k).length : Int); omega
theorem mid_give (hq : Made q) (l : List Evt) {k : Nat} (hk : k < l.length) (hb : l.length ≤ 1000) {j : Nat} (hj : j < (toldAt H q l k).length) :
    giveU (subMid H q l k j false) = (subMid H q l k (j + 1) false, ⟨1, ((nBy H q l k + j : Nat) : Int) + 1, 0, (toldAt H q l k)[j]⟩, true) := by
 have hm := mid_may (H := H) hq l hk hb (j := j) (by omega) (t := false) (by intro h; cases h)
 rw [giveU_next hm rfl (by show ((nBy H q l k + j : Nat) : Int) ≠ (nBy H q l k : Int) + ((toldAt H q l k).length : Int); omega)]
 have e1 : ((subMid H q l k j false).sent - (subMid H q l k j false).ack).toNat = j := by
  show (((nBy H q l k + j : Nat) : Int) - (nBy H q l k : Int)).toNat = j; omega
 rw [e1]
 have e2 : (subMid H q l k j false).m.getD j default = (toldAt H q l k)[j] := by
  show (toldAt H q l k).getD j default = _
  rw [List.getD_eq_getElem?_getD, List.getElem?_eq_getElem hj]; rfl
 rw [e2]
 unfold subMid
 have e3 : ((nBy H q l k + (j + 1) : Nat) : Int) = ((nBy H q l k + j : Nat) : Int) + 1 := by omega
 rw [e3]
theorem mid_none (hq : Made q) (l : List Evt) {k : Nat} (hk : k < l.length) (hb : l.length ≤ 1000) {t : Bool} (ht : t = true ↔ (storeAt H q l (k + 1)).over ≠ -1) :
    giveU (subMid H q l k (toldAt H q l k).length t) = (subMid H q l k (toldAt H q l k).length t, noNote, false) := by
 have hm := mid_may (H := H) hq l hk hb (j := (toldAt H q l k).length) (by omega) (t := t) (fun h => ⟨ht.1 h, rfl⟩)
 rw [giveU_last hm rfl (by show ((nBy H q l k + (toldAt H q l k).length : Nat) : Int) = (nBy H q l k : Int) + ((toldAt H q l k).length : Int); omega)]
 rw [if_pos]
 by_cases c : (storeAt H q l (k + 1)).over = -1
 ·left; show finO H q l (k + 1) = 0; unfold finO; rw [if_pos c]
 ·right; exact ht.2 c
theorem mid_over (hq : Made q) (l : List Evt) {k : Nat} (hk : k < l.length) (hb : l.length ≤ 1000) (h : (storeAt H q l (k + 1)).over ≠ -1) :
    giveU (subMid H q l k (toldAt H q l k).length false) = (subMid H q l k (toldAt H q l k).length true, ⟨1, 0, 1, default⟩, true) := by
 have hm := mid_may (H := H) hq l hk hb (j := (toldAt H q l k).length) (by omega) (t := false) (by intro h; cases h)
 have f1 : finO H q l (k + 1) = 1 := by unfold finO; rw [if_neg h]
 rw [giveU_last hm rfl (by show ((nBy H q l k + (toldAt H q l k).length : Nat) : Int) = (nBy H q l k : Int) + ((toldAt H q l k).length : Int); omega)]
 rw [if_neg]
 ·unfold subMid
  dsimp only
  rw [f1]
 ·rintro (c | c)
  ·have c : finO H q l (k + 1) = 0 := c
   rw [f1] at c; cases c
  ·cases c
theorem mid_ack (hq : Made q) (l : List Evt) {k : Nat} (hk : k < l.length) (hb : l.length ≤ 1000) {t : Bool} (ht : t = true ↔ (storeAt H q l (k + 1)).over ≠ -1) :
    whyL (subMid H q l k (toldAt H q l k).length t).ack (subMid H q l k (toldAt H q l k).length t).sent (subMid H q l k (toldAt H q l k).length t).m (nBy H q l (k + 1)) = 0 ∧
     ackL (subMid H q l k (toldAt H q l k).length t) (nBy H q l (k + 1)) = subAt H q l (k + 1) := by
 have hm := mid_may (H := H) hq l hk hb (j := (toldAt H q l k).length) (by omega) (t := t) (fun h => ⟨ht.1 h, rfl⟩)
 have hn := nBy_next (H := H) (q := q) l k
 refine ⟨whyL_zero.2 ⟨hm.2.2.2.1, ?_, ?_⟩, ?_⟩
 ·show (nBy H q l k : Int) ≤ (nBy H q l (k + 1) : Int); omega
 ·show (nBy H q l (k + 1) : Int) ≤ ((nBy H q l k + (toldAt H q l k).length : Nat) : Int); omega
 ·unfold ackL subMid subAt
  have e1 : ((nBy H q l (k + 1) : Int) - (nBy H q l k : Int)).toNat = (toldAt H q l k).length := by omega
  have e2 : t = wasO H q l (k + 1) := by
   unfold wasO
   by_cases c : (storeAt H q l (k + 1)).over = -1
   ·cases t with
    | false => simp [c]
    | true => exact absurd c (ht.1 rfl)
   ·rw [ht.2 c]; simp [c]
  dsimp only
  rw [e1, List.drop_length, hn, e2]
theorem over_here (l : List Evt) {k : Nat} (h1 : (storeAt H q l k).over = -1) (h2 : (storeAt H q l (k + 1)).over ≠ -1) : overL H q l 5 = k := by
 rw [storeAt_over] at h1 h2
 by_cases c1 : goes (overL H q l 5) k
 ·by_cases c2 : goes (overL H q l 5) (k + 1)
  ·rw [if_pos c2] at h2; exact absurd rfl h2
  ·unfold goes at c1 c2; omega
 ·rw [if_neg c1] at h1
  unfold goes at c1; omega
theorem all_at (l : List Evt) {k : Nat} (hk : k < l.length) {j : Nat} (hj : j < (toldAt H q l k).length) : (allL H q l 5)[nBy H q l k + j]? = some (toldAt H q l k)[j] := by
 have h : ∃ r, allL H q l 5 = toldBy H q l (k + 1) ++ r := by
  rw [← told_all]
  refine ⟨((List.range (l.length - (k + 1))).map (k + 1 + ·)).flatMap (toldAt H q l), ?_⟩
  unfold toldBy
  have : l.length = (k + 1) + (l.length - (k + 1)) := by omega
  conv => lhs; rw [this, List.range_add, List.flatMap_append]
 obtain ⟨r, h⟩ := h
 rw [h, told_next, List.append_assoc, List.getElem?_append_right (by unfold nBy; omega)]
 rw [show nBy H q l k + j - (toldBy H q l k).length = j by unfold nBy; omega, List.getElem?_append_left hj, List.getElem?_eq_getElem hj]
theorem n_all (l : List Evt) : nBy H q l l.length = (allL H q l 5).length := by unfold nBy; rw [told_all]
end
end Go.Eng
