/- Stores in plain words: what an event makes of one, and what is so of that. -/
import Derived.Test.YtbjeikmkngcjlaaZM1
set_option linter.unusedVariables false
set_option linter.unusedSimpArgs false
namespace Go.Eng
open Go Go.Eng
structure StoreL where
 q : Query
 r : List Run
 over : Int
def mayS (s : StoreL) : Prop := s.r.length ≤ 5 ∧ (∀ r ∈ s.r, mayR s.q r) ∧ (s.over = -1 ∨ s.over ≥ 0 ∧ s.r.length = 0)
instance (s : StoreL) : Decidable (mayS s) := by unfold mayS; infer_instance
def leftOf (H : HH) (q : Query) (e : Evt) (l : List Run) : List Run := l.filterMap (fun r => if (nextL H q r e).2 = 0 then some (nextL H q r e).1 else none)
def doneM (at' : Int) (r : Run) : Mat := ⟨r.first, at', r.agg, r.bad⟩
def doneOf (H : HH) (q : Query) (e : Evt) (at' : Int) (l : List Run) : List Mat := l.filterMap (fun r => if (nextL H q r e).2 = 2 then some (doneM at' (nextL H q r e).1) else none)
def feedL (H : HH) (s : StoreL) (e : Evt) (at' : Int) : StoreL × List Mat :=
 if ¬ mayS s ∨ s.over ≠ -1 then (s, [])
 else if (beginL H s.q e at').2 = 2 then (⟨s.q, leftOf H s.q e s.r, s.over⟩, doneOf H s.q e at' s.r ++ [doneM at' (beginL H s.q e at').1])
 else if (beginL H s.q e at').2 = 0 ∧ (leftOf H s.q e s.r).length = 5 then (⟨s.q, [], max at' 0⟩, doneOf H s.q e at' s.r)
 else if (beginL H s.q e at').2 = 0 then (⟨s.q, leftOf H s.q e s.r ++ [(beginL H s.q e at').1], s.over⟩, doneOf H s.q e at' s.r)
 else (⟨s.q, leftOf H s.q e s.r, s.over⟩, doneOf H s.q e at' s.r)
theorem leftOf_len (H : HH) (q : Query) (e : Evt) (l : List Run) : (leftOf H q e l).length ≤ l.length := List.length_filterMap_le _ _
theorem doneOf_len (H : HH) (q : Query) (e : Evt) (at' : Int) (l : List Run) : (doneOf H q e at' l).length ≤ l.length := List.length_filterMap_le _ _
theorem feedL_over {H : HH} {s : StoreL} {e : Evt} {at' : Int} (h : ¬ mayS s ∨ s.over ≠ -1) : feedL H s e at' = (s, []) := by unfold feedL; rw [if_pos h]
theorem nextL_first (H : HH) (q : Query) (r : Run) (e : Evt) : (nextL H q r e).1.first = r.first := by
 by_cases h : r.step < 0 ∨ r.step ≥ q.steps.length
 ·unfold nextL; rw [if_pos h]
 ·rcases nextL_cases H q r e (by omega) (by omega) with c | c | ⟨_, _, c⟩ | ⟨_, c⟩ <;> rw [c]
  ·exact (toldL_keep q { r with step := r.step + 1, n := 1 } e.v).1
  ·exact (toldL_keep q { r with n := w64 (r.n + 1) } e.v).1
theorem beginL_first {H : HH} {q : Query} {e : Evt} {at' : Int} (h : (beginL H q e at').2 ≠ 1) : (beginL H q e at').1.first = at' := by
 unfold beginL at h ⊢
 split at h
 ·exact absurd rfl h
 ·rename_i h1
  rw [if_neg h1]
  split at h
  ·exact absurd rfl h
  ·rename_i h2
   rw [if_neg h2]
   exact (toldL_keep q ⟨at', e.at_, 0, 1, 0, 0, false⟩ e.v).1
def RunOk (q : Query) (r : Run) : Prop := (∃ t, RunInv q r t) ∧ fateL q r = 0
theorem RunOk.may {q : Query} (hq : Made q) {r : Run} (h : RunOk q r) : mayR q r ∧ r.many ≤ 4 := by
 obtain ⟨⟨t, h⟩, hf⟩ := h
 have ha := hq.st q.aggStep hq.s0 hq.s1
 have hs := hq.st r.step h.s0 h.s1
 have n0 := h.n0
 have n1 := h.n1
 have : 0 ≤ r.many ∧ r.many ≤ 4 := by
  rcases Int.lt_trichotomy r.step q.aggStep with g | g | g
  ·rw [h.m0 g]; omega
  ·rw [h.m1 g]; omega
  ·have := h.m2 g; omega
 exact ⟨⟨h.s0, h.s1, this.1, n0, n1, hf⟩, this.2⟩
theorem RunOk_next {H : HH} {q : Query} (hq : Made q) {r : Run} (h : RunOk q r) {e : Evt} (h2 : (nextL H q r e).2 = 0) : RunOk q (nextL H q r e).1 := by
 obtain ⟨⟨t, h⟩, hf⟩ := h
 refine ⟨⟨_, RunInv_next hq h e (by omega)⟩, ?_⟩
 rcases nextL_cases H q r e h.s0 h.s1 with c | c | ⟨_, _, c⟩ | ⟨_, c⟩
 ·rw [c] at h2; cases h2
 ·rw [c]; exact hf
 ·rw [c] at h2 ⊢; exact h2
 ·rw [c] at h2 ⊢; exact h2
theorem RunOk_begin {H : HH} {q : Query} (hq : Made q) {e : Evt} {at' : Int} (h : (beginL H q e at').2 = 0) : RunOk q (beginL H q e at').1 := by
 refine ⟨⟨_, RunInv_begin hq (by omega)⟩, ?_⟩
 rcases beginL_may (H := H) hq (e := e) (at' := at') with c | ⟨c, _⟩
 ·omega
 ·omega
structure StInv (q : Query) (s : StoreL) (t : Int) : Prop where
 qq : s.q = q
 len : s.r.length ≤ 5
 over : s.over = -1 ∨ s.over ≥ 0 ∧ s.r.length = 0
 run : ∀ r ∈ s.r, RunOk q r ∧ 0 ≤ r.at_ ∧ r.at_ ≤ t ∧ t - r.at_ ≤ q.within
theorem StInv.may {q : Query} (hq : Made q) {s : StoreL} {t : Int} (h : StInv q s t) : mayS s := ⟨h.len, fun r hr => by rw [h.qq]; exact ((h.run r hr).1.may hq).1, h.over⟩
end Go.Eng
