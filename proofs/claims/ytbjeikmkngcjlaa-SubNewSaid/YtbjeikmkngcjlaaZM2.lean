/- Stores in plain words: what an event makes of one, and what is so of that. -/
import Derived.Test.YtbjeikmkngcjlaaZM1
set_option linter.unusedVariables false
set_option linter.unusedSimpArgs false
namespace Go.Eng
open Go Go.Eng
structure StoreL where
  q : Query
  r : List Run
  over : Int
def mayS (s : StoreL) : Prop := s.r.length ≤ 5 ∧ (∀ r ∈ s.r, mayR s.q r) ∧ (s.over = -1 ∨ s.over ≥ 0 ∧ s.r.length = 0)
instance (s : StoreL) : Decidable (mayS s) := by unfold mayS; infer_instance
def leftOf (H : HH) (q : Query) (e : Evt) (l : List Run) : List Run := l.filterMap (fun r => if (nextL H q r e).2 = 0 then some (nextL H q r e).1 else none)
def doneM (at' : Int) (r : Run) : Mat := ⟨r.first, at', r.agg, r.bad⟩
def doneOf (H : HH) (q : Query) (e : Evt) (at' : Int) (l : List Run) : List Mat := l.filterMap (fun r => if (nextL H q r e).2 = 2 then some (doneM at' (nextL H q r e).1) else none)
def feedL (H : HH) (s : StoreL) (e : Evt) (at' : Int) : StoreL × List Mat :=
  if ¬ mayS s ∨ s.over ≠ -1 then (s, [])
  else if (beginL H s.q e at').2 = 2 then (⟨s.q, leftOf H s.q e s.r, s.over⟩, doneOf H s.q e at' s.r ++ [doneM at' (beginL H s.q e at').1])
  else if (beginL H s.q e at').2 = 0 ∧ (leftOf H s.q e s.r).length = 5 then (⟨s.q, [], max at' 0⟩, doneOf H s.q e at' s.r)
  else if (beginL H s.q e at').2 = 0 then (⟨s.q, leftOf H s.q e s.r ++ [(beginL H s.q e at').1], s.over⟩, doneOf H s.q e at' s.r)
  else (⟨s.q, leftOf H s.q e s.r, s.over⟩, doneOf H s.q e at' s.r)
theorem leftOf_len (H : HH) (q : Query) (e : Evt) (l : List Run) : (leftOf H q e l).length ≤ l.length := List.length_filterMap_le _ _
theorem doneOf_len (H : HH) (q : Query) (e : Evt) (at' : Int) (l : List Run) : (doneOf H q e at' l).length ≤ l.length := List.length_filterMap_le _ _
theorem feedL_q (H : HH) (s : StoreL) (e : Evt) (at' : Int) : (feedL H s e at').1.q = s.q := by
  unfold feedL
  repeat' split
  all_goals rfl
theorem feedL_over {H : HH} {s : StoreL} {e : Evt} {at' : Int} (h : ¬ mayS s ∨ s.over ≠ -1) : feedL H s e at' = (s, []) := by unfold feedL; rw [if_pos h]
theorem feedL_len (H : HH) (s : StoreL) (e : Evt) (at' : Int) : (feedL H s e at').2.length ≤ 6 := by
  by_cases h : ¬ mayS s ∨ s.over ≠ -1
  · rw [feedL_over h]; exact Nat.zero_le 6
  · have h1 : s.r.length ≤ 5 := by
      by_cases h2 : mayS s
      · exact h2.1
      · exact absurd (.inl h2) h
    have h2 := doneOf_len H s.q e at' s.r
    unfold feedL; rw [if_neg h]
    repeat' split
    all_goals (try rw [List.length_append]); simp only [List.length_cons, List.length_nil]; omega
def RunOk (q : Query) (r : Run) : Prop := (∃ t, RunInv q r t) ∧ fateL q r = 0
theorem RunOk.may {q : Query} (hq : Made q) {r : Run} (h : RunOk q r) : mayR q r ∧ r.many ≤ 4 := by
  obtain ⟨⟨t, h⟩, hf⟩ := h
  have ha := hq.st q.aggStep hq.s0 hq.s1
  have hs := hq.st r.step h.s0 h.s1
  have n0 := h.n0
  have n1 := h.n1
  have : 0 ≤ r.many ∧ r.many ≤ 4 := by
    rcases Int.lt_trichotomy r.step q.aggStep with g | g | g
    · rw [h.m0 g]; omega
    · rw [h.m1 g]; omega
    · have := h.m2 g; omega
  exact ⟨⟨h.s0, h.s1, this.1, n0, n1, hf⟩, this.2⟩
structure StInv (q : Query) (s : StoreL) (t : Int) : Prop where
  qq : s.q = q
  len : s.r.length ≤ 5
  over : s.over = -1 ∨ s.over ≥ 0 ∧ s.r.length = 0
  run : ∀ r ∈ s.r, RunOk q r ∧ 0 ≤ r.at_ ∧ r.at_ ≤ t ∧ t - r.at_ ≤ q.within
theorem StInv.may {q : Query} (hq : Made q) {s : StoreL} {t : Int} (h : StInv q s t) : mayS s := ⟨h.len, fun r hr => by rw [h.qq]; exact ((h.run r hr).1.may hq).1, h.over⟩
end Go.Eng
