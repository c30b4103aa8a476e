/- Stores in plain words: what an event makes of one, and what is so of that. -/
import Derived.Test.YtbjeikmkngcjlaaZM1
set_option linter.unusedVariables false
set_option linter.unusedSimpArgs false
namespace Go.Eng
open Go Go.Eng
structure StoreL where
 q : Query
 r : List Run
 over : Int
def mayS (s : StoreL) : Prop := s.r.length ≤ 5 ∧ (∀ r ∈ s.r, mayR s.q r) ∧ (s.over = -1 ∨ s.over ≥ 0 ∧ s.r.length = 0)
instance (s : StoreL) : Decidable (mayS s) := by unfold mayS; infer_instance
def leftOf (H : HH) (q : Query) (e : Evt) (l : List Run) : List Run := l.filterMap (fun r => if (nextL H q r e).2 = 0 then some (nextL H q r e).1 else none)
def doneM (at' : Int) (r : Run) : Mat := ⟨r.first, at', r.agg, r.bad⟩
def doneOf (H : HH) (q : Query) (e : Evt) (at' : Int) (l : List Run) : List Mat := l.filterMap (fun r => if (nextL H q r e).2 = 2 then some (doneM at' (nextL H q r e).1) else none)
def feedL (H : HH) (s : StoreL) (e : Evt) (at' : Int) : StoreL × List Mat :=
 if ¬ mayS s ∨ s.over ≠ -1 then (s, [])
 else if (beginL H s.q e at').2 = 2 then (⟨s.q, leftOf H s.q e s.r, s.over⟩, doneOf H s.q e at' s.r ++ [doneM at' (beginL H s.q e at').1])
 else if (beginL H s.q e at').2 = 0 ∧ (leftOf H s.q e s.r).length = 5 then (⟨s.q, [], max at' 0⟩, doneOf H s.q e at' s.r)
 else if (beginL H s.q e at').2 = 0 then (⟨s.q, leftOf H s.q e s.r ++ [(beginL H s.q e at').1], s.over⟩, doneOf H s.q e at' s.r)
 else (⟨s.q, leftOf H s.q e s.r, s.over⟩, doneOf H s.q e at' s.r)
theorem leftOf_len (H : HH) (q : Query) (e : Evt) (l : List Run) : (leftOf H q e l).length ≤ l.length := List.length_filterMap_le _ _
theorem doneOf_len (H : HH) (q : Query) (e : Evt) (at' : Int) (l : List Run) : (doneOf H q e at' l).length ≤ l.length := List.length_filterMap_le _ _
theorem feedL_q (H : HH) (s : StoreL) (e : Evt) (at' : Int) : (feedL H s e at').1.q = s.q := by
 unfold feedL
 repeat' split
 all_goals rfl
theorem feedL_over {H : HH} {s : StoreL} {e : Evt} {at' : Int} (h : ¬ mayS s ∨ s.over ≠ -1) : feedL H s e at' = (s, []) := by unfold feedL; rw [if_pos h]
theorem feedL_len (H : HH) (s : StoreL) (e : Evt) (at' : Int) : (feedL H s e at').2.length ≤ 6 := by
 by_cases h : ¬ mayS s ∨ s.over ≠ -1
 ·rw [feedL_over h]; exact Nat.zero_le 6
 ·have h1 : s.r.length ≤ 5 := by
    by_cases h2 : mayS s
    ·exact h2.1
    ·exact absurd (.inl h2) h
  have h2 := doneOf_len H s.q e at' s.r
  unfold feedL; rw [if_neg h]
  repeat' split
  all_goals (try rw [List.length_append]); simp only [List.length_cons, List.length_nil]; omega
def fedL (H : HH) : StoreL → List Evt → Int → StoreL × Nat
 | s, [], _ => (s, 0)
 | s, e :: l, i => ((fedL H (feedL H s e i).1 l (i + 1)).1, (feedL H s e i).2.length + (fedL H (feedL H s e i).1 l (i + 1)).2)
theorem fedL_append (H : HH) : ∀ (a b : List Evt) (s : StoreL) (i : Int), fedL H s (a ++ b) i = ((fedL H (fedL H s a i).1 b (i + a.length)).1, (fedL H s a i).2 + (fedL H (fedL H s a i).1 b (i + a.length)).2)
 | [], b, s, i => by
  show fedL H s b i = _
  simp [fedL]
 | e :: a, b, s, i => by
  have e1 : i + ((e :: a).length : Int) = (i + 1) + (a.length : Int) := by simp only [List.length_cons]; omega
  show ((fedL H (feedL H s e i).1 (a ++ b) (i + 1)).1, (feedL H s e i).2.length + (fedL H (feedL H s e i).1 (a ++ b) (i + 1)).2) = _
  rw [fedL_append H a b, e1]
  simp only [fedL, Nat.add_assoc]
theorem fedL_snoc (H : HH) (a : List Evt) (e : Evt) (s : StoreL) (i : Int) : fedL H s (a ++ [e]) i = ((feedL H (fedL H s a i).1 e (i + a.length)).1, (fedL H s a i).2 + (feedL H (fedL H s a i).1 e (i + a.length)).2.length) := by
 rw [fedL_append]; simp [fedL]
theorem fedL_q (H : HH) : ∀ (l : List Evt) (s : StoreL) (i : Int), (fedL H s l i).1.q = s.q
 | [], s, i => rfl
 | e :: l, s, i => by
  show (fedL H (feedL H s e i).1 l (i + 1)).1.q = _
  rw [fedL_q H l, feedL_q]
theorem fedL_len (H : HH) : ∀ (l : List Evt) (s : StoreL) (i : Int), (fedL H s l i).2 ≤ 6 * l.length
 | [], s, i => by simp [fedL]
 | e :: l, s, i => by
  have := fedL_len H l (feedL H s e i).1 (i + 1)
  have := feedL_len H s e i
  simp only [fedL, List.length_cons]
  omega
theorem fm_self {α : Type} (f : α → Option α) : ∀ l : List α, (∀ x ∈ l, f x = some x) → l.filterMap f = l
 | [], _ => rfl
 | x :: l, h => by rw [List.filterMap_cons, h x (by simp)]; dsimp only; rw [fm_self f l (fun y hy => h y (by simp [hy]))]
theorem feedL_other {H : HH} {s : StoreL} (hq : Made s.q) {e : Evt} {at' : Int} (he : ∀ r ∈ s.r, e.at_ ≤ r.at_)
    (hn : ∀ i : Int, 0 ≤ i → i < s.q.steps.length → takesL H (stp s.q.steps i) e = false ∧ forbidsL H (stp s.q.steps i) e = false) : feedL H s e at' = (s, []) := by
 by_cases h : ¬ mayS s ∨ s.over ≠ -1
 ·exact feedL_over h
 have hs : mayS s := by
  by_cases h2 : mayS s
  ·exact h2
  ·exact absurd (.inl h2) h
 have hr : ∀ r ∈ s.r, nextL H s.q r e = (r, 0) := by
  intro r hr
  obtain ⟨h0, h1, _⟩ := hs.2.1 r hr
  have := he r hr
  by_cases ht : e.at_ = r.at_
  ·exact next_other h0 h1 hq.w0 ht hn
  ·unfold nextL; rw [if_neg (by omega), if_pos (by omega)]
 have l1 : leftOf H s.q e s.r = s.r := by
  exact fm_self _ _ (fun r hr' => by rw [hr r hr']; rfl)
 have l2 : doneOf H s.q e at' s.r = [] := by
  unfold doneOf
  rw [List.filterMap_eq_nil_iff]
  intro r hr'
  rw [hr r hr']; rfl
 unfold feedL
 rw [if_neg h, begin_other hn, if_neg (by decide), if_neg (by rintro ⟨h, _⟩; cases h), if_neg (by decide), l1, l2]
def RunOk (q : Query) (r : Run) : Prop := (∃ t, RunInv q r t) ∧ fateL q r = 0
theorem RunOk.may {q : Query} (hq : Made q) {r : Run} (h : RunOk q r) : mayR q r ∧ r.many ≤ 4 := by
 obtain ⟨⟨t, h⟩, hf⟩ := h
 have ha := hq.st q.aggStep hq.s0 hq.s1
 have hs := hq.st r.step h.s0 h.s1
 have n0 := h.n0
 have n1 := h.n1
 have : 0 ≤ r.many ∧ r.many ≤ 4 := by
  rcases Int.lt_trichotomy r.step q.aggStep with g | g | g
  ·rw [h.m0 g]; omega
  ·rw [h.m1 g]; omega
  ·have := h.m2 g; omega
 exact ⟨⟨h.s0, h.s1, this.1, n0, n1, hf⟩, this.2⟩
structure StInv (q : Query) (s : StoreL) (t : Int) : Prop where
 qq : s.q = q
 len : s.r.length ≤ 5
 over : s.over = -1 ∨ s.over ≥ 0 ∧ s.r.length = 0
 run : ∀ r ∈ s.r, RunOk q r ∧ 0 ≤ r.at_ ∧ r.at_ ≤ t ∧ t - r.at_ ≤ q.within
theorem StInv.may {q : Query} (hq : Made q) {s : StoreL} {t : Int} (h : StInv q s t) : mayS s := ⟨h.len, fun r hr => by rw [h.qq]; exact ((h.run r hr).1.may hq).1, h.over⟩
end Go.Eng
