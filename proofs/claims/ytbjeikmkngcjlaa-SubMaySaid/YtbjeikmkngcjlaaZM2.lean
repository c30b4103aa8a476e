/- Stores in plain words: what an event makes of one, and what is so of that. -/
import Derived.Test.YtbjeikmkngcjlaaZM1
set_option linter.unusedVariables false
set_option linter.unusedSimpArgs false
namespace Go.Eng
open Go Go.Eng
structure StoreL where
  q : Query
  r : List Run
  over : Int
def mayS (s : StoreL) : Prop := s.r.length ≤ 5 ∧ (∀ r ∈ s.r, mayR s.q r) ∧ (s.over = -1 ∨ s.over ≥ 0 ∧ s.r.length = 0)
instance (s : StoreL) : Decidable (mayS s) := by unfold mayS; infer_instance
def leftOf (H : HH) (q : Query) (e : Evt) (l : List Run) : List Run := l.filterMap (fun r => if (nextL H q r e).2 = 0 then some (nextL H q r e).1 else none)
def doneM (at' : Int) (r : Run) : Mat := ⟨r.first, at', r.agg, r.bad⟩
def doneOf (H : HH) (q : Query) (e : Evt) (at' : Int) (l : List Run) : List Mat := l.filterMap (fun r => if (nextL H q r e).2 = 2 then some (doneM at' (nextL H q r e).1) else none)
def feedL (H : HH) (s : StoreL) (e : Evt) (at' : Int) : StoreL × List Mat :=
  if ¬ mayS s ∨ s.over ≠ -1 then (s, [])
  else if (beginL H s.q e at').2 = 2 then (⟨s.q, leftOf H s.q e s.r, s.over⟩, doneOf H s.q e at' s.r ++ [doneM at' (beginL H s.q e at').1])
  else if (beginL H s.q e at').2 = 0 ∧ (leftOf H s.q e s.r).length = 5 then (⟨s.q, [], max at' 0⟩, doneOf H s.q e at' s.r)
  else if (beginL H s.q e at').2 = 0 then (⟨s.q, leftOf H s.q e s.r ++ [(beginL H s.q e at').1], s.over⟩, doneOf H s.q e at' s.r)
  else (⟨s.q, leftOf H s.q e s.r, s.over⟩, doneOf H s.q e at' s.r)
theorem leftOf_len (H : HH) (q : Query) (e : Evt) (l : List Run) : (leftOf H q e l).length ≤ l.length := List.length_filterMap_le _ _
theorem doneOf_len (H : HH) (q : Query) (e : Evt) (at' : Int) (l : List Run) : (doneOf H q e at' l).length ≤ l.length := List.length_filterMap_le _ _
theorem leftOf_mem {H : HH} {q : Query} {e : Evt} {l : List Run} {y : Run} (h : y ∈ leftOf H q e l) : ∃ r ∈ l, (nextL H q r e).2 = 0 ∧ y = (nextL H q r e).1 := by
  obtain ⟨r, h1, h2⟩ := List.mem_filterMap.1 h
  split at h2
  · rename_i h3; injection h2 with h2; exact ⟨r, h1, h3, h2.symm⟩
  · cases h2
theorem feedL_q (H : HH) (s : StoreL) (e : Evt) (at' : Int) : (feedL H s e at').1.q = s.q := by
  unfold feedL
  repeat' split
  all_goals rfl
theorem feedL_over {H : HH} {s : StoreL} {e : Evt} {at' : Int} (h : ¬ mayS s ∨ s.over ≠ -1) : feedL H s e at' = (s, []) := by unfold feedL; rw [if_pos h]
theorem feedL_len (H : HH) (s : StoreL) (e : Evt) (at' : Int) : (feedL H s e at').2.length ≤ 6 := by
  by_cases h : ¬ mayS s ∨ s.over ≠ -1
  · rw [feedL_over h]; exact Nat.zero_le 6
  · have h1 : s.r.length ≤ 5 := by
      by_cases h2 : mayS s
      · exact h2.1
      · exact absurd (.inl h2) h
    have h2 := doneOf_len H s.q e at' s.r
    unfold feedL; rw [if_neg h]
    repeat' split
    all_goals (try rw [List.length_append]); simp only [List.length_cons, List.length_nil]; omega
theorem feedL_room {H : HH} {s : StoreL} (hq : Made s.q) (hs : mayS s) (hm : ∀ r ∈ s.r, r.many ≤ 1099511627776) (e : Evt) (at' : Int) :
    mayS (feedL H s e at').1 ∧ (feedL H s e at').1.r.length ≤ s.r.length + 1 ∧ (feedL H s e at').2.length ≤ s.r.length + 1 ∧ ((feedL H s e at').1.over = -1 → s.over = -1) ∧
      ((feedL H s e at').1.over ≠ -1 → (feedL H s e at').1.r = []) := by
  by_cases h : ¬ mayS s ∨ s.over ≠ -1
  · rw [feedL_over h]
    refine ⟨hs, by simp, by simp, id, fun h2 => ?_⟩
    rcases hs.2.2 with h3 | ⟨_, h3⟩
    · exact absurd h3 h2
    · exact List.eq_nil_of_length_eq_zero h3
  · have ho : s.over = -1 := by
      by_cases h2 : s.over = -1
      · exact h2
      · exact absurd (.inr h2) h
    have l1 := leftOf_len H s.q e s.r
    have l2 := doneOf_len H s.q e at' s.r
    have l3 := hs.1
    have hl : ∀ r ∈ leftOf H s.q e s.r, mayR s.q r := by
      intro y hy
      obtain ⟨r, h1, h2, rfl⟩ := leftOf_mem hy
      rcases mayR_next (H := H) hq (hs.2.1 r h1) (hm r h1) e with c | ⟨_, _, _, _, _, _, _, c⟩
      · rw [c] at h2; cases h2
      · rcases c with ⟨c, _⟩ | ⟨_, c⟩
        · omega
        · exact c
    unfold feedL; rw [if_neg h]
    by_cases c1 : (beginL H s.q e at').2 = 2
    · rw [if_pos c1]
      refine ⟨⟨by dsimp only; omega, hl, .inl ho⟩, by dsimp only; omega, by simp only [List.length_append, List.length_cons, List.length_nil]; omega, fun _ => ho, fun h2 => absurd ho h2⟩
    rw [if_neg c1]
    by_cases c2 : (beginL H s.q e at').2 = 0 ∧ (leftOf H s.q e s.r).length = 5
    · rw [if_pos c2]
      refine ⟨⟨by simp, by simp, .inr ⟨by dsimp only; omega, rfl⟩⟩, by simp, by dsimp only; omega, fun _ => ho, fun _ => rfl⟩
    rw [if_neg c2]
    by_cases c3 : (beginL H s.q e at').2 = 0
    · rw [if_pos c3]
      refine ⟨⟨?_, ?_, .inl ho⟩, by simp only [List.length_append, List.length_cons, List.length_nil]; omega, by dsimp only; omega, fun _ => ho, fun h2 => absurd ho h2⟩
      · simp only [List.length_append, List.length_cons, List.length_nil]
        have : (leftOf H s.q e s.r).length ≠ 5 := fun h2 => c2 ⟨c3, h2⟩
        omega
      · intro y hy
        rcases List.mem_append.1 hy with hy | hy
        · exact hl y hy
        · have : y = (beginL H s.q e at').1 := by simpa using hy
          subst this
          rcases beginL_may (H := H) hq (e := e) (at' := at') with c | ⟨_, _, _, _, _, c⟩
          · omega
          · exact c c3
    rw [if_neg c3]
    exact ⟨⟨by dsimp only; omega, hl, .inl ho⟩, by dsimp only; omega, by dsimp only; omega, fun _ => ho, fun h2 => absurd ho h2⟩
def RunOk (q : Query) (r : Run) : Prop := (∃ t, RunInv q r t) ∧ fateL q r = 0
theorem RunOk.may {q : Query} (hq : Made q) {r : Run} (h : RunOk q r) : mayR q r ∧ r.many ≤ 4 := by
  obtain ⟨⟨t, h⟩, hf⟩ := h
  have ha := hq.st q.aggStep hq.s0 hq.s1
  have hs := hq.st r.step h.s0 h.s1
  have n0 := h.n0
  have n1 := h.n1
  have : 0 ≤ r.many ∧ r.many ≤ 4 := by
    rcases Int.lt_trichotomy r.step q.aggStep with g | g | g
    · rw [h.m0 g]; omega
    · rw [h.m1 g]; omega
    · have := h.m2 g; omega
  exact ⟨⟨h.s0, h.s1, this.1, n0, n1, hf⟩, this.2⟩
structure StInv (q : Query) (s : StoreL) (t : Int) : Prop where
  qq : s.q = q
  len : s.r.length ≤ 5
  over : s.over = -1 ∨ s.over ≥ 0 ∧ s.r.length = 0
  run : ∀ r ∈ s.r, RunOk q r ∧ 0 ≤ r.at_ ∧ r.at_ ≤ t ∧ t - r.at_ ≤ q.within
theorem StInv.may {q : Query} (hq : Made q) {s : StoreL} {t : Int} (h : StInv q s t) : mayS s := ⟨h.len, fun r hr => by rw [h.qq]; exact ((h.run r hr).1.may hq).1, h.over⟩
end Go.Eng
