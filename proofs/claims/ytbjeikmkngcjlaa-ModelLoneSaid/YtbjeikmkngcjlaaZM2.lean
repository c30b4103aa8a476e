/- Stores in plain words: what an event makes of one, and what is so of that. -/
import Derived.Test.YtbjeikmkngcjlaaZM1
set_option linter.unusedVariables false
set_option linter.unusedSimpArgs false
namespace Go.Eng
open Go Go.Eng
structure StoreL where
 q : Query
 r : List Run
 over : Int
def mayS (s : StoreL) : Prop := s.r.length ≤ 5 ∧ (∀ r ∈ s.r, mayR s.q r) ∧ (s.over = -1 ∨ s.over ≥ 0 ∧ s.r.length = 0)
instance (s : StoreL) : Decidable (mayS s) := by unfold mayS; infer_instance
def RunOk (q : Query) (r : Run) : Prop := (∃ t, RunInv q r t) ∧ fateL q r = 0
theorem RunOk.may {q : Query} (hq : Made q) {r : Run} (h : RunOk q r) : mayR q r ∧ r.many ≤ 4 := by
 obtain ⟨⟨t, h⟩, hf⟩ := h
 have ha := hq.st q.aggStep hq.s0 hq.s1
 have hs := hq.st r.step h.s0 h.s1
 have n0 := h.n0
 have n1 := h.n1
 have : 0 ≤ r.many ∧ r.many ≤ 4 := by
  rcases Int.lt_trichotomy r.step q.aggStep with g | g | g
  ·rw [h.m0 g]; omega
  ·rw [h.m1 g]; omega
  ·have := h.m2 g; omega
 exact ⟨⟨h.s0, h.s1, this.1, n0, n1, hf⟩, this.2⟩
structure StInv (q : Query) (s : StoreL) (t : Int) : Prop where
 qq : s.q = q
 len : s.r.length ≤ 5
 over : s.over = -1 ∨ s.over ≥ 0 ∧ s.r.length = 0
 run : ∀ r ∈ s.r, RunOk q r ∧ 0 ≤ r.at_ ∧ r.at_ ≤ t ∧ t - r.at_ ≤ q.within
theorem StInv.may {q : Query} (hq : Made q) {s : StoreL} {t : Int} (h : StInv q s t) : mayS s := ⟨h.len, fun r hr => by rw [h.qq]; exact ((h.run r hr).1.may hq).1, h.over⟩
end Go.Eng
