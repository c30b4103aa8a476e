/- A store behind events; the chapter's example. -/
import Derived.Test.YtbjeikmkngcjlaaZG8
import Derived.Test.YtbjeikmkngcjlaaZP12
set_option linter.unusedVariables false
set_option linter.unusedSimpArgs false
namespace Go.Eng
open Go Go.Eng
theorem feedL_rlen (H : HH) (s : StoreL) (e : Evt) (at' : Int) (n : Nat) (hn : 6 ≤ n) (h : s.r.length ≤ n) : (feedL H s e at').1.r.length ≤ n := by
  by_cases c : ¬ mayS s ∨ s.over ≠ -1
  · rw [feedL_over c]; exact h
  · have h1 : s.r.length ≤ 5 := by
      by_cases h2 : mayS s
      · exact h2.1
      · exact absurd (.inl h2) c
    have h2 := leftOf_len H s.q e s.r
    unfold feedL; rw [if_neg c]
    repeat' split
    all_goals (try rw [List.length_append]); simp only [List.length_cons, List.length_nil]; omega
def newS (q : Query) : StoreL := ⟨q, [], -1⟩
end Go.Eng
