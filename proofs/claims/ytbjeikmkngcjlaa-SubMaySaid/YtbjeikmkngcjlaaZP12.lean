/- What is the same as itself; few stores, and logs. -/
import Derived.Test.YtbjeikmkngcjlaaZG7
import Derived.Test.YtbjeikmkngcjlaaZP11
set_option linter.unusedVariables false
set_option linter.unusedSimpArgs false
namespace Go.Eng
open Go Go.Eng
theorem q_few13 (l : List (Ty .step)) (r : List (Ty .run)) : (S.law13_Few_R l r).all (fun x => x.x0 = true → l.length ≤ 8 ∧ r.length ≤ 10) := by
  unfold S.law13_Few_R
  simp only [DT.all_br, DT.all_leaf, DT.all_fail, q_few09_is, xdec, decide_eq_true_eq, reduceCtorEq, false_implies, implies_true, and_true, true_implies, Bool.true_eq_false, Bool.false_eq_true]
  intro h1 h2
  exact ⟨q_few09_o _ h1, by omega⟩
theorem q_few13_is (l : List (Ty .step)) (r : List (Ty .run)) : S.law13_Few_is l r = true := DT.all_is (q_few13 l r)
theorem q_few13_o (l : List (Ty .step)) (r : List (Ty .run)) : (S.law13_Few_o l r).x0 = true → l.length ≤ 8 ∧ r.length ≤ 10 := DT.all_o (q_few13 l r)
end Go.Eng
