/- Of subscriptions: what is the same as itself; few; one that begins. -/
import Derived.Test.YtbjeikmkngcjlaaZP18
import Derived.Test.YtbjeikmkngcjlaaZM6
set_option linter.unusedVariables false
set_option linter.unusedSimpArgs false
namespace Go.Eng
open Go Go.Eng
theorem q_few15 (l : List (Ty .step)) (r : List (Ty .run)) (m : List (Ty .mat)) : (S.law15_Few_R l r m).all (fun x => x.x0 = true → l.length ≤ 8 ∧ r.length ≤ 10 ∧ m.length ≤ 20) := by
  unfold S.law15_Few_R
  simp only [DT.all_br, DT.all_leaf, DT.all_fail, q_few13_is, xdec, decide_eq_true_eq, reduceCtorEq, false_implies, implies_true, and_true, true_implies, Bool.true_eq_false, Bool.false_eq_true]
  intro h1 h2
  have := q_few13_o _ _ h1
  exact ⟨this.1, this.2, by omega⟩
theorem q_few15_is (l : List (Ty .step)) (r : List (Ty .run)) (m : List (Ty .mat)) : S.law15_Few_is l r m = true := DT.all_is (q_few15 l r m)
theorem q_few15_o (l : List (Ty .step)) (r : List (Ty .run)) (m : List (Ty .mat)) : (S.law15_Few_o l r m).x0 = true → l.length ≤ 8 ∧ r.length ≤ 10 ∧ m.length ≤ 20 := DT.all_o (q_few15 l r m)
theorem fit_of {u : SubL} (hl : u.s.q.steps.length ≤ 8) (hr : u.s.r.length ≤ 10) (hm : u.m.length ≤ 26) : FitU u := ⟨by omega, by omega, by omega⟩
end Go.Eng
