/- The laws of runs: within its time. -/
import Derived.Test.YtbjeikmkngcjlaaZP6
import Derived.Test.YtbjeikmkngcjlaaZL10
set_option linter.unusedVariables false
set_option linter.unusedSimpArgs false
namespace Go.Eng
open Go Go.Eng
theorem law_RunWithin (q : Query) (r : Run) (e : Evt) (we : wfI e.at_) :
    S.law11_RunWithin q.steps q.within q.agg q.aggStep q.aggF r.first r.at_ r.step r.n r.many r.agg r.bad e.name e.at_ e.v = some ⟨true⟩ := by
  unfold S.law11_RunWithin S.law11_RunWithin_R; dsimp only
  simp only [DT.run_br, DT.run_leaf, DT.run_fail, q_awake11_is, q_awake11_o, q_few09_is, q_few06_is, xnot, Bool.not_true, cond_true, cond_false, xdec, xwrap]
  cases hf : (S.law09_Few_o q.steps).x0 with
  | false => simp
  | true =>
  have hl : q.steps.length ≤ 1048576 := by have := q_few09_o _ hf; omega
  cases hg : (S.law06_Few_o e.name e.v).x0 with
  | false => simp
  | true =>
  by_cases c1 : r.step < 0
  · simp [c1]
  by_cases c2 : r.step ≥ (q.steps.length : Int)
  · simp [c1, c2]
  by_cases c3 : q.within < 0
  · simp [c1, c2, c3]
  by_cases c4 : r.at_ < 0
  · simp [c1, c2, c3, c4]
  by_cases c5 : r.at_ > 2251799813685248
  · simp [c1, c2, c3, c4, c5]
  by_cases c6 : q.within > 2251799813685248
  · simp [c1, c2, c3, c4, c5, c6]
  have n1 := q_Next_is q r e hl
  have n2 := q_Next_o q r e hl
  obtain ⟨k1, k2, k3⟩ := next_within (H := HB) (q := q) (r := r) (e := e) (by omega) (by omega) (by omega) (by omega) (by omega) (by omega) we.2
  have w : IntKind.i64.wrap (r.at_ + q.within) = r.at_ + q.within := e_wrap (by omega) (by omega)
  rw [n1, n2]
  simp only [w, c1, c2, c3, c4, c5, c6, decide_false, cond_false, cond_true]
  by_cases d1 : e.at_ < r.at_
  · rw [k1 d1]
    simp [d1, outN, e_xeqI, xeqB]
  by_cases d2 : e.at_ > r.at_ + q.within
  · rw [k2 (by omega) d2]
    simp [d1, d2, outN, e_xeqI, xeqB]
  · simp only [d1, d2, decide_false, cond_false, outN, e_xeqI]
    rcases k3 with h | h | h <;> simp [h]
end Go.Eng
