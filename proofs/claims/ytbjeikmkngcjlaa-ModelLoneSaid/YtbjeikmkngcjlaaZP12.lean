/- What is the same as itself; few stores, and logs. -/
import Derived.Test.YtbjeikmkngcjlaaZG7
import Derived.Test.YtbjeikmkngcjlaaZP11
set_option linter.unusedVariables false
set_option linter.unusedSimpArgs false
namespace Go.Eng
open Go Go.Eng
theorem q_log (l : List (Ty .evt)) (n : Int) (hn : n ≤ 1000) : (S.zgwp_R l n).all (fun x => x.x0 = true → (l.length : Int) ≤ n) := by
 by_cases hb : (l.length : Int) > n
 ·unfold S.zgwp_R; try dsimp only
  simp [DT.all_br, DT.all_leaf, xdec, hb]
 obtain ⟨j, v', h1, h2⟩ := Lp_all (R := S.zgwp_4_R l) (r := S.zgwp_4_r l) (fun v => rfl) (fun v => 0 ≤ v.t5_ ∧ v.t5_ ≤ l.length) (fun j v => j = 0 ∨ j = 1) (fun v => ((l.length : Int) - v.t5_).toNat) (fun v hv => by
  unfold S.zgwp_4_R; try dsimp only
  simp only [DT.all_br, DT.all_leaf, DT.all_fail, Stp_none, Stp_some, xdec, xwrap, xnot, q_few06_is, decide_eq_true_eq, decide_eq_false_iff_not, Bool.and_eq_true, Bool.and_eq_false_iff, implies_true, or_true, true_or, and_true, true_and, reduceCtorEq, false_implies]
  intro g1
  refine ⟨?_, fun g2 => by omega⟩
  intros
  rw [e_wrap (by omega) (by omega)]
  omega) ⟨0⟩ ⟨Int.le_refl _, by simp⟩
 have k2 : (l.length : Int) ≤ n := by omega
 unfold S.zgwp_R; try dsimp only
 simp only [DT.all_br, DT.all_leaf, DT.all_fail, S.zgwp_4_j, Lp_j_of h1]
 rcases h2 with rfl | rfl <;> simp [k2]
theorem q_log_is (l : List (Ty .evt)) (n : Int) (hn : n ≤ 1000) : S.zgwp_is l n = true := DT.all_is (q_log l n hn)
theorem q_log_o (l : List (Ty .evt)) (n : Int) (hn : n ≤ 1000) : (S.zgwp_o l n).x0 = true → (l.length : Int) ≤ n := DT.all_o (q_log l n hn)
end Go.Eng
