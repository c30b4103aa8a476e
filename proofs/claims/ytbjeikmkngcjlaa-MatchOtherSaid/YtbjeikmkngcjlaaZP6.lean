/- The chapter's example of runs. -/
import Derived.Test.YtbjeikmkngcjlaaZP5
import Derived.Test.YtbjeikmkngcjlaaZM5
set_option linter.unusedVariables false
set_option linter.unusedSimpArgs false
namespace Go.Eng
open Go Go.Eng
theorem HB_Plain : Plain HB := HB_plain
theorem q_Two (w : Int) : S.zu7x w = some ⟨[stA, stB], w, 0, 0, 0⟩ := by
 unfold S.zu7x S.zu7x_R
 simp [DT.run_br, DT.run_leaf, xdec, sub]
 exact ⟨rfl, rfl⟩
theorem q_Two_is (w : Int) : S.zu7x_is w = true := by simp [S.zu7x_is, q_Two]
theorem q_Two_o (w : Int) : S.zu7x_o w = ⟨(qTwo w).steps, (qTwo w).within, (qTwo w).agg, (qTwo w).aggStep, (qTwo w).aggF⟩ := by unfold S.zu7x_o; rw [q_Two]; rfl
end Go.Eng
