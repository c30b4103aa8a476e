/- The chapter's example of runs. -/
import Derived.Test.YtbjeikmkngcjlaaZP5
import Derived.Test.YtbjeikmkngcjlaaZM5
set_option linter.unusedVariables false
set_option linter.unusedSimpArgs false
namespace Go.Eng
open Go Go.Eng
theorem HB_Plain : Plain HB := HB_plain
theorem q_Two (w : Int) : S.zqbr w = some ⟨[stA, stB], w, 0, 0, 0⟩ := by
  unfold S.zqbr S.zqbr_R
  simp [DT.run_br, DT.run_leaf, xdec, sub]
  exact ⟨rfl, rfl⟩
theorem q_Two_is (w : Int) : S.zqbr_is w = true := by simp [S.zqbr_is, q_Two]
theorem q_Two_o (w : Int) : S.zqbr_o w = ⟨(qTwo w).steps, (qTwo w).within, (qTwo w).agg, (qTwo w).aggStep, (qTwo w).aggF⟩ := by unfold S.zqbr_o; rw [q_Two]; rfl
end Go.Eng
