/- The chapter's example of runs. -/
import Derived.Test.YtbjeikmkngcjlaaVZP5
import Derived.Test.YtbjeikmkngcjlaaVZM5
set_option linter.unusedVariables false
set_option linter.unusedSimpArgs false
namespace Go.Eng
open Go Go.Eng
theorem HB_Plain : Plain HB := HB_plain
theorem q_Two (w : Int) : S.zu7x w = some ⟨[stA, stB], w, 0, 0, 0⟩ := by
 unfold S.zu7x S.zu7x_R
 simp [DT.run_br, DT.run_leaf, xdec, sub]
 exact ⟨rfl, rfl⟩
theorem q_Two_is (w : Int) : S.zu7x_is w = true := by simp [S.zu7x_is, q_Two]
theorem q_Two_o (w : Int) : S.zu7x_o w = ⟨(qTwo w).steps, (qTwo w).within, (qTwo w).agg, (qTwo w).aggStep, (qTwo w).aggF⟩ := by unfold S.zu7x_o; rw [q_Two]; rfl
theorem q_awake11 : S.zunj = some ⟨true⟩ := by
 have hl : (qTwo 5).steps.length ≤ 1048576 := by decide
 have b1 := q_Begin_is (qTwo 5) ⟨bA, 3, []⟩ 7 hl
 have b2 := q_Begin_o (qTwo 5) ⟨bA, 3, []⟩ 7 hl
 rw [begin_two HB_Plain] at b2
 have n1 := q_Next_is (qTwo 5) ⟨7, 3, 0, 1, 1, 1, false⟩ ⟨bB, 8, []⟩ hl
 have n2 := q_Next_o (qTwo 5) ⟨7, 3, 0, 1, 1, 1, false⟩ ⟨bB, 8, []⟩ hl
 rw [next_two_b HB_Plain (by decide) (by decide)] at n2
 have n3 := q_Next_is (qTwo 5) ⟨7, 3, 0, 1, 1, 1, false⟩ ⟨bB, 9, []⟩ hl
 have n4 := q_Next_o (qTwo 5) ⟨7, 3, 0, 1, 1, 1, false⟩ ⟨bB, 9, []⟩ hl
 rw [next_two_late (by decide) (by decide)] at n4
 have n5 := q_Next_is (qTwo 5) ⟨7, 3, 0, 1, 1, 1, false⟩ ⟨bA, 8, []⟩ hl
 have n6 := q_Next_o (qTwo 5) ⟨7, 3, 0, 1, 1, 1, false⟩ ⟨bA, 8, []⟩ hl
 rw [next_two_a HB_Plain (by decide) (by decide)] at n6
 have m1 := q_May_is (qTwo 5) ⟨7, 3, 0, 1, 1, 1, false⟩ hl
 have m2 := q_May_o (qTwo 5) ⟨7, 3, 0, 1, 1, 1, false⟩ hl
 rw [decide_eq_true (may_two 5 7 3)] at m2
 dsimp only [outB, outN] at *
 unfold S.zunj S.zunj_R
 dsimp only
 rw [q_Two_is, q_Two_o]
 dsimp only
 rw [b1, b2]
 dsimp only
 rw [n1, n2, n3, n4, n5, n6, m1, m2]
 rfl
theorem q_awake11_is : S.zunj_is = true := by simp [S.zunj_is, q_awake11]
theorem q_awake11_o : S.zunj_o.x0 = true := by simp [S.zunj_o, q_awake11]
end Go.Eng
