/- The law of later events. -/
import Derived.Test.YtbjeikmkngcjlaaZP38
import Derived.Test.YtbjeikmkngcjlaaZL24
set_option maxHeartbeats 2000000
set_option linter.unusedVariables false
set_option linter.unusedSimpArgs false
namespace Go.Eng
open Go Go.Eng
theorem sub_zero {α : Type} (l : List α) (n : Nat) : sub l 0 n = l.take n := by unfold sub; simp
end Go.Eng
