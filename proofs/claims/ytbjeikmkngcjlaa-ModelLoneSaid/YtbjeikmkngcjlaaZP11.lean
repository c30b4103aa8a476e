/- What a store is behind an event, in plain words. -/
import Derived.Test.YtbjeikmkngcjlaaZP9
set_option linter.unusedVariables false
set_option linter.unusedSimpArgs false
namespace Go.Eng
open Go Go.Eng
theorem sub_take {α : Type} (l : List α) (n : Nat) : sub l 0 (0 + n) = l.take n := by simp [sub]
end Go.Eng
