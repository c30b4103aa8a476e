/- The chapters' examples: two steps, a and b. -/
import Derived.Test.YtbjeikmkngcjlaaVZM4
set_option linter.unusedVariables false
set_option linter.unusedSimpArgs false
namespace Go.Eng
open Go Go.Eng
abbrev bA : ByteArray := { data := { toList := [97] } }
abbrev bB : ByteArray := { data := { toList := [98] } }
def stA : Step := ⟨bA, [], 1, 1, false, ByteArray.empty, []⟩
end Go.Eng
