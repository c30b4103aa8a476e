/- A store behind events; the chapter's example. -/
import Derived.Test.YtbjeikmkngcjlaaZG8
import Derived.Test.YtbjeikmkngcjlaaZP12
set_option linter.unusedVariables false
set_option linter.unusedSimpArgs false
namespace Go.Eng
open Go Go.Eng
def rA (i : Int) : Run := ⟨i, 0, 0, 1, 1, 1, false⟩
end Go.Eng
