/- The chapter's example of runs. -/
import Derived.Test.YtbjeikmkngcjlaaZP5
import Derived.Test.YtbjeikmkngcjlaaZM5
set_option linter.unusedVariables false
set_option linter.unusedSimpArgs false
namespace Go.Eng
open Go Go.Eng
theorem HB_Plain : Plain HB := HB_plain
end Go.Eng
