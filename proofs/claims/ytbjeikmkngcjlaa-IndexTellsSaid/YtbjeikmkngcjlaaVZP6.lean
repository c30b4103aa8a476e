/- The chapter's example of runs. -/
import Derived.Test.YtbjeikmkngcjlaaVZP5
import Derived.Test.YtbjeikmkngcjlaaVZM5
set_option linter.unusedVariables false
set_option linter.unusedSimpArgs false
namespace Go.Eng
open Go Go.Eng
end Go.Eng
