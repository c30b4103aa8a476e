/- What a run's step, and its beginning, come to, in plain words. -/
import Derived.Test.YtbjeikmkngcjlaaVZG5
import Derived.Test.YtbjeikmkngcjlaaVZP3
set_option linter.unusedVariables false
set_option linter.unusedSimpArgs false
namespace Go.Eng
open Go Go.Eng
end Go.Eng
