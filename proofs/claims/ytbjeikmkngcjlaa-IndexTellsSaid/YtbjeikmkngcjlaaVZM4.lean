/- Runs of given queries, in plain words: one that is guarded; one step, taken as often as there are numbers. -/
import Derived.Test.YtbjeikmkngcjlaaVZM1
set_option linter.unusedVariables false
set_option linter.unusedSimpArgs false
namespace Go.Eng
open Go Go.Eng
end Go.Eng
