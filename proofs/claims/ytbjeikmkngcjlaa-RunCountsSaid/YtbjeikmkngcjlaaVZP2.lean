/- What few says; what holds of an event: there is always an answer. -/
import Derived.Test.YtbjeikmkngcjlaaVZG4
import Derived.Test.YtbjeikmkngcjlaaVZP1
import Derived.Test.YtbjeikmkngcjlaaVZM1
set_option linter.unusedVariables false
set_option linter.unusedSimpArgs false
namespace Go.Eng
open Go Go.Eng
end Go.Eng
