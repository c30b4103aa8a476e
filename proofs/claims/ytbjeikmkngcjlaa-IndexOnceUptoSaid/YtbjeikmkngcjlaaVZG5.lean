/- Contracts, laid by program. -/
import Derived.Test.YtbjeikmkngcjlaaVZG4
import Derived.Test.YtbjeikmkngcjlaaVZN3
set_option linter.unusedVariables false
namespace Go.Eng
open Go Go.Eng Go.Proofs Go.Eng.Tab
end Go.Eng
