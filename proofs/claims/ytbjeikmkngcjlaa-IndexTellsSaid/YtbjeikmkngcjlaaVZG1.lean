/- Contracts, laid by program. -/
import Derived.Test.YtbjeikmkngcjlaaVZE3
import Derived.Test.YtbjeikmkngcjlaaVZTab
set_option linter.unusedVariables false
namespace Go.Eng
open Go Go.Eng Go.Proofs Go.Eng.Tab
end Go.Eng
