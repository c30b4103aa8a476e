/- Contracts, laid by program. -/
import Derived.Test.YtbjeikmkngcjlaaZE3
import Derived.Test.YtbjeikmkngcjlaaZTab
set_option linter.unusedVariables false
namespace Go.Eng
open Go Go.Eng Go.Proofs Go.Eng.Tab
end Go.Eng
