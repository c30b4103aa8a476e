/- Contracts, laid by program. -/
import Derived.Test.YtbjeikmkngcjlaaZG6
import Derived.Test.YtbjeikmkngcjlaaZG7
set_option linter.unusedVariables false
namespace Go.Eng
open Go Go.Eng Go.Proofs Go.Eng.Tab
end Go.Eng
