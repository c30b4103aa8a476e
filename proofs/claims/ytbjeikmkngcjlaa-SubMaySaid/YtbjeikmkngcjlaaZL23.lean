/- Contracts, laid by program. -/
import Derived.Test.YtbjeikmkngcjlaaZG9
set_option linter.unusedVariables false
set_option linter.unusedSimpArgs false
namespace Go.Eng
open Go Go.Eng Go.Proofs Go.Eng.Tab
end Go.Eng
