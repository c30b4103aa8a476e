/- Contracts, laid by program. -/
import Derived.Test.YtoohnjneocohnaaGreatZG6
import Derived.Test.YtoohnjneocohnaaGreatZG7
set_option linter.unusedVariables false
namespace Go.Eng
open Go Go.Eng Go.Proofs Go.Eng.Tab

end Go.Eng
