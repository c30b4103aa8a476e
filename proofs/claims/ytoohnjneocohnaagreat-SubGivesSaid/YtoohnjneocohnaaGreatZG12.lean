/- Contracts, laid by program. -/
import Derived.Test.YtoohnjneocohnaaGreatZG11
set_option linter.unusedVariables false
namespace Go.Eng
open Go Go.Eng Go.Proofs Go.Eng.Tab

end Go.Eng
