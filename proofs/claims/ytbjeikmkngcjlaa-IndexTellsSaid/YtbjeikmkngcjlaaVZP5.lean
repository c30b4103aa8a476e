/- What a query that is well made is: read off the reference. -/
import Derived.Test.YtbjeikmkngcjlaaVZP4
import Derived.Test.YtbjeikmkngcjlaaVZE3
set_option linter.unusedVariables false
set_option linter.unusedSimpArgs false
namespace Go.Eng
open Go Go.Eng
end Go.Eng
