/- The laws of stores: in parts; how long runs last. -/
import Derived.Test.YtbjeikmkngcjlaaZP13
import Derived.Test.YtbjeikmkngcjlaaZL17
import Derived.Test.YtbjeikmkngcjlaaZL19
set_option linter.unusedVariables false
set_option linter.unusedSimpArgs false
namespace Go.Eng
open Go Go.Eng
end Go.Eng
