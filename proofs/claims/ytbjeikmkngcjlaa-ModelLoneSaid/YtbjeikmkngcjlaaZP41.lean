/- The law of room. -/
import Derived.Test.YtbjeikmkngcjlaaZP39
import Derived.Test.YtbjeikmkngcjlaaZL29
set_option maxHeartbeats 2000000
set_option linter.unusedVariables false
set_option linter.unusedSimpArgs false
namespace Go.Eng
open Go Go.Eng
end Go.Eng
