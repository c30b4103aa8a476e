/- What a store's functions come to, in plain words: may one be. -/
import Derived.Test.YtbjeikmkngcjlaaZG6
import Derived.Test.YtbjeikmkngcjlaaZP6
import Derived.Test.YtbjeikmkngcjlaaZM2
set_option linter.unusedVariables false
set_option linter.unusedSimpArgs false
namespace Go.Eng
open Go Go.Eng
end Go.Eng
