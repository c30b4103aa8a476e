/- What is given, time after time: in plain words. -/
import Derived.Test.YtbjeikmkngcjlaaZM3
set_option linter.unusedVariables false
set_option linter.unusedSimpArgs false
namespace Go.Eng
open Go Go.Eng
end Go.Eng
