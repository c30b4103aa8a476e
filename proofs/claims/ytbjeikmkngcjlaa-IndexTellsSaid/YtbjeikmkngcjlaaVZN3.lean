/- What is told of an event that was taken: by what is to be told. -/
import Derived.Test.YtbjeikmkngcjlaaVZG4
set_option linter.unusedVariables false
set_option linter.unusedSimpArgs false
namespace Go.Eng
open Go Go.Eng Go.Proofs Go.Eng.Tab
end Go.Eng
