/- Names for what is reckoned with values that are not known. -/
import Derived.Test.YtnafjjkjogngjaaE35
set_option linter.unusedVariables false
set_option linter.unusedSimpArgs false
namespace Go.Eng
abbrev xdec (p : Prop) [Decidable p] : Bool := decide p
abbrev xnot (a : Bool) : Bool := !a
abbrev xeqI (a b : Int) : Bool := a == b
abbrev xneI (a b : Int) : Bool := a != b
abbrev xeqB (a b : Bool) : Bool := a == b
abbrev xwrap (k : IntKind) (n : Int) : Int := k.wrap n
end Go.Eng
