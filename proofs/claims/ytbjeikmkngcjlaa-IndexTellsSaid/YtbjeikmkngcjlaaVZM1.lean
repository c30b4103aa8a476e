/- Runs in plain words: what an event makes of one, and what is so of it. -/
import Derived.Test.YtbjeikmkngcjlaaVZE3
set_option linter.unusedVariables false
set_option linter.unusedSimpArgs false
namespace Go.Eng
open Go Go.Eng
abbrev HH := ByteArray → List Opn → Evt → Bool
abbrev u64 (n : Int) : Int := IntKind.u64.wrap n
def stp (l : List Step) (i : Int) : Step := l.getD i.toNat default
def fateL (q : Query) (r : Run) : Int := if r.step = (q.steps.length : Int) - 1 ∧ r.n ≥ (stp q.steps r.step).min then 2 else 0
def mayR (q : Query) (r : Run) : Prop := 0 ≤ r.step ∧ r.step < q.steps.length ∧ 0 ≤ r.many ∧ 0 < r.n ∧ r.n ≤ (stp q.steps r.step).max ∧ fateL q r = 0
instance (q : Query) (r : Run) : Decidable (mayR q r) := by unfold mayR; infer_instance
end Go.Eng
