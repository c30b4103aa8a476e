/- The laws of runs: an event that no step takes. -/
import Derived.Test.YtbjeikmkngcjlaaZP6
import Derived.Test.YtbjeikmkngcjlaaZL14
set_option linter.unusedVariables false
set_option linter.unusedSimpArgs false
namespace Go.Eng
open Go Go.Eng
theorem unnamed {l : List Step} {e : Evt} (h : ∀ i : Int, 0 ≤ i → i < l.length → ¬ (stp l i).name = e.name ∧ ¬ ((stp l i).guard = true ∧ (stp l i).notName = e.name)) :
    ∀ i : Int, 0 ≤ i → i < l.length → takesL HB (stp l i) e = false ∧ forbidsL HB (stp l i) e = false := by
 intro i h0 h1
 obtain ⟨a, b⟩ := h i h0 h1
 refine ⟨HB_name a, ?_⟩
 unfold forbidsL
 cases hg : (stp l i).guard
 ·rfl
 ·rw [HB_name (fun h2 => b ⟨hg, h2⟩)]; rfl
end Go.Eng
