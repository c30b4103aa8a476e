/- The chapters' examples: two steps, a and b. -/
import Derived.Test.YtbjeikmkngcjlaaZM4
set_option linter.unusedVariables false
set_option linter.unusedSimpArgs false
namespace Go.Eng
open Go Go.Eng
abbrev bA : ByteArray := { data := { toList := [97] } }
abbrev bB : ByteArray := { data := { toList := [98] } }
def stA : Step := ⟨bA, [], 1, 1, false, ByteArray.empty, []⟩
def stB : Step := ⟨bB, [], 1, 1, false, ByteArray.empty, []⟩
def qTwo (w : Int) : Query := ⟨[stA, stB], w, 0, 0, 0⟩
theorem bAB : ¬ bA = bB := by decide
theorem bBA : ¬ bB = bA := by decide
theorem begin_two {H : HH} (hH : Plain H) (w t at' : Int) : beginL H (qTwo w) ⟨bA, t, []⟩ at' = (⟨at', t, 0, 1, 1, 1, false⟩, 0) := by
 have e : stp (qTwo w).steps 0 = stA := rfl
 have h1 : w64 (0 + 1) = 1 := by decide
 have ht : takesL H stA ⟨bA, t, []⟩ = true := by show H bA [] _ = true; rw [hH bA]; simp
 unfold beginL
 rw [if_neg (by simp [qTwo]), e, ht, if_neg (by decide)]
 have : toldL (qTwo w) ⟨at', t, 0, 1, 0, 0, false⟩ [] = ⟨at', t, 0, 1, 1, 1, false⟩ := by
  unfold toldL
  rw [if_neg (by simp [qTwo]), if_pos (show (qTwo w).agg = 0 from rfl)]
  show Run.mk at' t 0 1 (w64 (0 + 1)) (w64 (0 + 1)) false = _
  rw [h1]
 dsimp only
 rw [this]
 rfl
theorem begin_two_b {H : HH} (hH : Plain H) (w t at' : Int) : beginL H (qTwo w) ⟨bB, t, []⟩ at' = (default, 1) := by
 have e : stp (qTwo w).steps 0 = stA := rfl
 have ht : takesL H stA ⟨bB, t, []⟩ = false := by show H bA [] _ = false; rw [hH bA]; simp [bAB]
 unfold beginL
 rw [if_neg (by simp [qTwo]), e, ht, if_pos rfl]
theorem next_two_a {H : HH} (hH : Plain H) {w f t t' : Int} (h1 : ¬ t' < t) (h2 : lateL (qTwo w) ⟨f, t, 0, 1, 1, 1, false⟩ ⟨bA, t', []⟩ = false) : nextL H (qTwo w) ⟨f, t, 0, 1, 1, 1, false⟩ ⟨bA, t', []⟩ = (⟨f, t, 0, 1, 1, 1, false⟩, 0) := by
 have e0 : stp (qTwo w).steps 0 = stA := rfl
 have e1 : stp (qTwo w).steps (0 + 1) = stB := rfl
 have hf : forbidsL H stB ⟨bA, t', []⟩ = false := rfl
 have hb : takesL H stB ⟨bA, t', []⟩ = false := by show H bB [] _ = false; rw [hH bB]; simp [bBA]
 unfold nextL
 dsimp only
 rw [e0, e1, hf, hb, if_neg (by show ¬ ((0 : Int) < 0 ∨ (0 : Int) ≥ 2); omega), if_neg h1, h2, if_neg (by decide), if_neg (by rintro ⟨_, h⟩; cases h), if_neg (by rintro ⟨_, h⟩; cases h), if_neg (by rintro ⟨h, _⟩; revert h; show ¬ ((1 : Int) < 1); decide)]
theorem next_two_b {H : HH} (hH : Plain H) {w f t t' : Int} (h1 : ¬ t' < t) (h2 : lateL (qTwo w) ⟨f, t, 0, 1, 1, 1, false⟩ ⟨bB, t', []⟩ = false) : nextL H (qTwo w) ⟨f, t, 0, 1, 1, 1, false⟩ ⟨bB, t', []⟩ = (⟨f, t, 1, 1, 1, 1, false⟩, 2) := by
 have e0 : stp (qTwo w).steps 0 = stA := rfl
 have e1 : stp (qTwo w).steps (0 + 1) = stB := rfl
 have hf : forbidsL H stB ⟨bB, t', []⟩ = false := rfl
 have hb : takesL H stB ⟨bB, t', []⟩ = true := by show H bB [] _ = true; rw [hH bB]; simp
 unfold nextL
 dsimp only
 rw [e0, e1, hf, hb, if_neg (by show ¬ ((0 : Int) < 0 ∨ (0 : Int) ≥ 2); omega), if_neg h1, h2, if_neg (by decide), if_neg (by rintro ⟨_, h⟩; cases h), if_pos ⟨⟨by show (0 : Int) + 1 < 2; decide, by show (1 : Int) ≥ 1; decide⟩, rfl⟩]
 have : toldL (qTwo w) ⟨f, t, 0 + 1, 1, 1, 1, false⟩ [] = ⟨f, t, 1, 1, 1, 1, false⟩ := by
  unfold toldL
  rw [if_pos (by simp [qTwo])]; rfl
 rw [this]
 rfl
theorem may_two (w f t : Int) : mayR (qTwo w) ⟨f, t, 0, 1, 1, 1, false⟩ := ⟨Int.le_refl 0, by show (0 : Int) < 2; decide, by show (0 : Int) ≤ 1; decide, by show (0 : Int) < 1; decide, by show (1 : Int) ≤ 1; decide, rfl⟩
end Go.Eng
