/- What comes of two: the code's word is the document's. -/
import Derived.Test.YtbjeikmkngcjlaaVZP58
set_option linter.unusedVariables false
set_option linter.unusedSimpArgs false
namespace Go.Eng
open Go Go.Eng
def truthV (b : Bool) : Val := ⟨1, bif b then 1 else 0, ByteArray.empty⟩
def ofV (v : Val) : Thing := if v.kind = 0 then .one 207 (.int .i64 v.n) else if v.kind = 1 then .one 128 (.bool (decide (v.n = 1))) else .val 212 v
abbrev w6 (n : Int) : Int := IntKind.i64.wrap n
def sumV (c a b : Int) : Option Int :=
 if c = 2 then (if (decide (w6 (a + b) > a) == decide (b > 0)) = true then some (w6 (a + b)) else none)
 else if c = 3 then (if (decide (w6 (a - b) < a) == decide (b > 0)) = true then some (w6 (a - b)) else none)
 else if a = 0 ∨ b = 0 then some 0
 else if (a = -1 ∧ b = -9223372036854775808) ∨ (b = -1 ∧ a = -9223372036854775808) then none
 else if w6 ((w6 (a * b)).tdiv b) = a then some (w6 (a * b)) else none
def twoV (c : Int) (a b : Val) : Option Val :=
 if a.kind ≠ b.kind then none
 else if c = 6 then some (truthV (decide (a = b)))
 else if c = 5 then (if a.kind = 1 then none else some (truthV (lessV a b)))
 else if c = 7 ∨ c = 8 then (if a.kind = 1 then some (truthV (bif decide (c = 7) then (decide (a.n = 1) && decide (b.n = 1)) else (decide (a.n = 1) || decide (b.n = 1)))) else none)
 else if a.kind = 0 then (sumV c a.n b.n).map (fun n => (⟨0, n, ByteArray.empty⟩ : Val)) else none
theorem low_wrap (b : Int) (h : -9223372036854775808 ≤ b ∧ b ≤ 9223372036854775807) (h0 : b ≠ 0) : b = w6 (-1 * b) ↔ b = -9223372036854775808 := by
 unfold w6
 rw [IntKind.wrap_i64]
 omega
theorem q_sumE (c a b : Int) (ha : -9223372036854775808 ≤ a ∧ a ≤ 9223372036854775807) (hb : -9223372036854775808 ≤ b ∧ b ≤ 9223372036854775807) :
    ∃ n i, S.zost c a b = some ⟨n, i⟩ ∧ match sumV c a b with
     | some m => i = true ∧ n = m
     | none => i = false := by
 unfold S.zost S.zost_R sumV; dsimp only
 simp only [DT.run_br, DT.run_leaf, DT.run_fail, xdec, xwrap, xnot, e_xeqI]
 by_cases c2 : c = 2
 ·subst c2
  refine ⟨_, _, rfl, ?_⟩
  simp only [if_true]
  cases h : (decide (w6 (a + b) > a) == decide (b > 0)) <;> simp [h, w6] at h ⊢ <;> exact h
 by_cases c3 : c = 3
 ·subst c3
  refine ⟨_, _, rfl, ?_⟩
  simp only [if_neg c2, if_true]
  cases h : (decide (w6 (a - b) < a) == decide (b > 0)) <;> simp [h, w6] at h ⊢ <;> exact h
 simp only [c2, c3, decide_false, cond_false, if_false]
 by_cases a0 : a = 0
 ·subst a0; exact ⟨0, true, by simp, by simp⟩
 by_cases b0 : b = 0
 ·subst b0; exact ⟨0, true, by simp [a0], by simp⟩
 simp only [a0, b0, or_self, decide_false, decide_true, cond_false, cond_true, if_false, not_false_eq_true, ne_eq]
 have hA : a = -1 → (b = w6 (a * b) ↔ b = -9223372036854775808) := fun h => by rw [h]; exact low_wrap b hb b0
 have hB : b = -1 → (a = w6 (a * b) ↔ a = -9223372036854775808) := fun h => by rw [h, Int.mul_comm]; exact low_wrap a ha a0
 have A : ∀ {x : Prop} [Decidable x], x → decide x = true := fun h => decide_eq_true h
 have F : ∀ {x : Prop} [Decidable x], ¬ x → decide x = false := fun h => decide_eq_false h
 by_cases hq : IntKind.i64.wrap ((IntKind.i64.wrap (a * b)).tdiv b) = a
 ·by_cases a1 : a = -1
  ·by_cases bl : b = -9223372036854775808
   ·have e1 : b = IntKind.i64.wrap (a * b) := (hA a1).mpr bl
    have b1 : ¬ b = -1 := by omega
    refine ⟨IntKind.i64.wrap (a * b), false, ?_, ?_⟩
    ·simp only [A hq, A a1, F b1, A e1, cond_true, cond_false, Bool.not_true, Bool.not_false]
    ·rw [if_pos (Or.inl ⟨a1, bl⟩)]
   ·have e1 : ¬ b = IntKind.i64.wrap (a * b) := fun h => bl ((hA a1).mp h)
    have n1 : ¬ ((a = -1 ∧ b = -9223372036854775808) ∨ (b = -1 ∧ a = -9223372036854775808)) := by omega
    refine ⟨IntKind.i64.wrap (a * b), true, ?_, ?_⟩
    ·by_cases b1 : b = -1
     ·have e3 : ¬ a = IntKind.i64.wrap (a * b) := fun h => e1 ((b1.trans a1.symm).trans h)
      simp only [A hq, A a1, A b1, F e1, F e3, cond_true, cond_false, Bool.not_true, Bool.not_false]
     ·simp only [A hq, A a1, F b1, F e1, cond_true, cond_false, Bool.not_true, Bool.not_false]
    ·rw [if_neg n1, if_pos hq]; exact ⟨rfl, rfl⟩
  ·by_cases b1 : b = -1
   ·by_cases al : a = -9223372036854775808
    ·have e1 : a = IntKind.i64.wrap (a * b) := (hB b1).mpr al
     refine ⟨IntKind.i64.wrap (a * b), false, ?_, ?_⟩
     ·simp only [A hq, F a1, A b1, A e1, cond_true, cond_false, Bool.not_true, Bool.not_false]
     ·rw [if_pos (Or.inr ⟨b1, al⟩)]
    ·have e1 : ¬ a = IntKind.i64.wrap (a * b) := fun h => al ((hB b1).mp h)
     have n1 : ¬ ((a = -1 ∧ b = -9223372036854775808) ∨ (b = -1 ∧ a = -9223372036854775808)) := by omega
     refine ⟨IntKind.i64.wrap (a * b), true, ?_, ?_⟩
     ·simp only [A hq, F a1, A b1, F e1, cond_true, cond_false, Bool.not_true, Bool.not_false]
     ·rw [if_neg n1, if_pos hq]; exact ⟨rfl, rfl⟩
   ·have n1 : ¬ ((a = -1 ∧ b = -9223372036854775808) ∨ (b = -1 ∧ a = -9223372036854775808)) := by omega
    refine ⟨IntKind.i64.wrap (a * b), true, ?_, ?_⟩
    ·simp only [A hq, F a1, F b1, cond_true, cond_false, Bool.not_true, Bool.not_false]
    ·rw [if_neg n1, if_pos hq]; exact ⟨rfl, rfl⟩
 ·refine ⟨IntKind.i64.wrap (a * b), false, ?_, ?_⟩
  ·simp only [F hq, cond_false, decide_true, cond_true]
  ·by_cases h : (a = -1 ∧ b = -9223372036854775808) ∨ (b = -1 ∧ a = -9223372036854775808)
   ·rw [if_pos h]
   ·rw [if_neg h, if_neg hq]
theorem q_plus (a b : Int) : ∃ n i, S.zhmt a b = some ⟨n, i⟩ ∧ match sumV 2 a b with
      | some m => i = true ∧ n = m
      | none => i = false := by
 refine ⟨_, _, rfl, ?_⟩
 unfold sumV
 simp only [if_true, xdec, xwrap]
 cases h : (decide (w6 (a + b) > a) == decide (b > 0)) <;> simp [h, w6] at h ⊢ <;> exact h
theorem q_minus (a b : Int) : ∃ n i, S.zwex a b = some ⟨n, i⟩ ∧ match sumV 3 a b with
      | some m => i = true ∧ n = m
      | none => i = false := by
 refine ⟨_, _, rfl, ?_⟩
 unfold sumV
 simp only [if_true, if_neg (show ¬ (3 : Int) = 2 by decide), xdec, xwrap]
 cases h : (decide (w6 (a - b) < a) == decide (b > 0)) <;> simp [h, w6] at h ⊢ <;> exact h
theorem q_times (c a b : Int) (c2 : ¬ c = 2) (c3 : ¬ c = 3) : ∃ n i, S.zvlh a b = some ⟨n, i⟩ ∧ match sumV c a b with
      | some m => i = true ∧ n = m
      | none => i = false := by
 unfold S.zvlh S.zvlh_R sumV; dsimp only
 simp only [DT.run_br, DT.run_leaf, DT.run_fail, xdec, xwrap, e_xeqI, if_neg c2, if_neg c3]
 by_cases a0 : a = 0
 ·subst a0; exact ⟨0, true, by simp, by simp⟩
 by_cases b0 : b = 0
 ·subst b0; exact ⟨0, true, by simp [a0], by simp⟩
 simp only [a0, b0, or_self, decide_false, decide_true, cond_false, cond_true, if_false, not_false_eq_true, ne_eq]
 by_cases h : (a = -1 ∧ b = -9223372036854775808) ∨ (b = -1 ∧ a = -9223372036854775808)
 ·rw [if_pos h]
  refine ⟨0, false, ?_, rfl⟩
  rcases h with ⟨h1, h2⟩ | ⟨h1, h2⟩
  ·simp [h1, h2]
  ·by_cases h3 : a = -1
   ·rw [h3] at h2; exact absurd h2 (by decide)
   ·simp [h1, h2]
 ·rw [if_neg h]
  refine ⟨w6 (a * b), decide (w6 ((w6 (a * b)).tdiv b) = a), ?_, ?_⟩
  ·by_cases h1 : a = -1
   ·have h2 : ¬ b = -9223372036854775808 := fun g => h (Or.inl ⟨h1, g⟩)
    by_cases h3 : b = -1
    ·have h4 : ¬ a = -9223372036854775808 := fun g => h (Or.inr ⟨h3, g⟩)
     simp [h1, h3, w6]
    ·simp [h1, h2, h3, w6]
   ·by_cases h3 : b = -1
    ·have h4 : ¬ a = -9223372036854775808 := fun g => h (Or.inr ⟨h3, g⟩)
     simp [h1, h3, h4, w6]
    ·simp [h1, h3, w6]
  ·by_cases hq : w6 ((w6 (a * b)).tdiv b) = a
   ·rw [if_pos hq]; exact ⟨decide_eq_true hq, rfl⟩
   ·rw [if_neg hq]; exact decide_eq_false hq
end Go.Eng
