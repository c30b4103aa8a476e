/- What closes a law's row, where types lie deep in each other. -/
import Derived.Test.YtbjeikmkngcjlaaZE3
set_option linter.unusedVariables false
set_option linter.unusedSimpArgs false
namespace Go.Eng
open Go Go.RowKit

def shapesOk12 (P : Program) : List TypeId → List Shape → Bool
 | [], [] => true
 | t :: ts, s :: ss => opC P 12 t s.2 && (s.1 == (match P.underlying t with
  | some (.struct _) => true
  | _ => false)) && shapesOk12 P ts ss
 | _, _ => false

section
variable {H : Type} {enc : TypeId × Value → H} {P : Program} {cx : Cx} {W : World}
theorem open_all12 {r : Reach} {b : Nat} : ∀ (ts : List TypeId) (vs : List Value) (ds : List (DataW H)) (ps : List MemPlace) (ss : List Shape), DataW.TrodAll enc P W 0 (fun _ => true) true ts vs ds ps → shapesOk12 P ts ss = true →
    (∀ (j : Nat) (t : TypeId) (v : Value), ts[j]? = some t → vs[j]? = some v → Value.okWide P W r b t v) → ds.length = ts.length ∧ ∃ das : List DArg, Fits ss das ∧ RAs cx (fun _ => none) (fun _ => True) W (liftA das) vs
 | [], vs, ds, ps, ss, h, hs, hv => by
  cases ss with
  | nil =>
   cases vs with
   | nil => cases ds with
    | nil => exact ⟨rfl, [], trivial, rfl, fun j hj => by simp [liftA] at hj⟩
    | cons _ _ => exact h.elim
   | cons _ _ => exact h.elim
  | cons _ _ => cases hs
 | t :: ts, vs, ds, ps, ss, h, hs, hv => by
  cases ss with
  | nil => cases hs
  | cons s ss =>
   cases vs with
   | nil => exact h.elim
   | cons v vs =>
    cases ds with
    | nil => exact h.elim
    | cons d ds =>
     obtain ⟨p, q, h1, h2, _⟩ := h
     simp only [shapesOk12, Bool.and_eq_true, beq_iff_eq] at hs
     obtain ⟨⟨ho, hg⟩, hs⟩ := hs
     obtain ⟨hl, das, k1, k2⟩ := open_all12 ts vs ds q ss h2 hs (fun j t v ht hv' => hv (j + 1) t v (by simpa using ht) (by simpa using hv'))
     obtain ⟨fuel, hf⟩ := h1
     obtain ⟨dd, q1, q2, q3, q4⟩ := open_ty (cx := cx) 12 fuel t s.2 _ _ ho hf
     have hv0 := hv 0 t v rfl rfl
     refine ⟨by simp [hl], (s.1, dd) :: das, ⟨⟨rfl, q1, q2, q3⟩, k1⟩, by simp [liftA, k2.1], fun j hj => ?_⟩
     cases j with
     | succ j => simpa [liftA] using k2.2 j (by simpa [liftA] using hj)
     | zero =>
      show RA cx _ _ W (s.1, dd.map .d) v
      have hRCs : RCs cx (fun _ => none) (fun _ => True) W (dd.map .d) v.cells.toList := ⟨by simpa using q4.1, fun j hj => by
       have hj' : j < dd.length := by simpa using hj
       have e : (dd.map C.d).getD j (.d .nils) = .d (dd.getD j .nils) := by simp [List.getD_eq_getElem?_getD, hj']
       rw [e]
       exact q4.2 j hj'⟩
      by_cases hst : ∃ fs, P.underlying t = some (.struct fs)
      ·obtain ⟨fs, hfs⟩ := hst
       rw [hfs] at hg
       rw [hg]
       unfold Value.okWide at hv0
       rw [hfs] at hv0
       obtain ⟨cs, rfl, _⟩ := hv0
       exact ⟨cs.toList, by simp, hRCs⟩
      ·have hne : ∀ fs, P.underlying t ≠ some (.struct fs) := fun fs e => hst ⟨fs, e⟩
       obtain ⟨c1, c2⟩ := cells_one hv0 ho hne
       have hg' : s.1 = false := by
        rw [hg]; split
        ·rename_i fs e; exact absurd e (hne fs)
        ·rfl
       rw [hg']
       have hlen : dd.length = 1 := by
        have := congrArg List.length q1
        simp only [List.length_map] at this
        omega
       match dd, hlen, hRCs with
       | [x], _, hRCs =>
        refine ⟨.d x, rfl, ?_⟩
        have := hRCs.2 0 (by simp)
        rw [c1] at this
        simpa using this

end
end Go.Eng
