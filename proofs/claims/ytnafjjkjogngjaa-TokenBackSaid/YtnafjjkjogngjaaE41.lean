/- Plain facts on rounds: a search through a list, a comparison of two lists. -/
import Derived.Test.YtnafjjkjogngjaaE40
set_option linter.unusedVariables false
set_option linter.unusedSimpArgs false
namespace Go.Eng
/-- the first one that is so -/
theorem Lp_idx {V α : Type} {r : V → Option (Option Nat × V)} (mk : Int → V) (l : List α) (p : α → Bool)
    (h1 : ∀ (i : Nat) (h : i < l.length), r (mk i) = if p l[i] = true then some (some 0, mk i) else some (none, mk ((i + 1 : Nat) : Int))) (h2 : r (mk l.length) = some (some 1, mk l.length)) :
    Lp r (mk 0) = match l.findIdx? p with
      | some j => some (0, mk j)
      | none => some (1, mk l.length) := by
  have key : ∀ (k i : Nat), i + k = l.length → Lp r (mk i) = match (l.drop i).findIdx? p with
      | some j => some (0, mk ((i + j : Nat) : Int))
      | none => some (1, mk l.length) := by
    intro k
    induction k with
    | zero =>
      intro i hi
      have e : l.drop i = [] := List.drop_eq_nil_of_le (by omega)
      have hi' : i = l.length := by omega
      rw [e, hi']
      exact Lp_exit h2
    | succ k ih =>
      intro i hi
      have hlt : i < l.length := by omega
      have hr := h1 i hlt
      rw [List.drop_eq_getElem_cons hlt, List.findIdx?_cons]
      cases hp : p l[i] with
      | true =>
        rw [hp, if_pos rfl] at hr
        simp only [if_true]
        rw [Lp_exit hr]
        rfl
      | false =>
        rw [hp, if_neg (by simp)] at hr
        rw [Lp_cont hr, ih (i + 1) (by omega)]
        simp only [Bool.false_eq_true, if_false]
        cases (l.drop (i + 1)).findIdx? p with
        | none => rfl
        | some j =>
          simp only [Option.map_some]
          congr 3
          omega
  have := key l.length 0 (by omega)
  simpa using this
/-- are two lists the same? -/
theorem Lp_same {V α : Type} [DecidableEq α] {r : V → Option (Option Nat × V)} (mk : Int → V) (a b : List α) (hl : a.length = b.length)
    (h1 : ∀ (i : Nat) (h : i < a.length) (h' : i < b.length), r (mk i) = if a[i] = b[i] then some (none, mk ((i + 1 : Nat) : Int)) else some (some 0, mk i)) (h2 : r (mk a.length) = some (some 1, mk a.length)) :
    ∃ v, Lp r (mk 0) = some (if a = b then 1 else 0, v) := by
  have key : ∀ (k i : Nat), i + k = a.length → ∃ v, Lp r (mk i) = some (if a.drop i = b.drop i then 1 else 0, v) := by
    intro k
    induction k with
    | zero =>
      intro i hi
      have e1 : a.drop i = [] := List.drop_eq_nil_of_le (by omega)
      have e2 : b.drop i = [] := List.drop_eq_nil_of_le (by omega)
      have hi' : i = a.length := by omega
      rw [e1, e2, hi']
      exact ⟨_, Lp_exit h2⟩
    | succ k ih =>
      intro i hi
      have q1 : i < a.length := by omega
      have q2 : i < b.length := by omega
      have hr := h1 i q1 q2
      rw [List.drop_eq_getElem_cons q1, List.drop_eq_getElem_cons q2]
      by_cases he : a[i] = b[i]
      · rw [if_pos he] at hr
        obtain ⟨v, hv⟩ := ih (i + 1) (by omega)
        refine ⟨v, ?_⟩
        rw [Lp_cont hr, hv, he]
        simp only [List.cons.injEq, true_and]
      · rw [if_neg he] at hr
        refine ⟨mk i, ?_⟩
        rw [Lp_exit hr]
        simp only [List.cons.injEq, he, false_and, if_false]
  have := key a.length 0 (by omega)
  simpa using this
theorem getD_of {α : Type} (l : List α) (i : Nat) (d : α) (h : i < l.length) : l.getD i d = l[i] := by
  rw [List.getD_eq_getElem?_getD, List.getElem?_eq_getElem h]; rfl
end Go.Eng
