/- Lists that are the same. -/
import Derived.Test.YtnafjjkjogngjaaP1
set_option linter.unusedVariables false
set_option linter.unusedSimpArgs false
namespace Go.Eng
open Go Go.Eng
theorem matEq (x y : Mat) : (xeqI x.start y.start && (xeqI x.fin y.fin && (xeqI x.agg y.agg && xeqB x.bad y.bad))) = decide (x = y) := by
  cases x; cases y
  simp only [xeqI, xeqB, Mat.mk.injEq]
  rw [Bool.eq_iff_iff]
  simp [Bool.and_eq_true]
theorem matNe (x y : Mat) : (bif xeqI x.start y.start && (xeqI x.fin y.fin && (xeqI x.agg y.agg && xeqB x.bad y.bad)) then false else true) = !decide (x = y) := by rw [matEq]; cases decide (x = y) <;> rfl
theorem getD_drop {α : Type} (l : List α) (i : Nat) (d : α) (h : i < l.length) : l.drop i = l.getD i d :: l.drop (i + 1) := by
  rw [List.drop_eq_getElem_cons h, List.getD_eq_getElem?_getD, List.getElem?_eq_getElem h]; rfl
theorem p_Equal_lp (a b : MM) (hl : a.length = b.length) (hb : a.length ≤ 1048576) : ∀ (k i : Nat), i + k = a.length → ∃ v, Lp (S.slices_Equal_Match_4_r a b a.length) (⟨i⟩ : S.slices_Equal_Match_4_V) = some (if a.drop i = b.drop i then 1 else 0, v)
  | 0, i, hi => by
    refine ⟨⟨i⟩, Lp_exit ?_⟩
    have h1 : a.drop i = [] := List.drop_eq_nil_of_le (by omega)
    have h2 : b.drop i = [] := List.drop_eq_nil_of_le (by omega)
    have : ¬ ((i : Int) < (a.length : Int)) := by omega
    simp [S.slices_Equal_Match_4_r, S.slices_Equal_Match_4_R, DT.run_br, DT.run_leaf, this, h1, h2]
  | k + 1, i, hi => by
    have c1 : (i : Int) < (a.length : Int) := by omega
    have c2 : (i : Int) < (b.length : Int) := by omega
    have w : IntKind.i64.wrap ((i : Int) + 1) = ((i + 1 : Nat) : Int) := by rw [wrap_id (by omega) (by omega)]; omega
    have d1 := getD_drop a i (dflt .mat) (by omega)
    have d2 := getD_drop b i (dflt .mat) (by omega)
    have hr : S.slices_Equal_Match_4_r a b a.length ⟨i⟩ = if a.getD i (dflt .mat) = b.getD i (dflt .mat) then some (none, ⟨((i + 1 : Nat) : Int)⟩) else some (some 0, ⟨i⟩) := by
      unfold S.slices_Equal_Match_4_r S.slices_Equal_Match_4_R
      simp only [DT.run_br, DT.run_leaf, DT.run_fail, xdec, c1, c2, decide_true, cond_true, Int.toNat_natCast, matNe, xwrap, w]
      have c0 : (0 : Int) ≤ (i : Int) := by omega
      simp only [c0, decide_true, Bool.and_true, cond_true]
      by_cases he : a.getD i (dflt .mat) = b.getD i (dflt .mat)
      · rw [if_pos he]; simp only [he, decide_true, Bool.not_true, cond_false]
      · rw [if_neg he]; simp only [he, decide_false, Bool.not_false, cond_true]
    by_cases he : a.getD i (dflt .mat) = b.getD i (dflt .mat)
    · rw [if_pos he] at hr
      obtain ⟨v, hv⟩ := p_Equal_lp a b hl hb k (i + 1) (by omega)
      refine ⟨v, ?_⟩
      rw [Lp_cont hr, hv, d1, d2, he]
      simp
    · rw [if_neg he] at hr
      refine ⟨⟨i⟩, ?_⟩
      rw [Lp_exit hr, d1, d2]
      simp only [List.cons.injEq, he, false_and, if_false]
theorem p_Equal (a b : MM) (hb : a.length ≤ 1048576) : S.slices_Equal_Match a b = some ⟨decide (a = b)⟩ := by
  unfold S.slices_Equal_Match S.slices_Equal_Match_R
  simp only [DT.run_br, DT.run_leaf, DT.run_fail]
  by_cases hl : a.length = b.length
  · obtain ⟨v, hv⟩ := p_Equal_lp a b hl hb a.length 0 (by omega)
    have hn : xneI (a.length : Int) (b.length : Int) = false := by simp [xneI, hl]
    rw [hn]
    have j0 : ∀ j, S.slices_Equal_Match_4_j a b a.length ⟨0⟩ j = ((if a = b then 1 else 0) == j) := fun j => by
      unfold S.slices_Equal_Match_4_j
      simp only [List.drop_zero] at hv
      exact Lp_j_of hv j
    simp only [j0, cond_false]
    by_cases he : a = b
    · simp [he]
    · simp [he]
  · have hn : xneI (a.length : Int) (b.length : Int) = true := by simp [xneI]; omega
    have he : a ≠ b := fun e => hl (by rw [e])
    simp [hn, he]
theorem p_Same {a1 s1 a2 s2 : Int} {m1 m2 : MM} (hb : m1.length ≤ 1048576) : S.ring_Same a1 s1 m1 a2 s2 m2 = some ⟨decide (a1 = a2 ∧ s1 = s2 ∧ m1 = m2)⟩ := by
  unfold S.ring_Same S.ring_Same_R
  have e1 : S.slices_Equal_Match_is m1 m2 = true := by simp [S.slices_Equal_Match_is, p_Equal m1 m2 hb]
  have e2 : (S.slices_Equal_Match_o m1 m2).x0 = decide (m1 = m2) := by simp [S.slices_Equal_Match_o, p_Equal m1 m2 hb]
  simp only [DT.run_br, DT.run_leaf, DT.run_fail, e1, e2, cond_true, xeqI_dec, Bool.cond_decide]
  by_cases h1 : a1 = a2
  · by_cases h2 : s1 = s2
    · simp [h1, h2]
    · simp [h1, h2]
  · simp [h1]
theorem p_Same_is {a1 s1 a2 s2 : Int} {m1 m2 : MM} (hb : m1.length ≤ 1048576) : S.ring_Same_is a1 s1 m1 a2 s2 m2 = true := by simp [S.ring_Same_is, p_Same hb]
theorem p_Same_o {a1 s1 a2 s2 : Int} {m1 m2 : MM} (hb : m1.length ≤ 1048576) : (S.ring_Same_o a1 s1 m1 a2 s2 m2).x0 = decide (a1 = a2 ∧ s1 = s2 ∧ m1 = m2) := by simp [S.ring_Same_o, p_Same hb]

end Go.Eng
