/- What ring's reference comes to. -/
import Derived.Test.YtnafjjkjogngjaaP2
import Derived.Test.YtnafjjkjogngjaaG2
set_option linter.unusedVariables false
set_option linter.unusedSimpArgs false
namespace Go.Eng
open Go Go.Eng
theorem q_May (a s : Int) (m : MM) : S.ref14_May a s m = some ⟨rMay a s m⟩ := by
  unfold S.ref14_May S.ref14_May_R
  simp only [DT.run_br, DT.run_leaf, xwrap, xdec, Bool.cond_eq_ite, decide_eq_true_eq]
  unfold rMay
  by_cases h1 : a < 0
  · have h1' : ¬ 0 ≤ a := by omega
    simp [h1, h1']
  · by_cases h2 : a > 1099511627776
    · have h4 : ¬ a + (m.length : Int) ≤ 1099511627776 := by omega
      simp [h1, h2, h4]
    · by_cases h3 : (m.length : Int) > 6
      · have h3' : ¬ (m.length : Int) ≤ 6 := by omega
        simp [h1, h2, h3, h3']
      · have e := wrap_id (n := a + m.length) (by omega) (by omega)
        have h3' : (m.length : Int) ≤ 6 := by omega
        have h1' : 0 ≤ a := by omega
        simp only [e, h1, h2, h3, if_false]
        by_cases h4 : a + (m.length : Int) > 1099511627776
        · have h4' : ¬ a + (m.length : Int) ≤ 1099511627776 := by omega
          simp [h4, h4']
        · have h4' : a + (m.length : Int) ≤ 1099511627776 := by omega
          by_cases h5 : s ≥ a
          · have h5' : a ≤ s := h5
            simp [h4, h5, h4', h1', h3']
          · have h5' : ¬ a ≤ s := h5
            simp [h4, h5, h4', h5']
theorem q_May_is (a s : Int) (m : MM) : S.ref14_May_is a s m = true := by simp [S.ref14_May_is, q_May]
theorem q_May_o (a s : Int) (m : MM) : (S.ref14_May_o a s m).x0 = rMay a s m := by simp [S.ref14_May_o, q_May]
theorem q_why (a s : Int) (m : MM) (x : Int) : S.ref14_why a s m x = some ⟨rWhy a s m x⟩ := by
  unfold S.ref14_why S.ref14_why_R rWhy
  simp only [DT.run_br, DT.run_leaf, DT.run_fail, q_May_is, q_May_o, xdec, xnot, Bool.cond_eq_ite, decide_eq_true_eq, if_true, Bool.not_eq_true']
  cases rMay a s m with
  | false => simp
  | true =>
    by_cases h1 : x < a
    · simp [h1]
    · by_cases h2 : s < x
      · simp [h1, h2]
      · simp [h1, h2]
theorem q_why_is (a s : Int) (m : MM) (x : Int) : S.ref14_why_is a s m x = true := by simp [S.ref14_why_is, q_why]
theorem q_why_o (a s : Int) (m : MM) (x : Int) : (S.ref14_why_o a s m x).x0 = rWhy a s m x := by simp [S.ref14_why_o, q_why]
theorem q_own {m : MM} {x : Int} (h0 : 0 ≤ x) (h1 : x ≤ m.length) (h2 : m.length ≤ 1048576) : S.ref14_own m x = some ⟨m.drop x.toNat, (m.drop x.toNat).length⟩ := by
  unfold S.ref14_own S.ref14_own_R
  have e1 : sub m x.toNat m.length = m.drop x.toNat := by
    simp only [sub]
    exact List.take_of_length_le (by simp)
  have e3 : (List.drop x.toNat m).length ≤ 1048576 := by simp; omega
  simp only [DT.run_br, DT.run_leaf, DT.run_fail, e1, xdec]
  simp [h0, h1, e3, -List.length_drop]
theorem q_own_is {m : MM} {x : Int} (h0 : 0 ≤ x) (h1 : x ≤ m.length) (h2 : m.length ≤ 1048576) : S.ref14_own_is m x = true := by simp [S.ref14_own_is, q_own h0 h1 h2]
theorem q_own_o {m : MM} {x : Int} (h0 : 0 ≤ x) (h1 : x ≤ m.length) (h2 : m.length ≤ 1048576) : S.ref14_own_o m x = ⟨m.drop x.toNat, (m.drop x.toNat).length⟩ := by simp [S.ref14_own_o, q_own h0 h1 h2]
theorem p_Same12_lp (a b : MM) (hl : a.length = b.length) (hb : a.length ≤ 1048576) : ∀ (k i : Nat), i + k = a.length → ∃ v, Lp (S.ref12_Same_4_r a b) (⟨i⟩ : S.ref12_Same_4_V) = some (if a.drop i = b.drop i then 1 else 0, v)
  | 0, i, hi => by
    refine ⟨⟨i⟩, Lp_exit ?_⟩
    have h1 : a.drop i = [] := List.drop_eq_nil_of_le (by omega)
    have h2 : b.drop i = [] := List.drop_eq_nil_of_le (by omega)
    have : ¬ ((i : Int) < (a.length : Int)) := by omega
    simp [S.ref12_Same_4_r, S.ref12_Same_4_R, DT.run_br, DT.run_leaf, this, h1, h2]
  | k + 1, i, hi => by
    have c1 : (i : Int) < (a.length : Int) := by omega
    have c2 : (i : Int) < (b.length : Int) := by omega
    have w : IntKind.i64.wrap ((i : Int) + 1) = ((i + 1 : Nat) : Int) := by rw [wrap_id (by omega) (by omega)]; omega
    have d1 := getD_drop a i (dflt .mat) (by omega)
    have d2 := getD_drop b i (dflt .mat) (by omega)
    have hr : S.ref12_Same_4_r a b ⟨i⟩ = if a.getD i (dflt .mat) = b.getD i (dflt .mat) then some (none, ⟨((i + 1 : Nat) : Int)⟩) else some (some 0, ⟨i⟩) := by
      unfold S.ref12_Same_4_r S.ref12_Same_4_R
      simp only [DT.run_br, DT.run_leaf, DT.run_fail, xdec, c1, c2, decide_true, cond_true, Int.toNat_natCast, matNe, xwrap, w]
      have c0 : (0 : Int) ≤ (i : Int) := by omega
      simp only [c0, decide_true, Bool.and_true, cond_true]
      by_cases he : a.getD i (dflt .mat) = b.getD i (dflt .mat)
      · rw [if_pos he]; simp only [he, decide_true, Bool.not_true, cond_false]
      · rw [if_neg he]; simp only [he, decide_false, Bool.not_false, cond_true]
    by_cases he : a.getD i (dflt .mat) = b.getD i (dflt .mat)
    · rw [if_pos he] at hr
      obtain ⟨v, hv⟩ := p_Same12_lp a b hl hb k (i + 1) (by omega)
      refine ⟨v, ?_⟩
      rw [Lp_cont hr, hv, d1, d2, he]
      simp
    · rw [if_neg he] at hr
      refine ⟨⟨i⟩, ?_⟩
      rw [Lp_exit hr, d1, d2]
      simp only [List.cons.injEq, he, false_and, if_false]
theorem p_Same12 (a b : MM) (hb : a.length ≤ 1048576) : S.ref12_Same a b = some ⟨decide (a = b)⟩ := by
  unfold S.ref12_Same S.ref12_Same_R
  simp only [DT.run_br, DT.run_leaf, DT.run_fail]
  by_cases hl : a.length = b.length
  · obtain ⟨v, hv⟩ := p_Same12_lp a b hl hb a.length 0 (by omega)
    have hn : xneI (a.length : Int) (b.length : Int) = false := by simp [xneI, hl]
    rw [hn]
    have j0 : ∀ j, S.ref12_Same_4_j a b ⟨0⟩ j = ((if a = b then 1 else 0) == j) := fun j => by
      unfold S.ref12_Same_4_j
      simp only [List.drop_zero] at hv
      exact Lp_j_of hv j
    simp only [j0, cond_false]
    by_cases he : a = b
    · simp [he]
    · simp [he]
  · have hn : xneI (a.length : Int) (b.length : Int) = true := by simp [xneI]; omega
    have he : a ≠ b := fun e => hl (by rw [e])
    simp [hn, he]
theorem q_Same {a1 s1 a2 s2 : Int} {m1 m2 : MM} (hb : m1.length ≤ 1048576) : S.ref14_Same a1 s1 m1 a2 s2 m2 = some ⟨decide (a1 = a2 ∧ s1 = s2 ∧ m1 = m2)⟩ := by
  unfold S.ref14_Same S.ref14_Same_R
  have e1 : S.ref12_Same_is m1 m2 = true := by simp [S.ref12_Same_is, p_Same12 m1 m2 hb]
  have e2 : (S.ref12_Same_o m1 m2).x0 = decide (m1 = m2) := by simp [S.ref12_Same_o, p_Same12 m1 m2 hb]
  simp only [DT.run_br, DT.run_leaf, DT.run_fail, e1, e2, cond_true, xeqI_dec, Bool.cond_decide]
  by_cases h1 : a1 = a2 <;> by_cases h2 : s1 = s2 <;> by_cases h3 : m1 = m2 <;> simp [h1, h2, h3]
theorem q_Same_is {a1 s1 a2 s2 : Int} {m1 m2 : MM} (hb : m1.length ≤ 1048576) : S.ref14_Same_is a1 s1 m1 a2 s2 m2 = true := by simp [S.ref14_Same_is, q_Same hb]
theorem q_Same_o {a1 s1 a2 s2 : Int} {m1 m2 : MM} (hb : m1.length ≤ 1048576) : (S.ref14_Same_o a1 s1 m1 a2 s2 m2).x0 = decide (a1 = a2 ∧ s1 = s2 ∧ m1 = m2) := by simp [S.ref14_Same_o, q_Same hb]
theorem q_Back (a s : Int) (m : MM) (x : Int) : S.ref14_Back a s m x = some (if rWhy a s m x = 0 then ⟨a, x, m, 0⟩ else ⟨0, 0, [], rWhy a s m x⟩) := by
  unfold S.ref14_Back S.ref14_Back_R
  simp only [DT.run_br, DT.run_leaf, DT.run_fail, q_why_is, q_why_o, xneI, cond_true]
  by_cases h : rWhy a s m x = 0
  · have := rMay_iff.1 (rWhy_zero.1 h).1
    have h2 : m.length ≤ 1048576 := by omega
    simp [h, q_own_is (Int.le_refl 0) (Int.natCast_nonneg m.length) h2, q_own_o (Int.le_refl 0) (Int.natCast_nonneg m.length) h2, xdec, sub_self, -List.length_drop]
  · have hn : (rWhy a s m x != 0) = true := by simpa using h
    simp [h, hn]
theorem q_Ack (a s : Int) (m : MM) (x : Int) : S.ref14_Ack a s m x = some (if rWhy a s m x = 0 then ⟨x, s, m.drop (x - a).toNat, 0⟩ else ⟨0, 0, [], rWhy a s m x⟩) := by
  unfold S.ref14_Ack S.ref14_Ack_R
  simp only [DT.run_br, DT.run_leaf, DT.run_fail, q_why_is, q_why_o, xneI, xwrap, cond_true]
  by_cases h : rWhy a s m x = 0
  · obtain ⟨h1, h2, h3⟩ := rWhy_zero.1 h
    have := rMay_iff.1 h1
    have e : IntKind.i64.wrap (x - a) = x - a := wrap_id (by omega) (by omega)
    have q0 : 0 ≤ x - a := by omega
    have q1 : x - a ≤ (m.length : Int) := by omega
    have q2 : m.length ≤ 1048576 := by omega
    simp [h, e, q_own_is q0 q1 q2, q_own_o q0 q1 q2, xdec, sub_self, -List.length_drop]
  · have hn : (rWhy a s m x != 0) = true := by simpa using h
    simp [h, hn]
theorem q_Next {a s : Int} {m : MM} : S.ref14_Next a s m = some (if rMay a s m = true ∧ s ≠ a + m.length then ⟨a, s + 1, m, s + 1, (m.getD (s - a).toNat (dflt .mat)).start, (m.getD (s - a).toNat (dflt .mat)).fin, (m.getD (s - a).toNat (dflt .mat)).agg, (m.getD (s - a).toNat (dflt .mat)).bad, true⟩ else ⟨a, s, m, 0, 0, 0, 0, false, false⟩) := by
  unfold S.ref14_Next S.ref14_Next_R
  simp only [DT.run_br, DT.run_leaf, DT.run_fail, cond_true, q_May_is, q_May_o, xnot, xdec, xwrap, Bool.cond_decide]
  cases hm : rMay a s m with
  | false => simp
  | true =>
    have := rMay_iff.1 hm
    have e1 : IntKind.i64.wrap (a + m.length) = a + m.length := wrap_id (by omega) (by omega)
    have e2 : IntKind.i64.wrap (s + 1) = s + 1 := wrap_id (by omega) (by omega)
    have e3 : IntKind.i64.wrap (s - a) = s - a := wrap_id (by omega) (by omega)
    simp only [e1, e2, e3]
    by_cases hs : s = a + m.length
    · have hs' : s ≥ a + (m.length : Int) := by omega
      simp only [Bool.not_true, cond_false, if_pos hs']
      simp [hs]
    · have hs' : ¬ s ≥ a + (m.length : Int) := by omega
      have q1 : 0 ≤ s - a := by omega
      have q2 : s - a < (m.length : Int) := by omega
      simp only [Bool.not_true, cond_false, if_neg hs', q1, q2, decide_true, Bool.and_self, cond_true]
      rw [if_pos ⟨trivial, hs⟩]
theorem q_Add {a s : Int} {m : MM} {e1 e2 e3 : Int} {e4 : Bool} (hl : m.length ≤ 1048576) : S.ref14_Add a s m e1 e2 e3 e4 = some (if rMay a s m = true ∧ (m.length : Int) ≠ 6 ∧ a + m.length ≠ 1099511627776 then ⟨a, s, m ++ [(⟨e1, e2, e3, e4⟩ : Mat)], true⟩ else ⟨a, s, m, false⟩) := by
  unfold S.ref14_Add S.ref14_Add_R
  have ho := q_own_o (m := m) (Int.le_refl 0) (Int.natCast_nonneg m.length) hl
  simp only [Int.toNat_zero, List.drop_zero] at ho
  simp only [DT.run_br, DT.run_leaf, DT.run_fail, q_own_is (m := m) (Int.le_refl 0) (Int.natCast_nonneg m.length) hl, ho, cond_true, q_May_is, q_May_o, xnot, xdec, xwrap, Bool.cond_decide]
  cases hm : rMay a s m with
  | false => simp
  | true =>
    have := rMay_iff.1 hm
    have q1 : IntKind.i64.wrap (a + m.length) = a + m.length := wrap_id (by omega) (by omega)
    simp only [q1]
    by_cases h6 : (m.length : Int) = 6
    · simp [h6]
    · have h6' : ¬ (m.length : Int) ≥ 6 := by omega
      by_cases h7 : a + (m.length : Int) = 1099511627776
      · simp [h7]
      · have h7' : ¬ a + (m.length : Int) ≥ 1099511627776 := by omega
        have q2 : m.length + 1 ≤ 1048576 := by omega
        have q3 : sub (m ++ [(⟨e1, e2, e3, e4⟩ : Mat)]) 0 (m.length + 1) = m ++ [(⟨e1, e2, e3, e4⟩ : Mat)] := sub_all _ _ (by simp)
        simp only [Bool.not_true, cond_false, if_neg h6', if_neg h7']
        simp [h6, h7, q2, q3]
theorem q_is {α : Type} {o : Option α} {x : α} (h : o = some x) : o.isSome = true := by rw [h]; rfl
end Go.Eng
