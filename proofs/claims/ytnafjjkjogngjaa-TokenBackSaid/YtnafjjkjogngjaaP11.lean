/- Token's laws: who leaves. -/
import Derived.Test.YtnafjjkjogngjaaP10
set_option linter.unusedVariables false
set_option linter.unusedSimpArgs false
namespace Go.Eng
open Go Go.Eng
theorem leave_cases (l : PP) (c now : Int) : (fI l (pConn c) = -1 ∧ leaveL l c now = l ∧ l.findIdx? (pConn c) = none) ∨
    ∃ j : Nat, ∃ h : j < l.length, fI l (pConn c) = j ∧ 0 ≤ c ∧ l[j].conn = c ∧ leaveL l c now = l.set j (updP (-1) (clampT now) l[j]) ∧ l.findIdx? (pConn c) = some j := by
  unfold fI leaveL
  cases hf : l.findIdx? (pConn c) with
  | none => exact .inl ⟨rfl, rfl, rfl⟩
  | some j =>
    obtain ⟨h1, h2, _⟩ := List.findIdx?_eq_some_iff_getElem.1 hf
    simp only [pConn, Bool.and_eq_true, decide_eq_true_eq] at h2
    exact .inr ⟨j, h1, rfl, h2.1, h2.2, by simp only [getD_of l j _ h1], rfl⟩
theorem leave_len (l : PP) (c now : Int) : (leaveL l c now).length = l.length := by
  rcases leave_cases l c now with ⟨_, h, _⟩ | ⟨j, hj, _, _, _, h, _⟩ <;> simp [h]
theorem leave_len' (l : List Pass) (c now : Int) : @List.length Pass (leaveL l c now) = @List.length Pass l := leave_len l c now
theorem conn_uniq {l : PP} (h : MayL l) {i j : Nat} (hi : i < l.length) (hj : j < l.length) (h0 : l[j].conn ≠ -1) (he : l[i].conn = l[j].conn) : i = j := by
  have g := List.pairwise_iff_getElem.1 h.2.1
  rcases Nat.lt_trichotomy i j with h1 | h1 | h1
  · exact absurd he ((g i j hi hj h1).2.2 h0)
  · exact h1
  · exact absurd he.symm ((g j i hj hi h1).2.2 (by rw [he]; exact h0))
theorem tok_uniq {l : PP} (h : MayL l) {i j : Nat} (hi : i < l.length) (hj : j < l.length) (he : l[i].token = l[j].token) : i = j := by
  have g := List.pairwise_iff_getElem.1 h.2.1
  rcases Nat.lt_trichotomy i j with h1 | h1 | h1
  · exact absurd he (g i j hi hj h1).1
  · exact h1
  · exact absurd he.symm (g j i hj hi h1).1
theorem leave_none {l : PP} (h : MayL l) (c now : Int) : fI (leaveL l c now) (pConn c) = -1 := by
  rcases leave_cases l c now with ⟨h1, h2, _⟩ | ⟨j, hj, _, hc, he, h2, _⟩
  · rw [h2]; exact h1
  · rw [fI_neg, h2]
    intro q hq
    obtain ⟨i, hi, rfl⟩ := List.getElem_of_mem hq
    simp only [List.length_set] at hi
    rw [List.getElem_set]
    by_cases e : j = i
    · rw [if_pos e]; simp only [pConn, updP, Bool.and_eq_false_iff, decide_eq_false_iff_not]; right; exact decide_eq_false (show ¬ ((-1 : Int) = c) by omega)
    · rw [if_neg e]
      simp only [pConn, Bool.and_eq_false_iff, decide_eq_false_iff_not]
      right
      intro h3
      exact e (conn_uniq h hi hj (by rw [he]; omega) (by rw [h3, he])).symm
theorem leave_again {l : PP} {c : Int} (now : Int) (h : fI l (pConn c) = -1) : leaveL l c now = l := by
  rcases leave_cases l c now with ⟨_, h2, _⟩ | ⟨j, hj, h1, _⟩
  · exact h2
  · omega
theorem leave_get (l : PP) (c now : Int) (i : Nat) (h : i < l.length) : (leaveL l c now).getD i (dflt .pass) = if (i : Int) = fI l (pConn c) then updP (-1) (clampT now) l[i] else l[i] := by
  rcases leave_cases l c now with ⟨h1, h2, _⟩ | ⟨j, hj, h1, _, _, h2, _⟩
  · rw [h2, h1, getD_of l i _ h, if_neg (by omega)]
  · rw [h2, h1, getD_of _ i _ (by simpa using h), List.getElem_set]
    by_cases e : j = i
    · subst e; simp
    · have e' : ¬ (i : Int) = (j : Int) := by omega
      rw [if_neg e, if_neg e']
theorem TokenLeaves_lp (l : PP) (c now : Int) (hb : l.length ≤ 10) : Lp (S.law16_TokenLeaves_7_r l (leaveL l c now) (fI l (pConn c))) (⟨0⟩ : S.law16_TokenLeaves_7_V) = some (1, ⟨l.length⟩) := by
  refine Lp_walk (fun i => (⟨i⟩ : S.law16_TokenLeaves_7_V)) l.length 1 (fun i hi => ?_) ?_
  · have h1 : ((i : Int) < (l.length : Int)) := by omega
    have h2 : (0 : Int) ≤ (i : Int) := by omega
    have g := leave_get l c now i hi
    unfold S.law16_TokenLeaves_7_r S.law16_TokenLeaves_7_R
    simp only [DT.run_br, DT.run_leaf, DT.run_fail, xdec, xwrap, h1, h2, leave_len', decide_true, Bool.and_self, cond_true, Int.toNat_natCast, getD_of l i _ hi, g, t_wrap1 (show i ≤ 1048576 by omega), t_xeqI, t_xneI]
    by_cases e : (i : Int) = fI l (pConn c)
    · simp [e, updP]
    · simp [e]
  · unfold S.law16_TokenLeaves_7_r S.law16_TokenLeaves_7_R
    simp [DT.run_br, DT.run_leaf, xdec]
theorem law_TokenLeaves (l : PP) (c now : Int) : S.law16_TokenLeaves l c now = some ⟨true⟩ := by
  unfold S.law16_TokenLeaves S.law16_TokenLeaves_R
  dsimp only
  simp only [DT.run_br, DT.run_leaf, DT.run_fail, t_awake_is, t_awake_o, xnot, Bool.not_true, cond_true, cond_false, xdec]
  by_cases hb : (l.length : Int) > 10
  · simp [hb]
  · have b1 : l.length ≤ 1048576 := by omega
    simp only [hb, decide_false, cond_false, t_May_is _ b1, t_May_o _ b1, cond_true]
    by_cases hm : MayL l
    · have e := TokenLeaves_lp l c now (by omega)
      have b2 : (leaveL l c now).length ≤ 1048576 := by rw [leave_len]; exact b1
      have b3 : (leaveL l c now).length ≤ 1048575 := by rw [leave_len]; omega
      have f1 := leave_none hm c now
      have f2 := leave_again (IntKind.i64.wrap (now + 1)) f1
      simp only [hm, decide_true, Bool.not_true, cond_false, t_Leave_is _ _ _ b1, t_Leave_o _ _ _ b1, t_Find_is _ _ b1, t_Find_o _ _ b1, cond_true, S.law16_TokenLeaves_7_j, Lp_j_of e, t_Leave_is _ _ _ b2, t_Leave_o _ _ _ b2, xwrap, f2, t_Same_is _ _ b3, t_Same_o _ _ b3, t_Find_is _ _ b2, t_Find_o _ _ b2, f1, leave_len', t_xeqI]
      rcases leave_cases l c now with ⟨h1, _, _⟩ | ⟨j, hj, h1, _⟩
      · simp [h1]
      · have g := leave_get l c now j hj
        have h3 : (j : Int) < (l.length : Int) := by omega
        have h4 : ¬ (j : Int) < 0 := by omega
        rw [h1] at g ⊢
        simp only [h3, h4, decide_false, cond_false, decide_true, Int.natCast_nonneg, Bool.and_self, cond_true, Int.toNat_natCast, g, if_true]
        rfl
    · simp [hm]
theorem issue_ok {l : PP} {t s c : Int} (h : (issueL l t s c).x1 = 0) : (issueL l t s c).x0 = l ++ [⟨t, s, c, 0⟩] ∧ MayL l ∧ 0 ≤ s ∧ 0 ≤ c ∧ fI l (pConn c) = -1 ∧ fI l (pSess s) = -1 ∧ fI l (pTok t) = -1 := by
  unfold issueL at h ⊢
  split at h
  · rename_i hh
    rw [if_pos hh]
    split at h
    · rename_i ht
      rw [if_pos ht]
      split at h
      · simp at h
      · rename_i h4
        rw [if_neg h4]
        exact ⟨rfl, hh.1, hh.2.1, hh.2.2.1, hh.2.2.2.1, hh.2.2.2.2, ht⟩
    · simp at h
  · simp at h
theorem issue_no {l : PP} {t s c : Int} (h : (issueL l t s c).x1 ≠ 0) : (issueL l t s c).x0 = [] := by
  unfold issueL at h ⊢
  split
  · split
    · split
      · rfl
      · rename_i h1 h2 h3; rw [if_pos h1, if_pos h2, if_neg h3] at h; simp at h
    · rfl
  · rfl
theorem idx_last (l : PP) (p : Pass) (f : Pass → Bool) (h1 : fI l f = -1) (h2 : f p = true) : (l ++ [p]).findIdx? f = some l.length := by
  rw [List.findIdx?_eq_some_iff_getElem]
  refine ⟨by simp, by simpa using h2, fun i hi => ?_⟩
  rw [List.getElem_append_left hi]
  have := fI_neg.1 h1 _ (List.getElem_mem hi)
  simp [this]
theorem fI_of {l : PP} {f : Pass → Bool} {j : Nat} (h : l.findIdx? f = some j) : fI l f = j := by simp only [fI, h]
theorem set_last {α : Type} (l : List α) (a b : α) : (l ++ [a]).set l.length b = l ++ [b] := by simp
theorem law_TokenIssues (l : PP) (t s c : Int) : S.law16_TokenIssues l t s c = some ⟨true⟩ := by
  unfold S.law16_TokenIssues S.law16_TokenIssues_R
  dsimp only
  simp only [DT.run_br, DT.run_leaf, DT.run_fail, t_awake_is, t_awake_o, xnot, Bool.not_true, cond_true, cond_false, xdec]
  by_cases hb : (l.length : Int) > 10
  · simp [hb]
  · have b1 : l.length ≤ 1048576 := by omega
    have b2 : l.length ≤ 1000000 := by omega
    simp only [hb, decide_false, cond_false, t_May_is _ b1, t_May_o _ b1, cond_true]
    by_cases hm : MayL l
    · simp only [hm, decide_true, Bool.not_true, cond_false, t_Issue_is _ _ _ _ b2, t_Issue_o _ _ _ _ b2, cond_true, t_xneI]
      by_cases h1 : (issueL l t s c).x1 = 0
      · obtain ⟨e0, _, hs, hc, fc, fs, ft⟩ := issue_ok h1
        have m4 := MayL_issue hm h1
        have k4 := MayL_len m4
        rw [e0] at m4 k4
        have p1 := idx_last l ⟨t, s, c, 0⟩ (pConn c) fc (by simp [pConn, hc])
        have p2 := idx_last l ⟨t, s, c, 0⟩ (pTok t) ft (by simp [pTok])
        have l1 : leaveL (l ++ [⟨t, s, c, 0⟩]) c 3 = l ++ [⟨t, s, -1, 3⟩] := by
          unfold leaveL
          simp only [p1, set_last]
          rw [getD_of _ _ _ (by simp)]
          simp [updP, clampT]
        have m5 := MayL_leave c 3 m4
        have f5 := leave_none m4 c 3
        rw [l1] at m5 f5
        have p3 := idx_last l ⟨t, s, -1, 3⟩ (pTok t) ft (by simp [pTok])
        have w23 : IntKind.i64.wrap (3 + 20) = 23 := t_wrap (by omega) (by omega)
        have j1 : joinL (l ++ [⟨t, s, -1, 3⟩]) t c 4 = ⟨l ++ [⟨t, s, c, 0⟩], s, 0⟩ := by
          unfold joinL
          rw [if_pos ⟨m5, hc, by omega, f5⟩]
          have eg : (l ++ [(⟨t, s, -1, 3⟩ : Pass)]).getD l.length (dflt .pass) = ⟨t, s, -1, 3⟩ := by rw [getD_of _ _ _ (by simp)]; simp
          simp only [p3, set_last, eg]
          have w24 : ¬ IntKind.i64.wrap (3 + 20) ≤ 4 := by rw [w23]; omega
          simp only [updP, pTime, w24, decide_true, decide_false, Bool.true_and, and_self, if_true]
        have i1 : (issueL (l ++ [⟨t, s, c, 0⟩]) t (IntKind.i64.wrap (s + 1)) (IntKind.i64.wrap (c + 1))).x1 ≠ 0 := by
          intro hh
          have := (issue_ok hh).2.2.2.2.2.2
          rw [fI_of p2] at this
          omega
        have d1 : (l ++ [(⟨t, s, c, 0⟩ : Pass)]).filter (fun p => !pSess s p) = l := by
          rw [List.filter_append, List.filter_eq_self.2 (fun q hq => by simp [fI_neg.1 fs q hq])]
          simp [pSess]
        have k0 : (l ++ [(⟨t, s, c, 0⟩ : Pass)]).length = l.length + 1 := by simp
        have k1 : (l ++ [(⟨t, s, -1, 3⟩ : Pass)]).length ≤ 1048576 := by simp; omega
        have c1 : (l ++ [(⟨t, s, c, 0⟩ : Pass)]).length ≤ 1000000 := by omega
        have c2 : (l ++ [(⟨t, s, c, 0⟩ : Pass)]).length ≤ 1048576 := by omega
        have c3 : (l ++ [(⟨t, s, c, 0⟩ : Pass)]).length ≤ 1048575 := by omega
        have c4 : l.length ≤ 1048575 := by omega
        have k5 : ((l ++ [(⟨t, s, c, 0⟩ : Pass)]).length : Int) ≤ 4 := by omega
        simp only [h1, e0, ne_eq, not_true, decide_false, cond_false, xwrap, t_Issue_is _ _ _ _ c1, t_Issue_o _ _ _ _ c1, t_Leave_is _ _ _ c2, t_Leave_o _ _ _ c2, l1, t_Join_is _ _ _ _ k1, t_Join_o _ _ _ _ k1, j1, t_Same_is _ _ c3, t_Same_o _ _ c3, t_Drop_is _ _ c3, t_Drop_o _ _ c3, d1, t_Same_is _ _ c4, t_Same_o _ _ c4, t_Find_is _ _ c2, t_Find_o _ _ c2, fI_of p1, i1, cond_true, t_xeqI, decide_true, not_false_eq_true, k5]
      · have h2 := issue_no h1
        simp [h1, h2, t_xeqI]
    · simp [hm]
end Go.Eng
