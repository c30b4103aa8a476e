/- Token's laws. -/
import Derived.Test.YtnafjjkjogngjaaP9
import Derived.Test.YtnafjjkjogngjaaG5
set_option linter.unusedVariables false
set_option linter.unusedSimpArgs false
namespace Go.Eng
open Go Go.Eng
theorem len_split (l : PP) (f : Pass → Bool) : (l.filter f).length + (l.filter (fun p => !f p)).length = l.length := by
  induction l with
  | nil => rfl
  | cons x l ih => by_cases h : f x = true <;> simp [h] <;> omega
theorem law_TokenSweeps (l : PP) (now later : Int) : S.law16_TokenSweeps l now later = some ⟨true⟩ := by
  unfold S.law16_TokenSweeps S.law16_TokenSweeps_R
  dsimp only
  simp only [DT.run_br, DT.run_leaf, DT.run_fail, t_awake_is, t_awake_o, xnot, Bool.not_true, cond_true, cond_false, xdec]
  by_cases hb : (l.length : Int) > 10
  · simp [hb]
  · by_cases hl : later < now
    · simp [hb, hl]
    · have b1 : l.length ≤ 1048575 := by omega
      have b2 : (l.filter (fun p => !pTime now p)).length ≤ 1048575 := Nat.le_trans (List.length_filter_le _ _) b1
      have e1 : (l.filter (fun p => !pTime now p)).filter (fun p => !pTime now p) = l.filter (fun p => !pTime now p) := by simp [List.filter_filter]
      have e2 : (l.filter (fun p => !pTime now p)).filter (pTime now) = [] := by simp [List.filter_filter]
      have s1 := len_split l (pTime now)
      have s2 := len_split l (pTime later)
      have m1 : (l.filter (pTime now)).length ≤ (l.filter (pTime later)).length := by
        rw [← List.countP_eq_length_filter, ← List.countP_eq_length_filter]
        refine List.countP_mono_left (fun p _ hp => ?_)
        simp only [pTime, Bool.and_eq_true, decide_eq_true_eq] at hp ⊢
        exact ⟨hp.1, by omega⟩
      simp only [hb, hl, decide_false, cond_false, t_Sweep_is _ _ b1, t_Sweep_is _ _ b2, t_Sweep_o _ _ b1, t_Sweep_o _ _ b2, e1, e2, t_Same_is _ _ b2, t_Same_o _ _ b2, cond_true, decide_true, List.map_nil, List.length_nil, List.length_map, t_xeqI, xwrap]
      have w1 : IntKind.i64.wrap (((l.filter (fun p => !pTime now p)).length : Int) + ((l.filter (pTime now)).length : Int)) = (l.length : Int) := by rw [t_wrap (by omega) (by omega)]; omega
      have w2 : IntKind.i64.wrap (((l.filter (fun p => !pTime later p)).length : Int) + ((l.filter (pTime later)).length : Int)) = (l.length : Int) := by rw [t_wrap (by omega) (by omega)]; omega
      have m2 : (((l.filter (pTime later)).length : Int) ≥ ((l.filter (pTime now)).length : Int)) := by omega
      simp only [w1, w2, m2, decide_true, cond_true]
      rfl
theorem MayL_len {l : PP} (h : MayL l) : l.length ≤ 4 := h.2.2
theorem law_TokenMay (l : PP) (t s c now : Int) : S.law16_TokenMay l t s c now = some ⟨true⟩ := by
  unfold S.law16_TokenMay S.law16_TokenMay_R
  dsimp only
  simp only [DT.run_br, DT.run_leaf, DT.run_fail, t_awake_is, t_awake_o, xnot, Bool.not_true, cond_true, cond_false, xdec]
  by_cases hb : (l.length : Int) > 10
  · simp [hb]
  · have b1 : l.length ≤ 1048576 := by omega
    have b2 : l.length ≤ 1000000 := by omega
    have b3 : l.length ≤ 1048575 := by omega
    simp only [hb, decide_false, cond_false, t_May_is _ b1, t_May_o _ b1, cond_true]
    by_cases hm : MayL l
    · have m1 := MayL_filter (fun p => !pTime now p) hm
      have m2 := MayL_filter (fun p => !pSess s p) hm
      have m3 := MayL_leave c now hm
      have k1 := MayL_len m1
      have k2 := MayL_len m2
      have k3 := MayL_len m3
      simp only [hm, decide_true, Bool.not_true, cond_false, t_Issue_is _ _ _ _ b2, t_Issue_o _ _ _ _ b2, t_Join_is _ _ _ _ b1, t_Join_o _ _ _ _ b1, t_Sweep_is _ _ b3, t_Sweep_o _ _ b3, t_Leave_is _ _ _ b1, t_Leave_o _ _ _ b1, t_Drop_is _ _ b3, t_Drop_o _ _ b3, cond_true,
        t_May_is _ (show (l.filter (fun p => !pTime now p)).length ≤ 1048576 by omega), t_May_o _ (show (l.filter (fun p => !pTime now p)).length ≤ 1048576 by omega),
        t_May_is _ (show (l.filter (fun p => !pSess s p)).length ≤ 1048576 by omega), t_May_o _ (show (l.filter (fun p => !pSess s p)).length ≤ 1048576 by omega),
        t_May_is _ (show (leaveL l c now).length ≤ 1048576 by omega), t_May_o _ (show (leaveL l c now).length ≤ 1048576 by omega), m1, m2, m3, t_xneI]
      by_cases h1 : (issueL l t s c).x1 = 0
      · have m4 := MayL_issue hm h1
        have k4 := MayL_len m4
        by_cases h2 : (joinL l t c now).x2 = 0
        · have m5 := MayL_join hm h2
          have k5 := MayL_len m5
          simp only [h1, h2, ne_eq, not_true, decide_false, decide_true, cond_false, cond_true, t_May_is _ (show (issueL l t s c).x0.length ≤ 1048576 by omega), t_May_o _ (show (issueL l t s c).x0.length ≤ 1048576 by omega), t_May_is _ (show (joinL l t c now).x0.length ≤ 1048576 by omega), t_May_o _ (show (joinL l t c now).x0.length ≤ 1048576 by omega), m4, m5]
          try rfl
        · simp only [h1, h2, ne_eq, not_true, not_false_eq_true, decide_false, decide_true, cond_false, cond_true, t_May_is _ (show (issueL l t s c).x0.length ≤ 1048576 by omega), t_May_o _ (show (issueL l t s c).x0.length ≤ 1048576 by omega), m4]
          try rfl
      · by_cases h2 : (joinL l t c now).x2 = 0
        · have m5 := MayL_join hm h2
          have k5 := MayL_len m5
          simp only [h1, h2, ne_eq, not_true, not_false_eq_true, decide_false, decide_true, cond_false, cond_true, t_May_is _ (show (joinL l t c now).x0.length ≤ 1048576 by omega), t_May_o _ (show (joinL l t c now).x0.length ≤ 1048576 by omega), m5]
          try rfl
        · simp only [h1, h2, ne_eq, not_false_eq_true, decide_true, cond_true]
          try rfl
    · simp [hm]
end Go.Eng
