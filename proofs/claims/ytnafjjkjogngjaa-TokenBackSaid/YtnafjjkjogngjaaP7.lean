/- What token's functions come to: issue, join, leave, and without some. -/
import Derived.Test.YtnafjjkjogngjaaP6
set_option linter.unusedVariables false
set_option linter.unusedSimpArgs false
namespace Go.Eng
open Go Go.Eng
theorem t_Clone (l : PP) (hb : l.length ≤ 1048576) : S.Clone_pass_nn l = some ⟨l, l.length⟩ := by
  unfold S.Clone_pass_nn S.Clone_pass_nn_R
  simp [DT.run_br, DT.run_leaf, xdec, hb]
theorem t_Clone_is (l : PP) (hb : l.length ≤ 1048576) : S.Clone_pass_nn_is l = true := by simp [S.Clone_pass_nn_is, t_Clone l hb]
theorem t_Clone_o (l : PP) (hb : l.length ≤ 1048576) : S.Clone_pass_nn_o l = ⟨l, l.length⟩ := by simp [S.Clone_pass_nn_o, t_Clone l hb]
theorem t_Find (l : PP) (c : Int) (hb : l.length ≤ 1048576) : S.token_Find l c = some ⟨fI l (pConn c)⟩ := by
  unfold S.token_Find S.token_Find_R
  simp only [DT.run_br, DT.run_leaf, DT.run_fail, t_byConn_o, t_at_conn_is l _ hb, t_at_conn_o l _ hb, cond_true]
theorem t_Find_is (l : PP) (c : Int) (hb : l.length ≤ 1048576) : S.token_Find_is l c = true := by simp [S.token_Find_is, t_Find l c hb]
theorem t_Find_o (l : PP) (c : Int) (hb : l.length ≤ 1048576) : (S.token_Find_o l c).x0 = fI l (pConn c) := by simp [S.token_Find_o, t_Find l c hb]
def updP (c o : Int) (p : Pass) : Pass := ⟨p.token, p.sess, c, o⟩
def clampT (now : Int) : Int := if 1125899906842624 < (if 0 > now then 0 else now) then 1125899906842624 else (if 0 > now then 0 else now)
def leaveL (l : PP) (c now : Int) : PP := match l.findIdx? (pConn c) with
  | some j => l.set j (updP (-1) (clampT now) (l.getD j (dflt .pass)))
  | none => l
theorem sub_len {α : Type} (l : List α) (n : Nat) (h : n = l.length) : sub l 0 n = l := by subst h; simp [sub]
theorem t_Leave (l : PP) (c now : Int) (hb : l.length ≤ 1048576) : S.token_Leave l c now = some ⟨leaveL l c now⟩ := by
  unfold S.token_Leave S.token_Leave_R leaveL
  simp only [DT.run_br, DT.run_leaf, DT.run_fail, t_Find_is l c hb, t_Find_o l c hb, t_Clone_is l hb, t_Clone_o l hb, cond_true, t_xneI, xdec]
  unfold fI
  cases h : l.findIdx? (pConn c) with
  | none => simp [sub]
  | some j =>
    obtain ⟨h1, h2, _⟩ := List.findIdx?_eq_some_iff_getElem.1 h
    have h3 : (j : Int) ≠ -1 := by omega
    have h4 : (j : Int) < (l.length : Int) := by omega
    simp only [h3, h4, ne_eq, not_false_eq_true, decide_true, cond_true, Int.natCast_nonneg, Bool.and_self, Nat.zero_add, Int.toNat_natCast, List.length_set, h1, Nat.le_refl, List.set_set]
    rw [sub_len _ _ (by simp)]
    simp only [List.getD_eq_getElem?_getD, List.getElem?_set_self h1, Option.getD_some]
    rfl
theorem t_Leave_is (l : PP) (c now : Int) (hb : l.length ≤ 1048576) : S.token_Leave_is l c now = true := by simp [S.token_Leave_is, t_Leave l c now hb]
theorem t_Leave_o (l : PP) (c now : Int) (hb : l.length ≤ 1048576) : (S.token_Leave_o l c now).x0 = leaveL l c now := by simp [S.token_Leave_o, t_Leave l c now hb]
noncomputable def joinL (l : PP) (t c now : Int) : S.token_Join_T :=
  if MayL l ∧ 0 ≤ c ∧ 0 ≤ now ∧ fI l (pConn c) = -1 then
    match l.findIdx? (pTok t) with
    | none => ⟨[], 0, 10⟩
    | some j => if (l.getD j (dflt .pass)).conn = -1 ∧ pTime now (l.getD j (dflt .pass)) = false then ⟨l.set j (updP c 0 (l.getD j (dflt .pass))), (l.getD j (dflt .pass)).sess, 0⟩ else ⟨[], 0, 10⟩
  else ⟨[], 0, 1⟩
theorem t_Join (l : PP) (t c now : Int) (hb : l.length ≤ 1048576) : S.token_Join l t c now = some (joinL l t c now) := by
  unfold S.token_Join S.token_Join_R joinL
  simp only [DT.run_br, DT.run_leaf, DT.run_fail, t_Find_is l c hb, t_Find_o l c hb, t_Clone_is l hb, t_Clone_o l hb, cond_true, t_xneI, t_xeqI, xdec, xnot, t_May_is l hb, t_May_o l hb, t_byToken_o, t_at_token_is l _ hb, t_at_token_o l _ hb, t_byTime_1_is, t_byTime_1_o, t_byTime_o]
  by_cases hm : MayL l
  · by_cases hc : c < 0
    · have hc' : ¬ 0 ≤ c := by omega
      simp [hm, hc, hc']
    · by_cases hn : now < 0
      · have hn' : ¬ 0 ≤ now := by omega
        simp [hm, hc, hn, hn']
      · have hc' : 0 ≤ c := by omega
        have hn' : 0 ≤ now := by omega
        by_cases hf : fI l (pConn c) = -1
        · simp only [hm, hc, hn, hf, hc', hn', decide_true, decide_false, Bool.not_true, cond_false, cond_true, ne_eq, not_true, and_self, if_true]
          unfold fI
          cases h : l.findIdx? (pTok t) with
          | none => simp
          | some j =>
            obtain ⟨h1, h2, _⟩ := List.findIdx?_eq_some_iff_getElem.1 h
            have h3 : ¬ (j : Int) = -1 := by omega
            have h4 : (j : Int) < (l.length : Int) := by omega
            simp only [h3, h4, decide_false, cond_false, Int.natCast_nonneg, decide_true, Bool.and_self, cond_true, Nat.zero_add, Int.toNat_natCast, List.length_set, h1, Nat.le_refl, List.set_set]
            rw [sub_len _ _ (by simp)]
            simp only [List.getD_eq_getElem?_getD, List.getElem?_set_self h1, Option.getD_some]
            unfold pTime
            by_cases h5 : ((l[j]?).getD (dflt .pass)).conn = -1
            · by_cases h6 : IntKind.i64.wrap (((l[j]?).getD (dflt .pass)).off + 20) ≤ now
              · simp [h5, h6]
              · simp only [h5, h6, not_true, decide_false, cond_false, decide_true, Bool.true_and, and_self, if_true]
                rfl
            · simp [h5]
        · simp [hm, hc, hn, hf]
  · simp [hm]
theorem t_Join_is (l : PP) (t c now : Int) (hb : l.length ≤ 1048576) : S.token_Join_is l t c now = true := by simp [S.token_Join_is, t_Join l t c now hb]
theorem t_Join_o (l : PP) (t c now : Int) (hb : l.length ≤ 1048576) : S.token_Join_o l t c now = joinL l t c now := by simp [S.token_Join_o, t_Join l t c now hb]
noncomputable def issueL (l : PP) (t s c : Int) : S.token_Issue_T :=
  if MayL l ∧ 0 ≤ s ∧ 0 ≤ c ∧ fI l (pConn c) = -1 ∧ fI l (pSess s) = -1 then
    if fI l (pTok t) = -1 then (if l.length = 4 then ⟨[], 7⟩ else ⟨l ++ [⟨t, s, c, 0⟩], 0⟩) else ⟨[], 4⟩
  else ⟨[], 1⟩
theorem t_Issue (l : PP) (t s c : Int) (hb : l.length ≤ 1000000) : S.token_Issue l t s c = some (issueL l t s c) := by
  have hb' : l.length ≤ 1048576 := by omega
  unfold S.token_Issue S.token_Issue_R issueL
  simp only [DT.run_br, DT.run_leaf, DT.run_fail, t_Clone_is l hb', t_Clone_o l hb', cond_true, t_xneI, t_xeqI, xdec, xnot, t_May_is l hb', t_May_o l hb', t_byToken_o, t_byConn_o, t_bySess_o, t_at_token_is l _ hb', t_at_token_o l _ hb', t_at_conn_is l _ hb', t_at_conn_o l _ hb', t_at_sess_is l _ hb', t_at_sess_o l _ hb']
  by_cases hm : MayL l
  · by_cases hs : s < 0
    · have hs' : ¬ 0 ≤ s := by omega
      simp [hm, hs, hs']
    · by_cases hc : c < 0
      · have hc' : ¬ 0 ≤ c := by omega
        simp [hm, hs, hc, hc']
      · have hc' : 0 ≤ c := by omega
        have hs' : 0 ≤ s := by omega
        by_cases hf : fI l (pConn c) = -1
        · by_cases hg : fI l (pSess s) = -1
          · by_cases ht : fI l (pTok t) = -1
            · by_cases h4 : l.length = 4
              · simp [hm, hs, hc, hs', hc', hf, hg, ht, h4]
              · have h4' : ¬ (l.length : Int) = 4 := by omega
                have h5 : l.length + 1 ≤ 1048576 := by omega
                simp only [hm, hs, hc, hs', hc', hf, hg, ht, h4, h4', h5, decide_true, decide_false, Bool.not_true, cond_false, cond_true, ne_eq, not_true, and_self, if_true, if_false, Nat.zero_add]
                rw [sub_len _ _ (by simp)]
                simp
            · simp [hm, hs, hc, hs', hc', hf, hg, ht]
          · simp [hm, hs, hc, hs', hc', hf, hg]
        · simp [hm, hs, hc, hs', hc', hf]
  · simp [hm]
theorem t_Issue_is (l : PP) (t s c : Int) (hb : l.length ≤ 1000000) : S.token_Issue_is l t s c = true := by simp [S.token_Issue_is, t_Issue l t s c hb]
theorem t_Issue_o (l : PP) (t s c : Int) (hb : l.length ≤ 1000000) : S.token_Issue_o l t s c = issueL l t s c := by simp [S.token_Issue_o, t_Issue l t s c hb]
end Go.Eng
