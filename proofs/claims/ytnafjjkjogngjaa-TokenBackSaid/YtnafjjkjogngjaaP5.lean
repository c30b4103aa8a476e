/- What token's functions come to, in plain words. -/
import Derived.Test.YtnafjjkjogngjaaG4
import Derived.Test.YtnafjjkjogngjaaE41
set_option linter.unusedVariables false
set_option linter.unusedSimpArgs false
namespace Go.Eng
open Go Go.Eng
theorem t_xeqI (a b : Int) : xeqI a b = decide (a = b) := by rw [Bool.eq_iff_iff]; simp [xeqI]
theorem t_xneI (a b : Int) : xneI a b = decide (a ≠ b) := by rw [Bool.eq_iff_iff]; simp [xneI]
theorem t_wrap {n : Int} (h1 : -9223372036854775808 ≤ n) (h2 : n ≤ 9223372036854775807) : IntKind.i64.wrap n = n := by rw [IntKind.wrap_i64]; omega
theorem t_wrap1 {n : Nat} (h2 : n ≤ 1048576) : IntKind.i64.wrap ((n : Int) + 1) = ((n + 1 : Nat) : Int) := by rw [t_wrap (by omega) (by omega)]; omega
abbrev PP := List (Ty .pass)
def pConn (c : Int) (p : Pass) : Bool := decide (0 ≤ c) && decide (p.conn = c)
def pTok (t : Int) (p : Pass) : Bool := decide (p.token = t)
def pSess (s : Int) (p : Pass) : Bool := decide (p.sess = s)
def pTime (now : Int) (p : Pass) : Bool := decide (p.conn = -1) && decide (IntKind.i64.wrap (p.off + 20) ≤ now)
theorem t_byConn_1 (a c : Int) : S.token_byConn_1 a c = some ⟨decide (0 ≤ c) && decide (a = c)⟩ := by
  unfold S.token_byConn_1 S.token_byConn_1_R
  simp only [DT.run_br, DT.run_leaf, t_xeqI, xdec]
  by_cases h : c ≥ 0
  · have h' : 0 ≤ c := h
    simp [h, h']
  · have h' : ¬ 0 ≤ c := h
    simp [h, h']
theorem t_byToken_1 (a c : Int) : S.token_byToken_1 a c = some ⟨decide (a = c)⟩ := by
  unfold S.token_byToken_1 S.token_byToken_1_R
  simp only [DT.run_br, DT.run_leaf, t_xeqI, xdec]
theorem t_bySess_1 (a c : Int) : S.token_bySess_1 a c = some ⟨decide (a = c)⟩ := by
  unfold S.token_bySess_1 S.token_bySess_1_R
  simp only [DT.run_br, DT.run_leaf, t_xeqI, xdec]
theorem t_byTime_1 (a b c : Int) : S.token_byTime_1 a b c = some ⟨decide (a = -1) && decide (IntKind.i64.wrap (b + 20) ≤ c)⟩ := by
  unfold S.token_byTime_1 S.token_byTime_1_R
  simp only [DT.run_br, DT.run_leaf, t_xeqI, xdec, xwrap]
  by_cases h : a = -1 <;> simp [h]
theorem t_byConn_1_is (a c : Int) : S.token_byConn_1_is a c = true := by simp [S.token_byConn_1_is, t_byConn_1]
theorem t_byConn_1_o (a c : Int) : (S.token_byConn_1_o a c).x0 = (decide (0 ≤ c) && decide (a = c)) := by simp [S.token_byConn_1_o, t_byConn_1]
theorem t_byToken_1_is (a c : Int) : S.token_byToken_1_is a c = true := by simp [S.token_byToken_1_is, t_byToken_1]
theorem t_byToken_1_o (a c : Int) : (S.token_byToken_1_o a c).x0 = decide (a = c) := by simp [S.token_byToken_1_o, t_byToken_1]
theorem t_bySess_1_is (a c : Int) : S.token_bySess_1_is a c = true := by simp [S.token_bySess_1_is, t_bySess_1]
theorem t_bySess_1_o (a c : Int) : (S.token_bySess_1_o a c).x0 = decide (a = c) := by simp [S.token_bySess_1_o, t_bySess_1]
theorem t_byTime_1_is (a b c : Int) : S.token_byTime_1_is a b c = true := by simp [S.token_byTime_1_is, t_byTime_1]
theorem t_byTime_1_o (a b c : Int) : (S.token_byTime_1_o a b c).x0 = (decide (a = -1) && decide (IntKind.i64.wrap (b + 20) ≤ c)) := by simp [S.token_byTime_1_o, t_byTime_1]
theorem t_byConn_o (c : Int) : (S.token_byConn_o c).x0 = c := rfl
theorem t_byToken_o (c : Int) : (S.token_byToken_o c).x0 = c := rfl
theorem t_bySess_o (c : Int) : (S.token_bySess_o c).x0 = c := rfl
theorem t_byTime_o (c : Int) : (S.token_byTime_o c).x0 = c := rfl
/-- where the first one is -/
def fI (l : PP) (p : Pass → Bool) : Int := match l.findIdx? p with
  | some j => j
  | none => -1
theorem t_idx_conn_lp (l : PP) (c : Int) (hb : l.length ≤ 1048576) : Lp (S.IndexFunc_conn_2_r l c l.length) (⟨0⟩ : S.IndexFunc_conn_2_V) = match l.findIdx? (pConn c) with
    | some j => some (0, ⟨j⟩)
    | none => some (1, ⟨l.length⟩) := by
  refine Lp_idx (fun i => (⟨i⟩ : S.IndexFunc_conn_2_V)) l (pConn c) (fun i h => ?_) ?_
  · have h1 : ((i : Int) < (l.length : Int)) := by omega
    have h2 : (0 : Int) ≤ (i : Int) := by omega
    unfold S.IndexFunc_conn_2_r S.IndexFunc_conn_2_R
    simp only [DT.run_br, DT.run_leaf, DT.run_fail, xdec, xwrap, h1, h2, decide_true, Bool.and_self, cond_true, Int.toNat_natCast, getD_of l i _ h, t_byConn_1_is, t_byConn_1_o, t_wrap1 (show i ≤ 1048576 by omega)]
    show (bif pConn c l[i] then _ else _) = if pConn c l[i] = true then _ else _
    cases pConn c l[i] <;> rfl
  · unfold S.IndexFunc_conn_2_r S.IndexFunc_conn_2_R
    simp [DT.run_br, DT.run_leaf, xdec]
theorem t_idx_conn (l : PP) (c : Int) (hb : l.length ≤ 1048576) : S.IndexFunc_conn l c = some ⟨fI l (pConn c)⟩ := by
  have e := t_idx_conn_lp l c hb
  cases hf : l.findIdx? (pConn c) with
  | none =>
    rw [hf] at e
    simp only [S.IndexFunc_conn, S.IndexFunc_conn_R, DT.run_br, DT.run_leaf, DT.run_fail, S.IndexFunc_conn_2_j, S.IndexFunc_conn_2_v, Lp_j_of e, Lp_v_of e, fI, hf]
    rfl
  | some j =>
    rw [hf] at e
    simp only [S.IndexFunc_conn, S.IndexFunc_conn_R, DT.run_br, DT.run_leaf, DT.run_fail, S.IndexFunc_conn_2_j, S.IndexFunc_conn_2_v, Lp_j_of e, Lp_v_of e, fI, hf]
    rfl
theorem t_idx_conn_is (l : PP) (c : Int) (hb : l.length ≤ 1048576) : S.IndexFunc_conn_is l c = true := by simp [S.IndexFunc_conn_is, t_idx_conn l c hb]
theorem t_idx_conn_o (l : PP) (c : Int) (hb : l.length ≤ 1048576) : (S.IndexFunc_conn_o l c).x0 = fI l (pConn c) := by simp [S.IndexFunc_conn_o, t_idx_conn l c hb]
theorem t_at_conn (l : PP) (c : Int) (hb : l.length ≤ 1048576) : S.at_conn l c = some ⟨fI l (pConn c)⟩ := by
  unfold S.at_conn S.at_conn_R
  simp only [DT.run_br, DT.run_leaf, t_idx_conn_is l c hb, t_idx_conn_o l c hb, cond_true]
theorem t_at_conn_is (l : PP) (c : Int) (hb : l.length ≤ 1048576) : S.at_conn_is l c = true := by simp [S.at_conn_is, t_at_conn l c hb]
theorem t_at_conn_o (l : PP) (c : Int) (hb : l.length ≤ 1048576) : (S.at_conn_o l c).x0 = fI l (pConn c) := by simp [S.at_conn_o, t_at_conn l c hb]
theorem t_idx_token_lp (l : PP) (c : Int) (hb : l.length ≤ 1048576) : Lp (S.IndexFunc_token_2_r l c l.length) (⟨0⟩ : S.IndexFunc_token_2_V) = match l.findIdx? (pTok c) with
    | some j => some (0, ⟨j⟩)
    | none => some (1, ⟨l.length⟩) := by
  refine Lp_idx (fun i => (⟨i⟩ : S.IndexFunc_token_2_V)) l (pTok c) (fun i h => ?_) ?_
  · have h1 : ((i : Int) < (l.length : Int)) := by omega
    have h2 : (0 : Int) ≤ (i : Int) := by omega
    unfold S.IndexFunc_token_2_r S.IndexFunc_token_2_R
    simp only [DT.run_br, DT.run_leaf, DT.run_fail, xdec, xwrap, h1, h2, decide_true, Bool.and_self, cond_true, Int.toNat_natCast, getD_of l i _ h, t_byToken_1_is, t_byToken_1_o, t_wrap1 (show i ≤ 1048576 by omega)]
    show (bif pTok c l[i] then _ else _) = if pTok c l[i] = true then _ else _
    cases pTok c l[i] <;> rfl
  · unfold S.IndexFunc_token_2_r S.IndexFunc_token_2_R
    simp [DT.run_br, DT.run_leaf, xdec]
theorem t_idx_token (l : PP) (c : Int) (hb : l.length ≤ 1048576) : S.IndexFunc_token l c = some ⟨fI l (pTok c)⟩ := by
  have e := t_idx_token_lp l c hb
  cases hf : l.findIdx? (pTok c) with
  | none =>
    rw [hf] at e
    simp only [S.IndexFunc_token, S.IndexFunc_token_R, DT.run_br, DT.run_leaf, DT.run_fail, S.IndexFunc_token_2_j, S.IndexFunc_token_2_v, Lp_j_of e, Lp_v_of e, fI, hf]
    rfl
  | some j =>
    rw [hf] at e
    simp only [S.IndexFunc_token, S.IndexFunc_token_R, DT.run_br, DT.run_leaf, DT.run_fail, S.IndexFunc_token_2_j, S.IndexFunc_token_2_v, Lp_j_of e, Lp_v_of e, fI, hf]
    rfl
theorem t_idx_token_is (l : PP) (c : Int) (hb : l.length ≤ 1048576) : S.IndexFunc_token_is l c = true := by simp [S.IndexFunc_token_is, t_idx_token l c hb]
theorem t_idx_token_o (l : PP) (c : Int) (hb : l.length ≤ 1048576) : (S.IndexFunc_token_o l c).x0 = fI l (pTok c) := by simp [S.IndexFunc_token_o, t_idx_token l c hb]
theorem t_at_token (l : PP) (c : Int) (hb : l.length ≤ 1048576) : S.at_token l c = some ⟨fI l (pTok c)⟩ := by
  unfold S.at_token S.at_token_R
  simp only [DT.run_br, DT.run_leaf, t_idx_token_is l c hb, t_idx_token_o l c hb, cond_true]
theorem t_at_token_is (l : PP) (c : Int) (hb : l.length ≤ 1048576) : S.at_token_is l c = true := by simp [S.at_token_is, t_at_token l c hb]
theorem t_at_token_o (l : PP) (c : Int) (hb : l.length ≤ 1048576) : (S.at_token_o l c).x0 = fI l (pTok c) := by simp [S.at_token_o, t_at_token l c hb]
theorem t_idx_time_lp (l : PP) (c : Int) (hb : l.length ≤ 1048576) : Lp (S.IndexFunc_time_2_r l c l.length) (⟨0⟩ : S.IndexFunc_time_2_V) = match l.findIdx? (pTime c) with
    | some j => some (0, ⟨j⟩)
    | none => some (1, ⟨l.length⟩) := by
  refine Lp_idx (fun i => (⟨i⟩ : S.IndexFunc_time_2_V)) l (pTime c) (fun i h => ?_) ?_
  · have h1 : ((i : Int) < (l.length : Int)) := by omega
    have h2 : (0 : Int) ≤ (i : Int) := by omega
    unfold S.IndexFunc_time_2_r S.IndexFunc_time_2_R
    simp only [DT.run_br, DT.run_leaf, DT.run_fail, xdec, xwrap, h1, h2, decide_true, Bool.and_self, cond_true, Int.toNat_natCast, getD_of l i _ h, t_byTime_1_is, t_byTime_1_o, t_wrap1 (show i ≤ 1048576 by omega)]
    show (bif pTime c l[i] then _ else _) = if pTime c l[i] = true then _ else _
    cases pTime c l[i] <;> rfl
  · unfold S.IndexFunc_time_2_r S.IndexFunc_time_2_R
    simp [DT.run_br, DT.run_leaf, xdec]
theorem t_idx_time (l : PP) (c : Int) (hb : l.length ≤ 1048576) : S.IndexFunc_time l c = some ⟨fI l (pTime c)⟩ := by
  have e := t_idx_time_lp l c hb
  cases hf : l.findIdx? (pTime c) with
  | none =>
    rw [hf] at e
    simp only [S.IndexFunc_time, S.IndexFunc_time_R, DT.run_br, DT.run_leaf, DT.run_fail, S.IndexFunc_time_2_j, S.IndexFunc_time_2_v, Lp_j_of e, Lp_v_of e, fI, hf]
    rfl
  | some j =>
    rw [hf] at e
    simp only [S.IndexFunc_time, S.IndexFunc_time_R, DT.run_br, DT.run_leaf, DT.run_fail, S.IndexFunc_time_2_j, S.IndexFunc_time_2_v, Lp_j_of e, Lp_v_of e, fI, hf]
    rfl
theorem t_idx_time_is (l : PP) (c : Int) (hb : l.length ≤ 1048576) : S.IndexFunc_time_is l c = true := by simp [S.IndexFunc_time_is, t_idx_time l c hb]
theorem t_idx_time_o (l : PP) (c : Int) (hb : l.length ≤ 1048576) : (S.IndexFunc_time_o l c).x0 = fI l (pTime c) := by simp [S.IndexFunc_time_o, t_idx_time l c hb]
theorem t_idx_sess_lp (l : PP) (c : Int) (hb : l.length ≤ 1048576) : Lp (S.IndexFunc_sess_2_r l c l.length) (⟨0⟩ : S.IndexFunc_sess_2_V) = match l.findIdx? (pSess c) with
    | some j => some (0, ⟨j⟩)
    | none => some (1, ⟨l.length⟩) := by
  refine Lp_idx (fun i => (⟨i⟩ : S.IndexFunc_sess_2_V)) l (pSess c) (fun i h => ?_) ?_
  · have h1 : ((i : Int) < (l.length : Int)) := by omega
    have h2 : (0 : Int) ≤ (i : Int) := by omega
    unfold S.IndexFunc_sess_2_r S.IndexFunc_sess_2_R
    simp only [DT.run_br, DT.run_leaf, DT.run_fail, xdec, xwrap, h1, h2, decide_true, Bool.and_self, cond_true, Int.toNat_natCast, getD_of l i _ h, t_bySess_1_is, t_bySess_1_o, t_wrap1 (show i ≤ 1048576 by omega)]
    show (bif pSess c l[i] then _ else _) = if pSess c l[i] = true then _ else _
    cases pSess c l[i] <;> rfl
  · unfold S.IndexFunc_sess_2_r S.IndexFunc_sess_2_R
    simp [DT.run_br, DT.run_leaf, xdec]
theorem t_idx_sess (l : PP) (c : Int) (hb : l.length ≤ 1048576) : S.IndexFunc_sess l c = some ⟨fI l (pSess c)⟩ := by
  have e := t_idx_sess_lp l c hb
  cases hf : l.findIdx? (pSess c) with
  | none =>
    rw [hf] at e
    simp only [S.IndexFunc_sess, S.IndexFunc_sess_R, DT.run_br, DT.run_leaf, DT.run_fail, S.IndexFunc_sess_2_j, S.IndexFunc_sess_2_v, Lp_j_of e, Lp_v_of e, fI, hf]
    rfl
  | some j =>
    rw [hf] at e
    simp only [S.IndexFunc_sess, S.IndexFunc_sess_R, DT.run_br, DT.run_leaf, DT.run_fail, S.IndexFunc_sess_2_j, S.IndexFunc_sess_2_v, Lp_j_of e, Lp_v_of e, fI, hf]
    rfl
theorem t_idx_sess_is (l : PP) (c : Int) (hb : l.length ≤ 1048576) : S.IndexFunc_sess_is l c = true := by simp [S.IndexFunc_sess_is, t_idx_sess l c hb]
theorem t_idx_sess_o (l : PP) (c : Int) (hb : l.length ≤ 1048576) : (S.IndexFunc_sess_o l c).x0 = fI l (pSess c) := by simp [S.IndexFunc_sess_o, t_idx_sess l c hb]
theorem t_at_sess (l : PP) (c : Int) (hb : l.length ≤ 1048576) : S.at_sess l c = some ⟨fI l (pSess c)⟩ := by
  unfold S.at_sess S.at_sess_R
  simp only [DT.run_br, DT.run_leaf, t_idx_sess_is l c hb, t_idx_sess_o l c hb, cond_true]
theorem t_at_sess_is (l : PP) (c : Int) (hb : l.length ≤ 1048576) : S.at_sess_is l c = true := by simp [S.at_sess_is, t_at_sess l c hb]
theorem t_at_sess_o (l : PP) (c : Int) (hb : l.length ≤ 1048576) : (S.at_sess_o l c).x0 = fI l (pSess c) := by simp [S.at_sess_o, t_at_sess l c hb]

end Go.Eng
