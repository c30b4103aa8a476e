/- What is the same as itself; few stores, and logs. -/
import Derived.Test.YtbjeikmkngcjlaaZG7
import Derived.Test.YtbjeikmkngcjlaaZP11
set_option linter.unusedVariables false
set_option linter.unusedSimpArgs false
namespace Go.Eng
open Go Go.Eng
theorem i_wrap {i : Nat} {n : Nat} (h : i < n) (hb : n ≤ maxLen) : IntKind.i64.wrap ((i : Int) + 1) = ((i + 1 : Nat) : Int) := by
  have : n ≤ 2 ^ 63 - 1 := hb
  rw [e_wrap (by omega) (by omega)]; omega
theorem q_same08 (l : List (Ty .op)) (hb : l.length ≤ maxLen) : S.ref08_Same l l = some ⟨true⟩ := by
  have e : Lp (S.ref08_Same_4_r l l) (⟨0⟩ : S.ref08_Same_4_V) = some (1, ⟨l.length⟩) := by
    refine Lp_walk (fun k => (⟨(k : Int)⟩ : S.ref08_Same_4_V)) l.length 1 (fun i hi => ?_) ?_
    · have h1 : ((i : Int) < (l.length : Int)) := by omega
      have h2 : (0 : Int) ≤ (i : Int) := by omega
      unfold S.ref08_Same_4_r S.ref08_Same_4_R; dsimp only
      simp [DT.run_br, DT.run_leaf, xdec, xwrap, e_xeqI, h1, h2, hi, i_wrap hi hb]
    · unfold S.ref08_Same_4_r S.ref08_Same_4_R; simp [DT.run_br, DT.run_leaf, xdec]
  unfold S.ref08_Same S.ref08_Same_R; dsimp only
  simp [DT.run_br, DT.run_leaf, e_xneI, S.ref08_Same_4_j, Lp_j_of e]
theorem q_sameOp (l : List (Ty .op)) (hb : l.length ≤ maxLen) : S.slices_Equal_Op l l = some ⟨true⟩ := by
  have e : Lp (S.slices_Equal_Op_4_r l l l.length) (⟨0⟩ : S.slices_Equal_Op_4_V) = some (1, ⟨l.length⟩) := by
    refine Lp_walk (fun k => (⟨(k : Int)⟩ : S.slices_Equal_Op_4_V)) l.length 1 (fun i hi => ?_) ?_
    · have h1 : ((i : Int) < (l.length : Int)) := by omega
      have h2 : (0 : Int) ≤ (i : Int) := by omega
      unfold S.slices_Equal_Op_4_r S.slices_Equal_Op_4_R; dsimp only
      simp [DT.run_br, DT.run_leaf, xdec, xwrap, e_xeqI, h1, h2, hi, i_wrap hi hb]
    · unfold S.slices_Equal_Op_4_r S.slices_Equal_Op_4_R; simp [DT.run_br, DT.run_leaf, xdec]
  unfold S.slices_Equal_Op S.slices_Equal_Op_R; dsimp only
  simp [DT.run_br, DT.run_leaf, e_xneI, S.slices_Equal_Op_4_j, Lp_j_of e]
theorem q_sameE (l : List (Ty .op)) (hb : l.length ≤ maxLen) : S.expr_Same l l = some ⟨true⟩ := by
  unfold S.expr_Same S.expr_Same_R
  simp [DT.run_br, DT.run_leaf, S.slices_Equal_Op_is, S.slices_Equal_Op_o, q_sameOp l hb]
theorem q_sameRun (l : List (Ty .run)) (hb : l.length ≤ maxLen) : S.slices_Equal_Run l l = some ⟨true⟩ := by
  have e : Lp (S.slices_Equal_Run_4_r l l l.length) (⟨0⟩ : S.slices_Equal_Run_4_V) = some (1, ⟨l.length⟩) := by
    refine Lp_walk (fun k => (⟨(k : Int)⟩ : S.slices_Equal_Run_4_V)) l.length 1 (fun i hi => ?_) ?_
    · have h1 : ((i : Int) < (l.length : Int)) := by omega
      have h2 : (0 : Int) ≤ (i : Int) := by omega
      unfold S.slices_Equal_Run_4_r S.slices_Equal_Run_4_R; dsimp only
      simp [DT.run_br, DT.run_leaf, xdec, xwrap, e_xeqI, xeqB, h1, h2, hi, i_wrap hi hb]
    · unfold S.slices_Equal_Run_4_r S.slices_Equal_Run_4_R; simp [DT.run_br, DT.run_leaf, xdec]
  unfold S.slices_Equal_Run S.slices_Equal_Run_R; dsimp only
  simp [DT.run_br, DT.run_leaf, e_xneI, S.slices_Equal_Run_4_j, Lp_j_of e]
theorem q_unlikeRun (l m : List (Ty .run)) (h : ¬ (l.length : Int) = m.length) : S.slices_Equal_Run l m = some ⟨false⟩ := by
  unfold S.slices_Equal_Run S.slices_Equal_Run_R; dsimp only
  simp only [DT.run_br, DT.run_leaf, e_xneI, ne_eq, h, not_false_eq_true, decide_true, cond_true]
theorem q_alike (x : Step) (hx : wfStep x) : S.query_alike x.name x.ifs x.min x.max x.guard x.notName x.notIf x.name x.ifs x.min x.max x.guard x.notName x.notIf = some ⟨true⟩ := by
  obtain ⟨w1, w2, w3, w4, w5, w6⟩ := hx
  unfold S.query_alike S.query_alike_R
  simp [DT.run_br, DT.run_leaf, xdec, e_xeqI, S.expr_Same_is, S.expr_Same_o, q_sameE _ w2.1, q_sameE _ w6.1]
theorem q_sameSteps (l : List (Ty .step)) (hw : wfL wfStep l) : S.EqualFunc_Step l l = some ⟨true⟩ := by
  have e : Lp (S.EqualFunc_Step_4_r l l l.length) (⟨0⟩ : S.EqualFunc_Step_4_V) = some (1, ⟨l.length⟩) := by
    refine Lp_walk (fun k => (⟨(k : Int)⟩ : S.EqualFunc_Step_4_V)) l.length 1 (fun i hi => ?_) ?_
    · have h1 : ((i : Int) < (l.length : Int)) := by omega
      have h2 : (0 : Int) ≤ (i : Int) := by omega
      have ha := q_alike l[i] (hw.2 _ (List.getElem_mem hi))
      have a1 : S.query_alike_is l[i].name l[i].ifs l[i].min l[i].max l[i].guard l[i].notName l[i].notIf l[i].name l[i].ifs l[i].min l[i].max l[i].guard l[i].notName l[i].notIf = true := by simp [S.query_alike_is, ha]
      have a2 : (S.query_alike_o l[i].name l[i].ifs l[i].min l[i].max l[i].guard l[i].notName l[i].notIf l[i].name l[i].ifs l[i].min l[i].max l[i].guard l[i].notName l[i].notIf).x0 = true := by simp [S.query_alike_o, ha]
      unfold S.EqualFunc_Step_4_r S.EqualFunc_Step_4_R; dsimp only
      rw [Int.toNat_natCast, getD_of l i _ hi, a1, a2]
      simp only [DT.run_br, DT.run_leaf, xdec, xwrap, xnot, h1, h2, i_wrap hi hw.1, decide_true, Bool.and_self, Bool.not_true, cond_true, cond_false]
    · unfold S.EqualFunc_Step_4_r S.EqualFunc_Step_4_R; simp [DT.run_br, DT.run_leaf, xdec]
  unfold S.EqualFunc_Step S.EqualFunc_Step_R; dsimp only
  simp [DT.run_br, DT.run_leaf, e_xneI, S.EqualFunc_Step_4_j, Lp_j_of e]
theorem q_sameQuery (q : Query) (hw : wfL wfStep q.steps) : S.query_Same q.steps q.within q.agg q.aggStep q.aggF q.steps q.within q.agg q.aggStep q.aggF = some ⟨true⟩ := by
  unfold S.query_Same S.query_Same_R
  simp [DT.run_br, DT.run_leaf, e_xeqI, S.EqualFunc_Step_is, S.EqualFunc_Step_o, q_sameSteps _ hw]
theorem q_same09 (q : Query) (hw : wfL wfStep q.steps) : S.ref09_Same q.steps q.within q.agg q.aggStep q.aggF q.steps q.within q.agg q.aggStep q.aggF = some ⟨true⟩ := by
  have e : Lp (S.ref09_Same_4_r q.steps q.steps) (⟨0⟩ : S.ref09_Same_4_V) = some (1, ⟨q.steps.length⟩) := by
    refine Lp_walk (fun k => (⟨(k : Int)⟩ : S.ref09_Same_4_V)) q.steps.length 1 (fun i hi => ?_) ?_
    · have h1 : ((i : Int) < (q.steps.length : Int)) := by omega
      have h2 : (0 : Int) ≤ (i : Int) := by omega
      obtain ⟨w1, w2, w3, w4, w5, w6⟩ := hw.2 _ (List.getElem_mem hi)
      have a1 : S.ref08_Same_is q.steps[i].ifs q.steps[i].ifs = true := by simp [S.ref08_Same_is, q_same08 _ w2.1]
      have a2 : (S.ref08_Same_o q.steps[i].ifs q.steps[i].ifs).x0 = true := by simp [S.ref08_Same_o, q_same08 _ w2.1]
      have a3 : S.ref08_Same_is q.steps[i].notIf q.steps[i].notIf = true := by simp [S.ref08_Same_is, q_same08 _ w6.1]
      have a4 : (S.ref08_Same_o q.steps[i].notIf q.steps[i].notIf).x0 = true := by simp [S.ref08_Same_o, q_same08 _ w6.1]
      have a5 : ∀ b : Bool, (bif (b == b) then false else true) = false := by decide
      unfold S.ref09_Same_4_r S.ref09_Same_4_R; dsimp only
      rw [Int.toNat_natCast, getD_of q.steps i _ hi, a1, a2, a3, a4, a5]
      simp only [DT.run_br, DT.run_leaf, xdec, xwrap, xnot, e_xneI, ne_eq, not_true, h1, h2, i_wrap hi hw.1, decide_true, decide_false, Bool.and_self, Bool.not_true, cond_true, cond_false]
    · unfold S.ref09_Same_4_r S.ref09_Same_4_R; simp [DT.run_br, DT.run_leaf, xdec]
  unfold S.ref09_Same S.ref09_Same_R; dsimp only
  simp [DT.run_br, DT.run_leaf, e_xneI, S.ref09_Same_4_j, Lp_j_of e]
theorem q_same13 (s : StoreL) (hw : wfL wfStep s.q.steps) (hr : s.r.length ≤ maxLen) : S.ref13_Same s.q.steps s.q.within s.q.agg s.q.aggStep s.q.aggF s.r s.over s.q.steps s.q.within s.q.agg s.q.aggStep s.q.aggF s.r s.over = some ⟨true⟩ := by
  have e : Lp (S.ref13_Same_5_r s.r s.r) (⟨0⟩ : S.ref13_Same_5_V) = some (1, ⟨s.r.length⟩) := by
    refine Lp_walk (fun k => (⟨(k : Int)⟩ : S.ref13_Same_5_V)) s.r.length 1 (fun i hi => ?_) ?_
    · have h1 : ((i : Int) < (s.r.length : Int)) := by omega
      have h2 : (0 : Int) ≤ (i : Int) := by omega
      unfold S.ref13_Same_5_r S.ref13_Same_5_R; dsimp only
      simp [DT.run_br, DT.run_leaf, xdec, xwrap, e_xeqI, xeqB, h1, h2, hi, i_wrap hi hr]
    · unfold S.ref13_Same_5_r S.ref13_Same_5_R; simp [DT.run_br, DT.run_leaf, xdec]
  unfold S.ref13_Same S.ref13_Same_R; dsimp only
  simp [DT.run_br, DT.run_leaf, e_xneI, xnot, S.ref09_Same_is, S.ref09_Same_o, q_same09 _ hw, S.ref13_Same_5_j, Lp_j_of e]
theorem q_same13_is (s : StoreL) (hw : wfL wfStep s.q.steps) (hr : s.r.length ≤ maxLen) : S.ref13_Same_is s.q.steps s.q.within s.q.agg s.q.aggStep s.q.aggF s.r s.over s.q.steps s.q.within s.q.agg s.q.aggStep s.q.aggF s.r s.over = true := by simp [S.ref13_Same_is, q_same13 s hw hr]
theorem q_same13_o (s : StoreL) (hw : wfL wfStep s.q.steps) (hr : s.r.length ≤ maxLen) : (S.ref13_Same_o s.q.steps s.q.within s.q.agg s.q.aggStep s.q.aggF s.r s.over s.q.steps s.q.within s.q.agg s.q.aggStep s.q.aggF s.r s.over).x0 = true := by simp [S.ref13_Same_o, q_same13 s hw hr]
theorem q_sameM (s t : StoreL) (hq : s.q = t.q) (ho : s.over = t.over) (hw : wfL wfStep s.q.steps) (hr : s.r = t.r ∧ s.r.length ≤ maxLen ∨ ¬ (s.r.length : Int) = t.r.length) :
    S.match_Same s.q.steps s.q.within s.q.agg s.q.aggStep s.q.aggF s.r s.over t.q.steps t.q.within t.q.agg t.q.aggStep t.q.aggF t.r t.over = some ⟨decide ((s.r.length : Int) = t.r.length)⟩ := by
  unfold S.match_Same S.match_Same_R
  rw [← hq, ← ho]
  rcases hr with ⟨h1, h2⟩ | h1
  · rw [← h1]
    simp [DT.run_br, DT.run_leaf, e_xeqI, S.query_Same_is, S.query_Same_o, q_sameQuery _ hw, S.slices_Equal_Run_is, S.slices_Equal_Run_o, q_sameRun _ h2]
  · simp [DT.run_br, DT.run_leaf, e_xeqI, S.query_Same_is, S.query_Same_o, q_sameQuery _ hw, S.slices_Equal_Run_is, S.slices_Equal_Run_o, q_unlikeRun _ _ h1]
    omega
theorem q_few13 (l : List (Ty .step)) (r : List (Ty .run)) : (S.law13_Few_R l r).all (fun x => x.x0 = true → l.length ≤ 8 ∧ r.length ≤ 10) := by
  unfold S.law13_Few_R
  simp only [DT.all_br, DT.all_leaf, DT.all_fail, q_few09_is, xdec, decide_eq_true_eq, reduceCtorEq, false_implies, implies_true, and_true, true_implies, Bool.true_eq_false, Bool.false_eq_true]
  intro h1 h2
  exact ⟨q_few09_o _ h1, by omega⟩
theorem q_few13_is (l : List (Ty .step)) (r : List (Ty .run)) : S.law13_Few_is l r = true := DT.all_is (q_few13 l r)
theorem q_few13_o (l : List (Ty .step)) (r : List (Ty .run)) : (S.law13_Few_o l r).x0 = true → l.length ≤ 8 ∧ r.length ≤ 10 := DT.all_o (q_few13 l r)
end Go.Eng
