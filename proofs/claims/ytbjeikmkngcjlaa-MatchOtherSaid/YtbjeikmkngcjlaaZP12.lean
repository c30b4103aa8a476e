/- What is the same as itself; few stores, and logs. -/
import Derived.Test.YtbjeikmkngcjlaaZG7
import Derived.Test.YtbjeikmkngcjlaaZP11
set_option linter.unusedVariables false
set_option linter.unusedSimpArgs false
namespace Go.Eng
open Go Go.Eng
theorem i_wrap {i : Nat} {n : Nat} (h : i < n) (hb : n ≤ maxLen) : IntKind.i64.wrap ((i : Int) + 1) = ((i + 1 : Nat) : Int) := by
 have : n ≤ 2 ^ 63 - 1 := hb
 rw [e_wrap (by omega) (by omega)]; omega
theorem q_same08 (l : List (Ty .op)) (hb : l.length ≤ maxLen) : S.zqwq l l = some ⟨true⟩ := by
 have e : Lp (S.zqwq_4_r l l) (⟨0⟩ : S.zqwq_4_V) = some (1, ⟨l.length⟩) := by
  refine Lp_walk (fun k => (⟨(k : Int)⟩ : S.zqwq_4_V)) l.length 1 (fun i hi => ?_) ?_
  ·have h1 : ((i : Int) < (l.length : Int)) := by omega
   have h2 : (0 : Int) ≤ (i : Int) := by omega
   unfold S.zqwq_4_r S.zqwq_4_R; dsimp only
   simp [DT.run_br, DT.run_leaf, xdec, xwrap, e_xeqI, h1, h2, hi, i_wrap hi hb]
  ·unfold S.zqwq_4_r S.zqwq_4_R; simp [DT.run_br, DT.run_leaf, xdec]
 unfold S.zqwq S.zqwq_R; dsimp only
 simp [DT.run_br, DT.run_leaf, e_xneI, S.zqwq_4_j, Lp_j_of e]
theorem q_sameOp (l : List (Ty .op)) (hb : l.length ≤ maxLen) : S.zsxf l l = some ⟨true⟩ := by
 have e : Lp (S.zsxf_4_r l l l.length) (⟨0⟩ : S.zsxf_4_V) = some (1, ⟨l.length⟩) := by
  refine Lp_walk (fun k => (⟨(k : Int)⟩ : S.zsxf_4_V)) l.length 1 (fun i hi => ?_) ?_
  ·have h1 : ((i : Int) < (l.length : Int)) := by omega
   have h2 : (0 : Int) ≤ (i : Int) := by omega
   unfold S.zsxf_4_r S.zsxf_4_R; dsimp only
   simp [DT.run_br, DT.run_leaf, xdec, xwrap, e_xeqI, h1, h2, hi, i_wrap hi hb]
  ·unfold S.zsxf_4_r S.zsxf_4_R; simp [DT.run_br, DT.run_leaf, xdec]
 unfold S.zsxf S.zsxf_R; dsimp only
 simp [DT.run_br, DT.run_leaf, e_xneI, S.zsxf_4_j, Lp_j_of e]
theorem q_sameE (l : List (Ty .op)) (hb : l.length ≤ maxLen) : S.zbrd l l = some ⟨true⟩ := by
 unfold S.zbrd S.zbrd_R
 simp [DT.run_br, DT.run_leaf, S.zsxf_is, S.zsxf_o, q_sameOp l hb]
theorem q_sameRun (l : List (Ty .run)) (hb : l.length ≤ maxLen) : S.zisi l l = some ⟨true⟩ := by
 have e : Lp (S.zisi_4_r l l l.length) (⟨0⟩ : S.zisi_4_V) = some (1, ⟨l.length⟩) := by
  refine Lp_walk (fun k => (⟨(k : Int)⟩ : S.zisi_4_V)) l.length 1 (fun i hi => ?_) ?_
  ·have h1 : ((i : Int) < (l.length : Int)) := by omega
   have h2 : (0 : Int) ≤ (i : Int) := by omega
   unfold S.zisi_4_r S.zisi_4_R; dsimp only
   simp [DT.run_br, DT.run_leaf, xdec, xwrap, e_xeqI, xeqB, h1, h2, hi, i_wrap hi hb]
  ·unfold S.zisi_4_r S.zisi_4_R; simp [DT.run_br, DT.run_leaf, xdec]
 unfold S.zisi S.zisi_R; dsimp only
 simp [DT.run_br, DT.run_leaf, e_xneI, S.zisi_4_j, Lp_j_of e]
theorem q_unlikeRun (l m : List (Ty .run)) (h : ¬ (l.length : Int) = m.length) : S.zisi l m = some ⟨false⟩ := by
 unfold S.zisi S.zisi_R; dsimp only
 simp only [DT.run_br, DT.run_leaf, e_xneI, ne_eq, h, not_false_eq_true, decide_true, cond_true]
theorem q_alike (x : Step) (hx : wfStep x) : S.zypm x.name x.ifs x.min x.max x.guard x.notName x.notIf x.name x.ifs x.min x.max x.guard x.notName x.notIf = some ⟨true⟩ := by
 obtain ⟨w1, w2, w3, w4, w5, w6⟩ := hx
 unfold S.zypm S.zypm_R
 simp [DT.run_br, DT.run_leaf, xdec, e_xeqI, S.zbrd_is, S.zbrd_o, q_sameE _ w2.1, q_sameE _ w6.1]
theorem q_sameSteps (l : List (Ty .step)) (hw : wfL wfStep l) : S.z4fy l l = some ⟨true⟩ := by
 have e : Lp (S.z4fy_4_r l l l.length) (⟨0⟩ : S.z4fy_4_V) = some (1, ⟨l.length⟩) := by
  refine Lp_walk (fun k => (⟨(k : Int)⟩ : S.z4fy_4_V)) l.length 1 (fun i hi => ?_) ?_
  ·have h1 : ((i : Int) < (l.length : Int)) := by omega
   have h2 : (0 : Int) ≤ (i : Int) := by omega
   have ha := q_alike l[i] (hw.2 _ (List.getElem_mem hi))
   have a1 : S.zypm_is l[i].name l[i].ifs l[i].min l[i].max l[i].guard l[i].notName l[i].notIf l[i].name l[i].ifs l[i].min l[i].max l[i].guard l[i].notName l[i].notIf = true := by simp [S.zypm_is, ha]
   have a2 : (S.zypm_o l[i].name l[i].ifs l[i].min l[i].max l[i].guard l[i].notName l[i].notIf l[i].name l[i].ifs l[i].min l[i].max l[i].guard l[i].notName l[i].notIf).x0 = true := by simp [S.zypm_o, ha]
   unfold S.z4fy_4_r S.z4fy_4_R; dsimp only
   rw [Int.toNat_natCast, getD_of l i _ hi, a1, a2]
   simp only [DT.run_br, DT.run_leaf, xdec, xwrap, xnot, h1, h2, i_wrap hi hw.1, decide_true, Bool.and_self, Bool.not_true, cond_true, cond_false]
  ·unfold S.z4fy_4_r S.z4fy_4_R; simp [DT.run_br, DT.run_leaf, xdec]
 unfold S.z4fy S.z4fy_R; dsimp only
 simp [DT.run_br, DT.run_leaf, e_xneI, S.z4fy_4_j, Lp_j_of e]
theorem q_sameQuery (q : Query) (hw : wfL wfStep q.steps) : S.zvst q.steps q.within q.agg q.aggStep q.aggF q.steps q.within q.agg q.aggStep q.aggF = some ⟨true⟩ := by
 unfold S.zvst S.zvst_R
 simp [DT.run_br, DT.run_leaf, e_xeqI, S.z4fy_is, S.z4fy_o, q_sameSteps _ hw]
theorem q_same09 (q : Query) (hw : wfL wfStep q.steps) : S.zix7 q.steps q.within q.agg q.aggStep q.aggF q.steps q.within q.agg q.aggStep q.aggF = some ⟨true⟩ := by
 have e : Lp (S.zix7_4_r q.steps q.steps) (⟨0⟩ : S.zix7_4_V) = some (1, ⟨q.steps.length⟩) := by
  refine Lp_walk (fun k => (⟨(k : Int)⟩ : S.zix7_4_V)) q.steps.length 1 (fun i hi => ?_) ?_
  ·have h1 : ((i : Int) < (q.steps.length : Int)) := by omega
   have h2 : (0 : Int) ≤ (i : Int) := by omega
   obtain ⟨w1, w2, w3, w4, w5, w6⟩ := hw.2 _ (List.getElem_mem hi)
   have a1 : S.zqwq_is q.steps[i].ifs q.steps[i].ifs = true := by simp [S.zqwq_is, q_same08 _ w2.1]
   have a2 : (S.zqwq_o q.steps[i].ifs q.steps[i].ifs).x0 = true := by simp [S.zqwq_o, q_same08 _ w2.1]
   have a3 : S.zqwq_is q.steps[i].notIf q.steps[i].notIf = true := by simp [S.zqwq_is, q_same08 _ w6.1]
   have a4 : (S.zqwq_o q.steps[i].notIf q.steps[i].notIf).x0 = true := by simp [S.zqwq_o, q_same08 _ w6.1]
   have a5 : ∀ b : Bool, (bif (b == b) then false else true) = false := by decide
   unfold S.zix7_4_r S.zix7_4_R; dsimp only
   rw [Int.toNat_natCast, getD_of q.steps i _ hi, a1, a2, a3, a4, a5]
   simp only [DT.run_br, DT.run_leaf, xdec, xwrap, xnot, e_xneI, ne_eq, not_true, h1, h2, i_wrap hi hw.1, decide_true, decide_false, Bool.and_self, Bool.not_true, cond_true, cond_false]
  ·unfold S.zix7_4_r S.zix7_4_R; simp [DT.run_br, DT.run_leaf, xdec]
 unfold S.zix7 S.zix7_R; dsimp only
 simp [DT.run_br, DT.run_leaf, e_xneI, S.zix7_4_j, Lp_j_of e]
theorem q_same13 (s : StoreL) (hw : wfL wfStep s.q.steps) (hr : s.r.length ≤ maxLen) : S.z2yo s.q.steps s.q.within s.q.agg s.q.aggStep s.q.aggF s.r s.over s.q.steps s.q.within s.q.agg s.q.aggStep s.q.aggF s.r s.over = some ⟨true⟩ := by
 have e : Lp (S.z2yo_5_r s.r s.r) (⟨0⟩ : S.z2yo_5_V) = some (1, ⟨s.r.length⟩) := by
  refine Lp_walk (fun k => (⟨(k : Int)⟩ : S.z2yo_5_V)) s.r.length 1 (fun i hi => ?_) ?_
  ·have h1 : ((i : Int) < (s.r.length : Int)) := by omega
   have h2 : (0 : Int) ≤ (i : Int) := by omega
   unfold S.z2yo_5_r S.z2yo_5_R; dsimp only
   simp [DT.run_br, DT.run_leaf, xdec, xwrap, e_xeqI, xeqB, h1, h2, hi, i_wrap hi hr]
  ·unfold S.z2yo_5_r S.z2yo_5_R; simp [DT.run_br, DT.run_leaf, xdec]
 unfold S.z2yo S.z2yo_R; dsimp only
 simp [DT.run_br, DT.run_leaf, e_xneI, xnot, S.zix7_is, S.zix7_o, q_same09 _ hw, S.z2yo_5_j, Lp_j_of e]
theorem q_same13_is (s : StoreL) (hw : wfL wfStep s.q.steps) (hr : s.r.length ≤ maxLen) : S.z2yo_is s.q.steps s.q.within s.q.agg s.q.aggStep s.q.aggF s.r s.over s.q.steps s.q.within s.q.agg s.q.aggStep s.q.aggF s.r s.over = true := by simp [S.z2yo_is, q_same13 s hw hr]
theorem q_same13_o (s : StoreL) (hw : wfL wfStep s.q.steps) (hr : s.r.length ≤ maxLen) : (S.z2yo_o s.q.steps s.q.within s.q.agg s.q.aggStep s.q.aggF s.r s.over s.q.steps s.q.within s.q.agg s.q.aggStep s.q.aggF s.r s.over).x0 = true := by simp [S.z2yo_o, q_same13 s hw hr]
theorem q_sameM (s t : StoreL) (hq : s.q = t.q) (ho : s.over = t.over) (hw : wfL wfStep s.q.steps) (hr : s.r = t.r ∧ s.r.length ≤ maxLen ∨ ¬ (s.r.length : Int) = t.r.length) :
    S.zi5w s.q.steps s.q.within s.q.agg s.q.aggStep s.q.aggF s.r s.over t.q.steps t.q.within t.q.agg t.q.aggStep t.q.aggF t.r t.over = some ⟨decide ((s.r.length : Int) = t.r.length)⟩ := by
 unfold S.zi5w S.zi5w_R
 rw [← hq, ← ho]
 rcases hr with ⟨h1, h2⟩ | h1
 ·rw [← h1]
  simp [DT.run_br, DT.run_leaf, e_xeqI, S.zvst_is, S.zvst_o, q_sameQuery _ hw, S.zisi_is, S.zisi_o, q_sameRun _ h2]
 ·simp [DT.run_br, DT.run_leaf, e_xeqI, S.zvst_is, S.zvst_o, q_sameQuery _ hw, S.zisi_is, S.zisi_o, q_unlikeRun _ _ h1]
  omega
theorem q_log (l : List (Ty .evt)) (n : Int) (hn : n ≤ 1000) : (S.zgwp_R l n).all (fun x => x.x0 = true → (l.length : Int) ≤ n) := by
 by_cases hb : (l.length : Int) > n
 ·unfold S.zgwp_R; try dsimp only
  simp [DT.all_br, DT.all_leaf, xdec, hb]
 obtain ⟨j, v', h1, h2⟩ := Lp_all (R := S.zgwp_4_R l) (r := S.zgwp_4_r l) (fun v => rfl) (fun v => 0 ≤ v.t5_ ∧ v.t5_ ≤ l.length) (fun j v => j = 0 ∨ j = 1) (fun v => ((l.length : Int) - v.t5_).toNat) (fun v hv => by
  unfold S.zgwp_4_R; try dsimp only
  simp only [DT.all_br, DT.all_leaf, DT.all_fail, Stp_none, Stp_some, xdec, xwrap, xnot, q_few06_is, decide_eq_true_eq, decide_eq_false_iff_not, Bool.and_eq_true, Bool.and_eq_false_iff, implies_true, or_true, true_or, and_true, true_and, reduceCtorEq, false_implies]
  intro g1
  refine ⟨?_, fun g2 => by omega⟩
  intros
  rw [e_wrap (by omega) (by omega)]
  omega) ⟨0⟩ ⟨Int.le_refl _, by simp⟩
 have k2 : (l.length : Int) ≤ n := by omega
 unfold S.zgwp_R; try dsimp only
 simp only [DT.all_br, DT.all_leaf, DT.all_fail, S.zgwp_4_j, Lp_j_of h1]
 rcases h2 with rfl | rfl <;> simp [k2]
theorem q_log_is (l : List (Ty .evt)) (n : Int) (hn : n ≤ 1000) : S.zgwp_is l n = true := DT.all_is (q_log l n hn)
theorem q_log_o (l : List (Ty .evt)) (n : Int) (hn : n ≤ 1000) : (S.zgwp_o l n).x0 = true → (l.length : Int) ≤ n := DT.all_o (q_log l n hn)
end Go.Eng
