/- What a query that is well made is: read off the reference. -/
import Derived.Test.YtbjeikmkngcjlaaZP4
import Derived.Test.YtbjeikmkngcjlaaZE3
set_option linter.unusedVariables false
set_option linter.unusedSimpArgs false
namespace Go.Eng
open Go Go.Eng
theorem q_name (s : ByteArray) (h : wfS s) : S.ztra_is s = true := by
 have hs : (s.size : Int) ≤ 9223372036854775807 := by have : s.size ≤ 2 ^ 63 - 1 := h; omega
 obtain ⟨j, v', h1, h2⟩ := Lp_all (R := S.ztra_2_R s) (r := S.ztra_2_r s) (fun v => rfl) (fun v => 0 ≤ v.t3_ ∧ v.t3_ ≤ s.size) (fun j v => j = 0 ∨ j = 1) (fun v => ((s.size : Int) - v.t3_).toNat) (fun v hv => by
  by_cases g : v.t3_ < (s.size : Int)
  ·have w : IntKind.i64.wrap (v.t3_ + 1) = v.t3_ + 1 := e_wrap (by omega) (by omega)
   have hI : (0 ≤ v.t3_ + 1 ∧ v.t3_ + 1 ≤ (s.size : Int)) ∧ ((s.size : Int) - (v.t3_ + 1)).toNat < ((s.size : Int) - v.t3_).toNat := by omega
   unfold S.ztra_2_R; dsimp only
   simp only [DT.all_br, DT.all_leaf, DT.all_fail, Stp_none, Stp_some, xdec, xwrap, w, g, hv.1, decide_true, Bool.and_self, hI, implies_true, true_or, or_true, and_self, reduceCtorEq, false_implies, Bool.true_eq_false]
  ·unfold S.ztra_2_R; dsimp only
   simp [DT.all_br, DT.all_leaf, DT.all_fail, Stp_some, xdec, g]) ⟨0⟩ ⟨Int.le_refl _, by simp⟩
 refine DT.all_is (P := fun _ => True) ?_
 unfold S.ztra_R; try dsimp only
 simp only [DT.all_br, DT.all_leaf, DT.all_fail, S.ztra_2_j, Lp_j_of h1]
 rcases h2 with rfl | rfl <;> simp
theorem q_val04 (a b : Int) (s : ByteArray) : S.zfbt_is a b s = true := DT.all_is (P := fun _ => True) (by
 unfold S.zfbt_R; try dsimp only
 simp only [DT.all_br, DT.all_leaf, DT.all_fail, implies_true, and_self])
theorem q_ops08 (l : List (Ty .op)) (h : l.length ≤ maxLen) : S.zcnl_is l = true := by
 have hs : (l.length : Int) ≤ 9223372036854775807 := by have : l.length ≤ 2 ^ 63 - 1 := h; omega
 obtain ⟨j, v', h1, h2⟩ := Lp_all (R := S.zcnl_2_R l) (r := S.zcnl_2_r l) (fun v => rfl) (fun v => 0 ≤ v.t3_ ∧ v.t3_ ≤ l.length) (fun j v => j = 0 ∨ j = 1) (fun v => ((l.length : Int) - v.t3_).toNat) (fun v hv => by
  by_cases g : v.t3_ < (l.length : Int)
  ·have w : IntKind.i64.wrap (v.t3_ + 1) = v.t3_ + 1 := e_wrap (by omega) (by omega)
   have hI : (0 ≤ v.t3_ + 1 ∧ v.t3_ + 1 ≤ (l.length : Int)) ∧ ((l.length : Int) - (v.t3_ + 1)).toNat < ((l.length : Int) - v.t3_).toNat := by omega
   unfold S.zcnl_2_R; dsimp only
   simp only [DT.all_br, DT.all_leaf, DT.all_fail, Stp_none, Stp_some, xdec, xwrap, w, g, hv.1, q_val04, decide_true, Bool.and_self, hI, implies_true, true_or, or_true, and_self, reduceCtorEq, false_implies, Bool.true_eq_false]
  ·unfold S.zcnl_2_R; dsimp only
   simp [DT.all_br, DT.all_leaf, DT.all_fail, Stp_some, xdec, g]) ⟨0⟩ ⟨Int.le_refl _, by simp⟩
 refine DT.all_is (P := fun _ => True) ?_
 unfold S.zcnl_R; try dsimp only
 simp only [DT.all_br, DT.all_leaf, DT.all_fail, S.zcnl_2_j, Lp_j_of h1]
 rcases h2 with rfl | rfl <;> simp
def stepOk (x : Step) (last : Bool) : Prop := 1 ≤ x.min ∧ x.min ≤ x.max ∧ x.max ≤ 4 ∧ (last = true → x.min = x.max)
theorem q_step09 (x : Step) (hx : wfStep x) (a b : Bool) : (S.zasc_R x.name x.ifs x.min x.max x.guard x.notName x.notIf a b).all (fun r => r.x0 = true → stepOk x b) := by
 obtain ⟨w1, w2, w3, w4, w5, w6⟩ := hx
 unfold S.zasc_R; dsimp only
 rw [q_name _ w1, q_name _ w5, q_ops08 _ w2.1, q_ops08 _ w6.1]
 by_cases c1 : x.min < 1
 ·simp [DT.all_br, DT.all_leaf, DT.all_fail, xdec, c1]
 by_cases c2 : x.max < x.min
 ·simp [DT.all_br, DT.all_leaf, DT.all_fail, xdec, c1, c2]
 by_cases c3 : x.max > 4
 ·simp [DT.all_br, DT.all_leaf, DT.all_fail, xdec, c1, c2, c3]
 by_cases c4 : b = true ∧ x.min ≠ x.max
 ·simp [DT.all_br, DT.all_leaf, DT.all_fail, xdec, c1, c2, c3, e_xneI, c4.1, c4.2]
 have ok : stepOk x b := ⟨by omega, by omega, by omega, fun h => by
  by_cases h2 : x.min = x.max
  ·exact h2
  ·exact absurd ⟨h, h2⟩ c4⟩
 simp only [DT.all_br, DT.all_leaf, DT.all_fail, ok, implies_true, and_self, reduceCtorEq, false_implies, Bool.true_eq_false]
theorem q_step09_is (x : Step) (hx : wfStep x) (a b : Bool) : S.zasc_is x.name x.ifs x.min x.max x.guard x.notName x.notIf a b = true := DT.all_is (q_step09 x hx a b)
theorem q_step09_o (x : Step) (hx : wfStep x) (a b : Bool) : (S.zasc_o x.name x.ifs x.min x.max x.guard x.notName x.notIf a b).x0 = true → stepOk x b := DT.all_o (q_step09 x hx a b)
theorem q_made (q : Query) (hw : wfL wfStep q.steps) : (S.zjar_R q.steps q.within q.agg q.aggStep q.aggF).all (fun r => r.x0 = true → Made q) := by
 by_cases c1 : (q.steps.length : Int) < 1
 ·unfold S.zjar_R; dsimp only
  simp [DT.all_br, DT.all_leaf, DT.all_fail, xdec, c1]
 by_cases c2 : (q.steps.length : Int) > 4
 ·unfold S.zjar_R; dsimp only
  simp [DT.all_br, DT.all_leaf, DT.all_fail, xdec, c1, c2]
 have wl : IntKind.i64.wrap ((q.steps.length : Int) - 1) = q.steps.length - 1 := e_wrap (by omega) (by omega)
 obtain ⟨j, v', h1, h2⟩ := Lp_all (R := S.zjar_5_R q.steps.length q.steps) (r := S.zjar_5_r q.steps.length q.steps) (fun v => rfl) (fun v => 0 ≤ v.t4_ ∧ v.t4_ ≤ q.steps.length ∧ ∀ i : Int, 0 ≤ i → i < v.t4_ → stepOk (stp q.steps i) (decide (i = (q.steps.length : Int) - 1))) (fun j v => j = 0 ∨ j = 1 ∧ ∀ i : Int, 0 ≤ i → i < q.steps.length → stepOk (stp q.steps i) (decide (i = (q.steps.length : Int) - 1))) (fun v => ((q.steps.length : Int) - v.t4_).toNat) (fun v hv => by
  obtain ⟨v1, v2, v3⟩ := hv
  by_cases g : v.t4_ < (q.steps.length : Int)
  ·have w : IntKind.i64.wrap (v.t4_ + 1) = v.t4_ + 1 := e_wrap (by omega) (by omega)
   have hm : ((q.steps.length : Int) - (v.t4_ + 1)).toNat < ((q.steps.length : Int) - v.t4_).toNat := by omega
   have hi : v.t4_.toNat < q.steps.length := by omega
   have hx : wfStep (stp q.steps v.t4_) := by
    unfold stp; rw [getD_of _ _ _ hi]; exact hw.2 _ (List.getElem_mem hi)
   have s1 := q_step09_is (stp q.steps v.t4_) hx (decide (v.t4_ = 0)) (decide (v.t4_ = (q.steps.length : Int) - 1))
   have s2 := q_step09_o (stp q.steps v.t4_) hx (decide (v.t4_ = 0)) (decide (v.t4_ = (q.steps.length : Int) - 1))
   have hst : q.steps.getD v.t4_.toNat (dflt ET.step) = stp q.steps v.t4_ := rfl
   unfold S.zjar_5_R; dsimp only
   rw [hst]
   simp only [DT.all_br, DT.all_leaf, DT.all_fail, Stp_none, Stp_some, xdec, xwrap, xnot, e_xeqI, wl, w, g, v1, s1, decide_true, Bool.and_self, true_or, implies_true, and_true, true_and, reduceCtorEq, false_implies, Bool.true_eq_false, forall_const, Bool.not_eq_false']
   intro ho
   refine ⟨⟨by omega, by omega, fun i i0 i1 => ?_⟩, hm⟩
   by_cases g2 : i < v.t4_
   ·exact v3 i i0 g2
   ·have : i = v.t4_ := by omega
    subst this
    exact s2 ho
  ·unfold S.zjar_5_R; dsimp only
   simp only [DT.all_br, DT.all_leaf, DT.all_fail, Stp_none, Stp_some, xdec, g, decide_false, reduceCtorEq, false_implies, true_and, forall_const, Bool.false_eq_true]
   exact .inr (fun i i0 i1 => v3 i i0 (by omega))) ⟨0⟩ ⟨Int.le_refl _, by simp, fun i i0 i1 => by dsimp only at i1; omega⟩
 unfold S.zjar_R; dsimp only
 simp only [DT.all_br, DT.all_leaf, DT.all_fail, S.zjar_5_j, Lp_j_of h1, xdec, decide_eq_true_eq, decide_eq_false_iff_not, reduceCtorEq, false_implies, implies_true, true_and, Bool.false_eq_true]
 intro d1 d2 d3 d4 d5 d6 d7 d8 d9 d10
 rcases h2 with rfl | ⟨rfl, h3⟩
 ·simp
 ·have : Made q := ⟨by omega, by omega, by omega, by omega, by omega, by omega, by omega, by omega, fun i i0 i1 => by
    obtain ⟨k1, k2, k3, k4⟩ := h3 i i0 i1
    exact ⟨k1, k2, k3, fun h => k4 (by simp [h])⟩⟩
  simp [this]
theorem q_made_is (q : Query) (hw : wfL wfStep q.steps) : S.zjar_is q.steps q.within q.agg q.aggStep q.aggF = true := DT.all_is (q_made q hw)
theorem q_made_o (q : Query) (hw : wfL wfStep q.steps) : (S.zjar_o q.steps q.within q.agg q.aggStep q.aggF).x0 = true → Made q := DT.all_o (q_made q hw)
end Go.Eng
