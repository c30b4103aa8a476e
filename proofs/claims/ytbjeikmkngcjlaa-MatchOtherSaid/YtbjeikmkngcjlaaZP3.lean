/- What the parts of a run's step come to, in plain words. -/
import Derived.Test.YtbjeikmkngcjlaaZN3
import Derived.Test.YtbjeikmkngcjlaaZP2
set_option linter.unusedVariables false
set_option linter.unusedSimpArgs false
namespace Go.Eng
open Go Go.Eng
theorem q_holds (n : ByteArray) (a : Int) (v : List (Ty .val)) (l : List (Ty .op)) : (S.zvnj_R n a v l).all (fun r => l = [] → r.x0 = true) := by
 unfold S.zvnj_R; dsimp only
 rw [q_eval]
 cases l with
 | nil => simp [DT.all_br, DT.all_leaf, DT.all_fail, e_xeqI]
 | cons x l => simp [DT.all_br, DT.all_leaf, DT.all_fail]
theorem q_holds_is (n : ByteArray) (a : Int) (v : List (Ty .val)) (l : List (Ty .op)) : S.zvnj_is n a v l = true := DT.all_is (q_holds n a v l)
theorem q_holds_nil (n : ByteArray) (a : Int) (v : List (Ty .val)) : (S.zvnj_o n a v []).x0 = true := DT.all_o (q_holds n a v []) rfl
noncomputable def HB : HH := fun nm ifs e => decide (nm = e.name) && (S.zvnj_o e.name e.at_ e.v ifs).x0
theorem HB_plain (nm : ByteArray) (e : Evt) : HB nm [] e = decide (nm = e.name) := by
 have h : (S.zvnj_o e.name e.at_ e.v ([] : List Opn)).x0 = true := q_holds_nil e.name e.at_ e.v
 unfold HB
 rw [h]; simp
theorem HB_name {nm : ByteArray} {ifs : List Opn} {e : Evt} (h : nm ≠ e.name) : HB nm ifs e = false := by simp [HB, h]
theorem q_iHolds (nm : ByteArray) (ifs : List (Ty .op)) (en : ByteArray) (ea : Int) (ev : List (Ty .val)) : S.zh5h nm ifs en ea ev = some ⟨HB nm ifs ⟨en, ea, ev⟩⟩ := by
 unfold S.zh5h S.zh5h_R HB
 by_cases h : nm = en
 ·simp [DT.run_br, DT.run_leaf, xdec, h, q_holds_is]
 ·simp [DT.run_br, DT.run_leaf, xdec, h]
theorem q_takes (nm : ByteArray) (ifs : List (Ty .op)) (en : ByteArray) (ea : Int) (ev : List (Ty .val)) : S.z5c6 nm ifs en ea ev = some ⟨HB nm ifs ⟨en, ea, ev⟩⟩ := by
 unfold S.z5c6 S.z5c6_R
 simp [DT.run_br, DT.run_leaf, S.zh5h_is, S.zh5h_o, q_iHolds]
theorem q_forbids (g : Bool) (nm : ByteArray) (ifs : List (Ty .op)) (en : ByteArray) (ea : Int) (ev : List (Ty .val)) : S.zrsz g nm ifs en ea ev = some ⟨g && HB nm ifs ⟨en, ea, ev⟩⟩ := by
 unfold S.zrsz S.zrsz_R
 cases g <;> simp [DT.run_br, DT.run_leaf, S.zh5h_is, S.zh5h_o, q_iHolds]
theorem q_takes_is (nm : ByteArray) (ifs : List (Ty .op)) (en : ByteArray) (ea : Int) (ev : List (Ty .val)) : S.z5c6_is nm ifs en ea ev = true := by simp [S.z5c6_is, q_takes]
theorem q_takes_o (nm : ByteArray) (ifs : List (Ty .op)) (en : ByteArray) (ea : Int) (ev : List (Ty .val)) : (S.z5c6_o nm ifs en ea ev).x0 = HB nm ifs ⟨en, ea, ev⟩ := by simp [S.z5c6_o, q_takes]
theorem q_forbids_is (g : Bool) (nm : ByteArray) (ifs : List (Ty .op)) (en : ByteArray) (ea : Int) (ev : List (Ty .val)) : S.zrsz_is g nm ifs en ea ev = true := by simp [S.zrsz_is, q_forbids]
theorem q_forbids_o (g : Bool) (nm : ByteArray) (ifs : List (Ty .op)) (en : ByteArray) (ea : Int) (ev : List (Ty .val)) : (S.zrsz_o g nm ifs en ea ev).x0 = (g && HB nm ifs ⟨en, ea, ev⟩) := by simp [S.zrsz_o, q_forbids]
theorem q_late (q : Query) (r : Run) (e : Evt) : S.zfzb q.within r.at_ e.at_ = some ⟨lateL q r e⟩ := by
 unfold S.zfzb S.zfzb_R lateL
 by_cases h : q.within < 0
 ·simp [DT.run_br, DT.run_leaf, xdec, h]
 ·simp [DT.run_br, DT.run_leaf, xdec, xwrap, h]
theorem q_late_is (w a b : Int) : S.zfzb_is w a b = true := by
 have := q_late ⟨[], w, 0, 0, 0⟩ ⟨0, a, 0, 0, 0, 0, false⟩ ⟨ByteArray.empty, b, []⟩
 dsimp only at this
 simp [S.zfzb_is, this]
theorem q_late_o (q : Query) (r : Run) (e : Evt) : (S.zfzb_o q.within r.at_ e.at_).x0 = lateL q r e := by simp [S.zfzb_o, q_late]
theorem q_fate (q : Query) (r : Run) (hl : q.steps.length ≤ 1048576) (h0 : 0 ≤ r.step) : S.zahd q.steps r.step r.n = some ⟨fateL q r⟩ := by
 unfold S.zahd S.zahd_R fateL
 have w : IntKind.i64.wrap ((q.steps.length : Int) - 1) = q.steps.length - 1 := e_wrap (by omega) (by omega)
 by_cases h : r.step = (q.steps.length : Int) - 1
 ·have h1 : r.step < (q.steps.length : Int) := by omega
  by_cases h2 : r.n ≥ (stp q.steps r.step).min
  ·have h3 : r.n ≥ (q.steps.getD r.step.toNat (dflt ET.step)).min := h2
   simp only [DT.run_br, DT.run_leaf, DT.run_fail, xdec, xwrap, w, e_xeqI, h0, h1, h3, decide_true, Bool.and_self, cond_true]
   rw [if_pos ⟨h, h2⟩, decide_eq_true h]; rfl
  ·have h3 : ¬ r.n ≥ (q.steps.getD r.step.toNat (dflt ET.step)).min := h2
   simp only [DT.run_br, DT.run_leaf, DT.run_fail, xdec, xwrap, w, e_xeqI, h0, h1, h3, decide_true, decide_false, Bool.and_self, cond_true, cond_false]
   rw [if_neg (fun h => h2 h.2), decide_eq_true h]; rfl
 ·simp only [DT.run_br, DT.run_leaf, DT.run_fail, xdec, xwrap, w, e_xeqI, h, decide_false, cond_false]
  rw [if_neg (fun h2 => h2.1)]
theorem q_fate_is (l : List (Ty .step)) (s n : Int) (hl : l.length ≤ 1048576) (h0 : 0 ≤ s) : S.zahd_is l s n = true := by
 have := q_fate ⟨l, 0, 0, 0, 0⟩ ⟨0, 0, s, n, 0, 0, false⟩ hl h0
 dsimp only at this
 simp [S.zahd_is, this]
theorem q_fate_o (q : Query) (r : Run) (hl : q.steps.length ≤ 1048576) (h0 : 0 ≤ r.step) : (S.zahd_o q.steps r.step r.n).x0 = fateL q r := by simp [S.zahd_o, q_fate q r hl h0]
theorem q_sumR (a b : Int) : S.run_sum a b = some ⟨(sumL a b).1, (sumL a b).2⟩ := by
 unfold S.run_sum S.run_sum_R sumL
 have e : ∀ x y : Bool, (bif (x == y) then false else true) = decide (x ≠ y) := by decide
 simp only [DT.run_br, DT.run_leaf, xdec, xwrap, e]
 by_cases h : decide (IntKind.i64.wrap (a + b) > a) = decide (b > 0)
 ·rw [if_pos h]; simp [h]
 ·rw [if_neg h]; simp [h]
theorem q_sumR_is (a b : Int) : S.run_sum_is a b = true := by simp [S.run_sum_is, q_sumR]
theorem q_sumR_o (a b : Int) : S.run_sum_o a b = ⟨(sumL a b).1, (sumL a b).2⟩ := by simp [S.run_sum_o, q_sumR]
theorem q_least_o (a b : Int) : S.zmak_o a b = ⟨min a b, true⟩ := by
 have : (if b < a then b else a) = min a b := by rw [Int.min_def]; split <;> split <;> omega
 unfold S.zmak_o S.zmak S.zmak_R
 rw [this]; rfl
theorem q_most_o (a b : Int) : S.zrqv_o a b = ⟨max a b, true⟩ := by
 have : (if b > a then b else a) = max a b := by rw [Int.max_def]; split <;> split <;> omega
 unfold S.zrqv_o S.zrqv S.zrqv_R
 rw [this]; rfl
theorem q_told0 (st af r0 r1 r2 r3 r4 r5 : Int) (r6 : Bool) (v : List (Ty .val)) : S.told0 st af r0 r1 r2 r3 r4 r5 r6 v = some ⟨(toldL ⟨[], 0, 0, st, af⟩ ⟨r0, r1, r2, r3, r4, r5, r6⟩ v).first, (toldL ⟨[], 0, 0, st, af⟩ ⟨r0, r1, r2, r3, r4, r5, r6⟩ v).at_, (toldL ⟨[], 0, 0, st, af⟩ ⟨r0, r1, r2, r3, r4, r5, r6⟩ v).step, (toldL ⟨[], 0, 0, st, af⟩ ⟨r0, r1, r2, r3, r4, r5, r6⟩ v).n, (toldL ⟨[], 0, 0, st, af⟩ ⟨r0, r1, r2, r3, r4, r5, r6⟩ v).many, (toldL ⟨[], 0, 0, st, af⟩ ⟨r0, r1, r2, r3, r4, r5, r6⟩ v).agg, (toldL ⟨[], 0, 0, st, af⟩ ⟨r0, r1, r2, r3, r4, r5, r6⟩ v).bad⟩ := by
 unfold S.told0 S.told0_R toldL
 dsimp only
 by_cases h1 : r2 = st
 case neg => simp [DT.run_br, DT.run_leaf, DT.run_fail, e_xneI, e_xeqI, xdec, xwrap, xnot, q_sumR_is, q_sumR_o, q_least_o, q_most_o, h1]
 by_cases h2 : af < 0
 case pos => simp [DT.run_br, DT.run_leaf, DT.run_fail, e_xneI, e_xeqI, xdec, xwrap, xnot, q_sumR_is, q_sumR_o, q_least_o, q_most_o, h1, h2]
 by_cases h3 : af ≥ v.length
 case pos => simp [DT.run_br, DT.run_leaf, DT.run_fail, e_xneI, e_xeqI, xdec, xwrap, xnot, q_sumR_is, q_sumR_o, q_least_o, q_most_o, h1, h2, h3]
 have h2' : 0 ≤ af := by omega
 have h3' : af < v.length := by omega
 by_cases h4 : (v.getD af.toNat (dflt ET.val)).kind = 0
 case neg =>
  have h4' : ¬ (v.getD af.toNat (default : Val)).kind = 0 := h4
  simp [DT.run_br, DT.run_leaf, DT.run_fail, e_xneI, e_xeqI, xdec, xwrap, xnot, q_sumR_is, q_sumR_o, q_least_o, q_most_o, h1, h2, h3, h2', h3', h4, h4', -List.getD_eq_getElem?_getD]
 have h4' : (v.getD af.toNat (default : Val)).kind = 0 := h4
 have e5 : (v.getD af.toNat (dflt ET.val)).n = (v.getD af.toNat (default : Val)).n := rfl
 by_cases h5 : IntKind.i64.wrap (r4 + 1) = 1 <;> cases r6 <;> simp [DT.run_br, DT.run_leaf, DT.run_fail, e_xneI, e_xeqI, xdec, xwrap, xnot, q_sumR_is, q_sumR_o, q_least_o, q_most_o, h1, h2, h3, h2', h3', h4, h4', h5, e5, -List.getD_eq_getElem?_getD]
theorem q_told1 (st af r0 r1 r2 r3 r4 r5 : Int) (r6 : Bool) (v : List (Ty .val)) : S.told1 st af r0 r1 r2 r3 r4 r5 r6 v = some ⟨(toldL ⟨[], 0, 1, st, af⟩ ⟨r0, r1, r2, r3, r4, r5, r6⟩ v).first, (toldL ⟨[], 0, 1, st, af⟩ ⟨r0, r1, r2, r3, r4, r5, r6⟩ v).at_, (toldL ⟨[], 0, 1, st, af⟩ ⟨r0, r1, r2, r3, r4, r5, r6⟩ v).step, (toldL ⟨[], 0, 1, st, af⟩ ⟨r0, r1, r2, r3, r4, r5, r6⟩ v).n, (toldL ⟨[], 0, 1, st, af⟩ ⟨r0, r1, r2, r3, r4, r5, r6⟩ v).many, (toldL ⟨[], 0, 1, st, af⟩ ⟨r0, r1, r2, r3, r4, r5, r6⟩ v).agg, (toldL ⟨[], 0, 1, st, af⟩ ⟨r0, r1, r2, r3, r4, r5, r6⟩ v).bad⟩ := by
 unfold S.told1 S.told1_R toldL
 dsimp only
 by_cases h1 : r2 = st
 case neg => simp [DT.run_br, DT.run_leaf, DT.run_fail, e_xneI, e_xeqI, xdec, xwrap, xnot, q_sumR_is, q_sumR_o, q_least_o, q_most_o, h1]
 by_cases h2 : af < 0
 case pos => simp [DT.run_br, DT.run_leaf, DT.run_fail, e_xneI, e_xeqI, xdec, xwrap, xnot, q_sumR_is, q_sumR_o, q_least_o, q_most_o, h1, h2]
 by_cases h3 : af ≥ v.length
 case pos => simp [DT.run_br, DT.run_leaf, DT.run_fail, e_xneI, e_xeqI, xdec, xwrap, xnot, q_sumR_is, q_sumR_o, q_least_o, q_most_o, h1, h2, h3]
 have h2' : 0 ≤ af := by omega
 have h3' : af < v.length := by omega
 by_cases h4 : (v.getD af.toNat (dflt ET.val)).kind = 0
 case neg =>
  have h4' : ¬ (v.getD af.toNat (default : Val)).kind = 0 := h4
  simp [DT.run_br, DT.run_leaf, DT.run_fail, e_xneI, e_xeqI, xdec, xwrap, xnot, q_sumR_is, q_sumR_o, q_least_o, q_most_o, h1, h2, h3, h2', h3', h4, h4', -List.getD_eq_getElem?_getD]
 have h4' : (v.getD af.toNat (default : Val)).kind = 0 := h4
 have e5 : (v.getD af.toNat (dflt ET.val)).n = (v.getD af.toNat (default : Val)).n := rfl
 by_cases h5 : IntKind.i64.wrap (r4 + 1) = 1 <;> cases r6 <;> simp [DT.run_br, DT.run_leaf, DT.run_fail, e_xneI, e_xeqI, xdec, xwrap, xnot, q_sumR_is, q_sumR_o, q_least_o, q_most_o, h1, h2, h3, h2', h3', h4, h4', h5, e5, -List.getD_eq_getElem?_getD]
theorem q_told2 (st af r0 r1 r2 r3 r4 r5 : Int) (r6 : Bool) (v : List (Ty .val)) : S.told2 st af r0 r1 r2 r3 r4 r5 r6 v = some ⟨(toldL ⟨[], 0, 2, st, af⟩ ⟨r0, r1, r2, r3, r4, r5, r6⟩ v).first, (toldL ⟨[], 0, 2, st, af⟩ ⟨r0, r1, r2, r3, r4, r5, r6⟩ v).at_, (toldL ⟨[], 0, 2, st, af⟩ ⟨r0, r1, r2, r3, r4, r5, r6⟩ v).step, (toldL ⟨[], 0, 2, st, af⟩ ⟨r0, r1, r2, r3, r4, r5, r6⟩ v).n, (toldL ⟨[], 0, 2, st, af⟩ ⟨r0, r1, r2, r3, r4, r5, r6⟩ v).many, (toldL ⟨[], 0, 2, st, af⟩ ⟨r0, r1, r2, r3, r4, r5, r6⟩ v).agg, (toldL ⟨[], 0, 2, st, af⟩ ⟨r0, r1, r2, r3, r4, r5, r6⟩ v).bad⟩ := by
 unfold S.told2 S.told2_R toldL
 dsimp only
 by_cases h1 : r2 = st
 case neg => simp [DT.run_br, DT.run_leaf, DT.run_fail, e_xneI, e_xeqI, xdec, xwrap, xnot, q_sumR_is, q_sumR_o, q_least_o, q_most_o, h1]
 by_cases h2 : af < 0
 case pos => simp [DT.run_br, DT.run_leaf, DT.run_fail, e_xneI, e_xeqI, xdec, xwrap, xnot, q_sumR_is, q_sumR_o, q_least_o, q_most_o, h1, h2]
 by_cases h3 : af ≥ v.length
 case pos => simp [DT.run_br, DT.run_leaf, DT.run_fail, e_xneI, e_xeqI, xdec, xwrap, xnot, q_sumR_is, q_sumR_o, q_least_o, q_most_o, h1, h2, h3]
 have h2' : 0 ≤ af := by omega
 have h3' : af < v.length := by omega
 by_cases h4 : (v.getD af.toNat (dflt ET.val)).kind = 0
 case neg =>
  have h4' : ¬ (v.getD af.toNat (default : Val)).kind = 0 := h4
  simp [DT.run_br, DT.run_leaf, DT.run_fail, e_xneI, e_xeqI, xdec, xwrap, xnot, q_sumR_is, q_sumR_o, q_least_o, q_most_o, h1, h2, h3, h2', h3', h4, h4', -List.getD_eq_getElem?_getD]
 have h4' : (v.getD af.toNat (default : Val)).kind = 0 := h4
 have e5 : (v.getD af.toNat (dflt ET.val)).n = (v.getD af.toNat (default : Val)).n := rfl
 by_cases h5 : IntKind.i64.wrap (r4 + 1) = 1 <;> cases r6 <;> simp [DT.run_br, DT.run_leaf, DT.run_fail, e_xneI, e_xeqI, xdec, xwrap, xnot, q_sumR_is, q_sumR_o, q_least_o, q_most_o, h1, h2, h3, h2', h3', h4, h4', h5, e5, -List.getD_eq_getElem?_getD]
theorem q_toldp {ag : Int} (a0 : ¬ ag = 0) (a1 : ¬ ag = 1) (a2 : ¬ ag = 2) (st af r0 r1 r2 r3 r4 r5 : Int) (r6 : Bool) (v : List (Ty .val)) : S.toldp st af r0 r1 r2 r3 r4 r5 r6 v = some ⟨(toldL ⟨[], 0, ag, st, af⟩ ⟨r0, r1, r2, r3, r4, r5, r6⟩ v).first, (toldL ⟨[], 0, ag, st, af⟩ ⟨r0, r1, r2, r3, r4, r5, r6⟩ v).at_, (toldL ⟨[], 0, ag, st, af⟩ ⟨r0, r1, r2, r3, r4, r5, r6⟩ v).step, (toldL ⟨[], 0, ag, st, af⟩ ⟨r0, r1, r2, r3, r4, r5, r6⟩ v).n, (toldL ⟨[], 0, ag, st, af⟩ ⟨r0, r1, r2, r3, r4, r5, r6⟩ v).many, (toldL ⟨[], 0, ag, st, af⟩ ⟨r0, r1, r2, r3, r4, r5, r6⟩ v).agg, (toldL ⟨[], 0, ag, st, af⟩ ⟨r0, r1, r2, r3, r4, r5, r6⟩ v).bad⟩ := by
 unfold S.toldp S.toldp_R toldL
 dsimp only
 by_cases h1 : r2 = st
 case neg => simp [DT.run_br, DT.run_leaf, DT.run_fail, e_xneI, e_xeqI, xdec, xwrap, xnot, q_sumR_is, q_sumR_o, q_least_o, q_most_o, a0, a1, a2, h1]
 by_cases h2 : af < 0
 case pos => simp [DT.run_br, DT.run_leaf, DT.run_fail, e_xneI, e_xeqI, xdec, xwrap, xnot, q_sumR_is, q_sumR_o, q_least_o, q_most_o, a0, a1, a2, h1, h2]
 by_cases h3 : af ≥ v.length
 case pos => simp [DT.run_br, DT.run_leaf, DT.run_fail, e_xneI, e_xeqI, xdec, xwrap, xnot, q_sumR_is, q_sumR_o, q_least_o, q_most_o, a0, a1, a2, h1, h2, h3]
 have h2' : 0 ≤ af := by omega
 have h3' : af < v.length := by omega
 by_cases h4 : (v.getD af.toNat (dflt ET.val)).kind = 0
 case neg =>
  have h4' : ¬ (v.getD af.toNat (default : Val)).kind = 0 := h4
  simp [DT.run_br, DT.run_leaf, DT.run_fail, e_xneI, e_xeqI, xdec, xwrap, xnot, q_sumR_is, q_sumR_o, q_least_o, q_most_o, a0, a1, a2, h1, h2, h3, h2', h3', h4, h4', -List.getD_eq_getElem?_getD]
 have h4' : (v.getD af.toNat (default : Val)).kind = 0 := h4
 have e5 : (v.getD af.toNat (dflt ET.val)).n = (v.getD af.toNat (default : Val)).n := rfl
 by_cases h5 : IntKind.i64.wrap (r4 + 1) = 1 <;> cases r6 <;> simp [DT.run_br, DT.run_leaf, DT.run_fail, e_xneI, e_xeqI, xdec, xwrap, xnot, q_sumR_is, q_sumR_o, q_least_o, q_most_o, a0, a1, a2, h1, h2, h3, h2', h3', h4, h4', h5, e5, -List.getD_eq_getElem?_getD]
theorem q_toldn {ag : Int} (a0 : ¬ ag = 0) (a1 : ¬ ag = 1) (a2 : ¬ ag = 2) (st af r0 r1 r2 r3 r4 r5 : Int) (r6 : Bool) (v : List (Ty .val)) : S.toldn st af r0 r1 r2 r3 r4 r5 r6 v = some ⟨(toldL ⟨[], 0, ag, st, af⟩ ⟨r0, r1, r2, r3, r4, r5, r6⟩ v).first, (toldL ⟨[], 0, ag, st, af⟩ ⟨r0, r1, r2, r3, r4, r5, r6⟩ v).at_, (toldL ⟨[], 0, ag, st, af⟩ ⟨r0, r1, r2, r3, r4, r5, r6⟩ v).step, (toldL ⟨[], 0, ag, st, af⟩ ⟨r0, r1, r2, r3, r4, r5, r6⟩ v).n, (toldL ⟨[], 0, ag, st, af⟩ ⟨r0, r1, r2, r3, r4, r5, r6⟩ v).many, (toldL ⟨[], 0, ag, st, af⟩ ⟨r0, r1, r2, r3, r4, r5, r6⟩ v).agg, (toldL ⟨[], 0, ag, st, af⟩ ⟨r0, r1, r2, r3, r4, r5, r6⟩ v).bad⟩ := by
 unfold S.toldn S.toldn_R toldL
 dsimp only
 by_cases h1 : r2 = st
 case neg => simp [DT.run_br, DT.run_leaf, DT.run_fail, e_xneI, e_xeqI, xdec, xwrap, xnot, q_sumR_is, q_sumR_o, q_least_o, q_most_o, a0, a1, a2, h1]
 by_cases h2 : af < 0
 case pos => simp [DT.run_br, DT.run_leaf, DT.run_fail, e_xneI, e_xeqI, xdec, xwrap, xnot, q_sumR_is, q_sumR_o, q_least_o, q_most_o, a0, a1, a2, h1, h2]
 by_cases h3 : af ≥ v.length
 case pos => simp [DT.run_br, DT.run_leaf, DT.run_fail, e_xneI, e_xeqI, xdec, xwrap, xnot, q_sumR_is, q_sumR_o, q_least_o, q_most_o, a0, a1, a2, h1, h2, h3]
 have h2' : 0 ≤ af := by omega
 have h3' : af < v.length := by omega
 by_cases h4 : (v.getD af.toNat (dflt ET.val)).kind = 0
 case neg =>
  have h4' : ¬ (v.getD af.toNat (default : Val)).kind = 0 := h4
  simp [DT.run_br, DT.run_leaf, DT.run_fail, e_xneI, e_xeqI, xdec, xwrap, xnot, q_sumR_is, q_sumR_o, q_least_o, q_most_o, a0, a1, a2, h1, h2, h3, h2', h3', h4, h4', -List.getD_eq_getElem?_getD]
 have h4' : (v.getD af.toNat (default : Val)).kind = 0 := h4
 have e5 : (v.getD af.toNat (dflt ET.val)).n = (v.getD af.toNat (default : Val)).n := rfl
 by_cases h5 : IntKind.i64.wrap (r4 + 1) = 1 <;> cases r6 <;> simp [DT.run_br, DT.run_leaf, DT.run_fail, e_xneI, e_xeqI, xdec, xwrap, xnot, q_sumR_is, q_sumR_o, q_least_o, q_most_o, a0, a1, a2, h1, h2, h3, h2', h3', h4, h4', h5, e5, -List.getD_eq_getElem?_getD]
theorem q_told (q : Query) (r : Run) (v : List (Ty .val)) : S.told_is q.agg q.aggStep q.aggF r.first r.at_ r.step r.n r.many r.agg r.bad v = true ∧ S.told_o q.agg q.aggStep q.aggF r.first r.at_ r.step r.n r.many r.agg r.bad v = toldL q r v := by
 obtain ⟨st, wi, ag, as', af⟩ := q
 obtain ⟨r0, r1, r2, r3, r4, r5, r6⟩ := r
 match ag with
 | .ofNat 0 => exact ⟨by show S.told0_is _ _ _ _ _ _ _ _ _ _ = true; simp [S.told0_is, q_told0], by show Run.mk _ _ _ _ _ _ _ = _; simp only [S.told0_o, q_told0, Option.getD_some]; rfl⟩
 | .ofNat 1 => exact ⟨by show S.told1_is _ _ _ _ _ _ _ _ _ _ = true; simp [S.told1_is, q_told1], by show Run.mk _ _ _ _ _ _ _ = _; simp only [S.told1_o, q_told1, Option.getD_some]; rfl⟩
 | .ofNat 2 => exact ⟨by show S.told2_is _ _ _ _ _ _ _ _ _ _ = true; simp [S.told2_is, q_told2], by show Run.mk _ _ _ _ _ _ _ = _; simp only [S.told2_o, q_told2, Option.getD_some]; rfl⟩
 | .ofNat (n + 3) => exact ⟨by show S.toldp_is _ _ _ _ _ _ _ _ _ _ = true; simp [S.toldp_is, q_toldp (ag := .ofNat (n + 3)) (by intro h; injection h with h; omega) (by intro h; injection h with h; omega) (by intro h; injection h with h; omega)], by show Run.mk _ _ _ _ _ _ _ = _; simp only [S.toldp_o, q_toldp (ag := .ofNat (n + 3)) (by intro h; injection h with h; omega) (by intro h; injection h with h; omega) (by intro h; injection h with h; omega), Option.getD_some]; rfl⟩
 | .negSucc n => exact ⟨by show S.toldn_is _ _ _ _ _ _ _ _ _ _ = true; simp [S.toldn_is, q_toldn (ag := .negSucc n) (by intro h; cases h) (by intro h; cases h) (by intro h; cases h)], by show Run.mk _ _ _ _ _ _ _ = _; simp only [S.toldn_o, q_toldn (ag := .negSucc n) (by intro h; cases h) (by intro h; cases h) (by intro h; cases h), Option.getD_some]; rfl⟩
end Go.Eng
