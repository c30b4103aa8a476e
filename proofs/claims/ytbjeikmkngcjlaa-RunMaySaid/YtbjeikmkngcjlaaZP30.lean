/- The law of runs that may be. -/
import Derived.Test.YtbjeikmkngcjlaaZP6
import Derived.Test.YtbjeikmkngcjlaaZP14
import Derived.Test.YtbjeikmkngcjlaaZL9
set_option linter.unusedVariables false
set_option linter.unusedSimpArgs false
namespace Go.Eng
open Go Go.Eng
theorem rm_c17 (q : Query) (y : Run) (g : Int) (hl : q.steps.length ≤ 1048576) (h0 : 0 < q.steps.length)
    (h : (g = 2 ∧ y.step = (q.steps.length : Int) - 1 ∧ y.n = (stp q.steps y.step).min) ∨ (g = 0 ∧ mayR q y)) : S.law11_RunMay_c17 g q.steps y.step y.n y.many = some ⟨true⟩ := by
  unfold S.law11_RunMay_c17 S.law11_RunMay_c17_R
  dsimp only
  rw [q_May_is q y hl, q_May_o q y hl]
  have w : IntKind.i64.wrap ((q.steps.length : Int) - 1) = (q.steps.length : Int) - 1 := e_wrap (by omega) (by omega)
  rcases h with ⟨h1, h2, h3⟩ | ⟨h1, h2⟩
  · subst h1
    have z1 : (0 : Int) ≤ y.step := by omega
    have z2 : y.step < (q.steps.length : Int) := by omega
    have z3 : y.n = (q.steps.getD y.step.toNat (dflt ET.step)).min := h3
    simp only [DT.run_br, DT.run_leaf, DT.run_fail, xdec, xwrap, e_xeqI, w, z1, z2, decide_true, cond_true, Bool.and_self, decide_eq_true h2, decide_eq_true z3]
  · subst h1
    simp only [DT.run_br, DT.run_leaf, DT.run_fail, xdec, xwrap, e_xeqI, h2, decide_true, cond_true]
    rfl
theorem rm_c10 (q : Query) (r : Run) (e : Evt) (hq : Made q) : S.law11_RunMay_c10 q.steps q.within q.agg q.aggStep q.aggF r.first r.at_ r.step r.n r.many r.agg r.bad e.name e.at_ e.v = some ⟨true⟩ := by
  have hl : q.steps.length ≤ 1048576 := by have := hq.l1; omega
  unfold S.law11_RunMay_c10 S.law11_RunMay_c10_R
  dsimp only
  rw [q_May_is q r hl, q_May_o q r hl, q_Next_is q r e hl, q_Next_o q r e hl]
  by_cases hr : mayR q r
  case neg => simp [DT.run_br, DT.run_leaf, xnot, hr]
  by_cases hm : r.many > 1099511627776
  · simp [DT.run_br, DT.run_leaf, xnot, xdec, hr, hm]
  have hstep := hr.2.1
  have hn := hr.2.2.2.2.1
  have hs0 := hr.1
  have hl1 := hq.l1
  have hst := hq.st r.step hs0 hstep
  have w1 : IntKind.i64.wrap (r.step + 1) = r.step + 1 := e_wrap (by omega) (by omega)
  have hn0 := hr.2.2.2.1
  have w2 : IntKind.i64.wrap (r.n + 1) = r.n + 1 := e_wrap (by omega) (by omega)
  rcases mayR_next (H := HB) hq hr (by omega) e with h | ⟨h1, h2, h3, h4, h5, h6, h7, h8⟩
  · rw [h]
    simp [DT.run_br, DT.run_leaf, xnot, xdec, hr, hm, outN, e_xeqI, xeqB]
  · have c := rm_c17 q (nextL HB q r e).1 (nextL HB q r e).2 hl hq.l0 h8
    generalize nextL HB q r e = p at *
    obtain ⟨y, g⟩ := p
    dsimp only [outN] at *
    have c1 : S.law11_RunMay_c17_is g q.steps y.step y.n y.many = true := by unfold S.law11_RunMay_c17_is; rw [c]; rfl
    have c2 : (S.law11_RunMay_c17_o g q.steps y.step y.n y.many).x0 = true := by unfold S.law11_RunMay_c17_o; rw [c]; rfl
    rw [c1, c2]
    have z4 : ¬ y.step < r.step := by omega
    have z5 : ¬ y.step > r.step + 1 := by omega
    simp only [DT.run_br, DT.run_leaf, DT.run_fail, xnot, xdec, xwrap, e_xeqI, e_xneI, w1, w2, hr, hm, h1, h2, h3, z4, z5, decide_true, decide_false, Bool.not_true, cond_true, cond_false, ne_eq, not_true]
    by_cases d : y.step = r.step
    · obtain ⟨d1, d2⟩ := h6 d
      have z6 : ¬ y.n < r.n := by omega
      have z7 : ¬ y.n > r.n + 1 := by omega
      have z8 : ¬ y.step > r.step := by omega
      simp only [d, z6, z7, decide_true, decide_false, cond_true, cond_false, show ¬ (r.step > r.step) by omega]
    · have z8 : y.step > r.step := by omega
      have z9 := h7 z8
      simp only [d, z8, z9, decide_true, decide_false, cond_true, cond_false, not_true]
theorem law_RunMay (q : Query) (r : Run) (e : Evt) (x : Int) (wq : wfL wfStep q.steps) :
    S.law11_RunMay q.steps q.within q.agg q.aggStep q.aggF r.first r.at_ r.step r.n r.many r.agg r.bad e.name e.at_ e.v x = some ⟨true⟩ := by
  unfold S.law11_RunMay S.law11_RunMay_R; dsimp only
  simp only [DT.run_br, DT.run_leaf, DT.run_fail, q_awake11_is, q_awake11_o, q_few09_is, q_few06_is, q_made_is q wq, xnot, Bool.not_true, cond_true, cond_false, xdec, xwrap]
  cases hf : (S.law09_Few_o q.steps).x0 with
  | false => simp
  | true =>
  have hl : q.steps.length ≤ 1048576 := by have := q_few09_o _ hf; omega
  cases hg : (S.law06_Few_o e.name e.v).x0 with
  | false => simp
  | true =>
  cases hm : (S.ref09_May_o q.steps q.within q.agg q.aggStep q.aggF).x0 with
  | false => simp
  | true =>
  have hq := q_made_o q wq hm
  have c := rm_c10 q r e hq
  have c1 : S.law11_RunMay_c10_is q.steps q.within q.agg q.aggStep q.aggF r.first r.at_ r.step r.n r.many r.agg r.bad e.name e.at_ e.v = true := by unfold S.law11_RunMay_c10_is; rw [c]; rfl
  have c2 : (S.law11_RunMay_c10_o q.steps q.within q.agg q.aggStep q.aggF r.first r.at_ r.step r.n r.many r.agg r.bad e.name e.at_ e.v).x0 = true := by unfold S.law11_RunMay_c10_o; rw [c]; rfl
  rw [q_Begin_is q e x hl, q_Begin_o q e x hl, c1, c2]
  have hb := beginL_may (H := HB) hq (e := e) (at' := x)
  generalize beginL HB q e x = p at *
  obtain ⟨y, g⟩ := p
  dsimp only [outB] at *
  rw [q_May_is q y hl, q_May_o q y hl]
  rcases hb with h | ⟨h1, h2, h3, h4, h5, h6⟩
  · subst h
    simp [e_xeqI, e_xneI]
  · by_cases d : g = 0
    · have := h6 d
      subst d
      simp [e_xeqI, e_xneI, this, h2, h3, h4, h5]
    · simp [e_xeqI, e_xneI, d, h2, h3, h4, h5]
end Go.Eng
