/- The laws of runs: an event that no step takes. -/
import Derived.Test.YtbjeikmkngcjlaaZP6
import Derived.Test.YtbjeikmkngcjlaaZL14
set_option linter.unusedVariables false
set_option linter.unusedSimpArgs false
namespace Go.Eng
open Go Go.Eng
/-- whether a name is of a step, or forbidden by one -/
def named (l : List Step) (n : ByteArray) : Prop := ∃ i : Int, 0 ≤ i ∧ i < l.length ∧ ((stp l i).name = n ∨ (stp l i).guard = true ∧ (stp l i).notName = n)
theorem unnamed {l : List Step} {e : Evt} (h : ∀ i : Int, 0 ≤ i → i < l.length → ¬ (stp l i).name = e.name ∧ ¬ ((stp l i).guard = true ∧ (stp l i).notName = e.name)) :
    ∀ i : Int, 0 ≤ i → i < l.length → takesL HB (stp l i) e = false ∧ forbidsL HB (stp l i) e = false := by
  intro i h0 h1
  obtain ⟨a, b⟩ := h i h0 h1
  refine ⟨HB_name a, ?_⟩
  unfold forbidsL
  cases hg : (stp l i).guard
  · rfl
  · rw [HB_name (fun h2 => b ⟨hg, h2⟩)]; rfl
theorem twice_loop (l : List (Ty .step)) (n : ByteArray) (hb : l.length ≤ 1048576) : ∃ j v', Lp (S.law11_RunTwice_8_r l n) ⟨0⟩ = some (j, v') ∧
    (j = 0 ∨ j = 1 ∧ ∀ i : Int, 0 ≤ i → i < l.length → ¬ (stp l i).name = n ∧ ¬ ((stp l i).guard = true ∧ (stp l i).notName = n)) := by
  refine Lp_all (R := S.law11_RunTwice_8_R l n) (fun v => rfl) (fun v => 0 ≤ v.t_11_0 ∧ v.t_11_0 ≤ l.length ∧ ∀ i : Int, 0 ≤ i → i < v.t_11_0 → ¬ (stp l i).name = n ∧ ¬ ((stp l i).guard = true ∧ (stp l i).notName = n))
    (fun j v => j = 0 ∨ j = 1 ∧ ∀ i : Int, 0 ≤ i → i < l.length → ¬ (stp l i).name = n ∧ ¬ ((stp l i).guard = true ∧ (stp l i).notName = n)) (fun v => ((l.length : Int) - v.t_11_0).toNat) (fun v hv => ?_) ⟨0⟩ ⟨Int.le_refl _, by simp, fun i i0 i1 => by dsimp only at i1; omega⟩
  obtain ⟨v1, v2, v3⟩ := hv
  have hst : l.getD v.t_11_0.toNat (dflt ET.step) = stp l v.t_11_0 := rfl
  by_cases g : v.t_11_0 < (l.length : Int)
  · have w : IntKind.i64.wrap (v.t_11_0 + 1) = v.t_11_0 + 1 := e_wrap (by omega) (by omega)
    have hm : ((l.length : Int) - (v.t_11_0 + 1)).toNat < ((l.length : Int) - v.t_11_0).toNat := by omega
    have nxt : ¬ (stp l v.t_11_0).name = n → ¬ ((stp l v.t_11_0).guard = true ∧ (stp l v.t_11_0).notName = n) → 0 ≤ v.t_11_0 + 1 ∧ v.t_11_0 + 1 ≤ l.length ∧ ∀ i : Int, 0 ≤ i → i < v.t_11_0 + 1 → ¬ (stp l i).name = n ∧ ¬ ((stp l i).guard = true ∧ (stp l i).notName = n) := by
      intro p1 p2
      refine ⟨by omega, by omega, fun i i0 i1 => ?_⟩
      by_cases g2 : i < v.t_11_0
      · exact v3 i i0 g2
      · have : i = v.t_11_0 := by omega
        subst this; exact ⟨p1, p2⟩
    unfold S.law11_RunTwice_8_R; dsimp only
    rw [hst]
    simp only [DT.all_br, DT.all_leaf, DT.all_fail, Stp_none, Stp_some, xdec, xwrap, w, g, v1, decide_true, Bool.and_self, true_or, implies_true, and_true, true_and, reduceCtorEq, false_implies, Bool.true_eq_false, forall_const, decide_eq_false_iff_not, decide_eq_true_eq]
    intro p1
    refine ⟨fun p2 p3 => ⟨nxt p1 (fun h => p3 h.2), hm⟩, fun p2 => ⟨nxt p1 (fun h => by rw [h.1] at p2; cases p2), hm⟩⟩
  · unfold S.law11_RunTwice_8_R; dsimp only
    simp only [DT.all_br, DT.all_leaf, DT.all_fail, Stp_none, Stp_some, xdec, g, decide_false, reduceCtorEq, false_implies, true_and, forall_const, Bool.false_eq_true]
    exact .inr (fun i i0 i1 => v3 i i0 (by omega))
theorem law_RunTwice (q : Query) (r : Run) (e : Evt) (wq : wfL wfStep q.steps) :
    S.law11_RunTwice q.steps q.within q.agg q.aggStep q.aggF r.first r.at_ r.step r.n r.many r.agg r.bad e.name e.at_ e.v = some ⟨true⟩ := by
  unfold S.law11_RunTwice S.law11_RunTwice_R; dsimp only
  simp only [DT.run_br, DT.run_leaf, DT.run_fail, q_awake11_is, q_awake11_o, q_few09_is, q_few06_is, q_made_is q wq, xnot, Bool.not_true, cond_true, cond_false]
  cases hf : (S.law09_Few_o q.steps).x0 with
  | false => simp
  | true =>
  have hl : q.steps.length ≤ 1048576 := by have := q_few09_o _ hf; omega
  cases hg : (S.law06_Few_o e.name e.v).x0 with
  | false => simp
  | true =>
  cases hm : (S.ref09_May_o q.steps q.within q.agg q.aggStep q.aggF).x0 with
  | false => simp
  | true =>
  have hq := q_made_o q wq hm
  simp only [q_May_is q r hl, q_May_o q r hl, Bool.not_true, cond_true, cond_false]
  by_cases hr : mayR q r
  case neg => simp [hr]
  simp only [hr, decide_true, Bool.not_true, cond_false, e_xneI]
  by_cases he : e.at_ = r.at_
  case neg => simp [he]
  simp only [he, ne_eq, not_true, decide_false, cond_false]
  obtain ⟨j, v', h1, h2⟩ := twice_loop q.steps e.name hl
  simp only [S.law11_RunTwice_8_j, Lp_j_of h1]
  rcases h2 with rfl | ⟨rfl, h3⟩
  · rfl
  · have hn := unnamed h3
    have n1 := q_Next_is q r e hl
    have n2 := q_Next_o q r e hl
    rw [next_other hr.1 hr.2.1 hq.w0 he hn] at n2
    have b1 := q_Begin_is q e 0 hl
    have b2 := q_Begin_o q e 0 hl
    rw [begin_other hn] at b2
    rw [he] at n1 n2 b1 b2
    rw [n1, n2, b1, b2]
    simp [outN, outB, e_xeqI, xeqB]
end Go.Eng
