/- The law of stores: an event of another name, at the time of the first. -/
import Derived.Test.YtbjeikmkngcjlaaZP13
import Derived.Test.YtbjeikmkngcjlaaZP7
import Derived.Test.YtbjeikmkngcjlaaZL18
set_option linter.unusedVariables false
set_option linter.unusedSimpArgs false
namespace Go.Eng
open Go Go.Eng
theorem other_loop (l : List (Ty .step)) (n : ByteArray) (hb : l.length ≤ 1048576) : ∃ j v', Lp (S.z52o_8_r l n) ⟨0⟩ = some (j, v') ∧
    (j = 0 ∨ j = 1 ∧ ∀ i : Int, 0 ≤ i → i < l.length → ¬ (stp l i).name = n ∧ ¬ ((stp l i).guard = true ∧ (stp l i).notName = n)) := by
 refine Lp_all (R := S.z52o_8_R l n) (fun v => rfl) (fun v => 0 ≤ v.t11_ ∧ v.t11_ ≤ l.length ∧ ∀ i : Int, 0 ≤ i → i < v.t11_ → ¬ (stp l i).name = n ∧ ¬ ((stp l i).guard = true ∧ (stp l i).notName = n))
  (fun j v => j = 0 ∨ j = 1 ∧ ∀ i : Int, 0 ≤ i → i < l.length → ¬ (stp l i).name = n ∧ ¬ ((stp l i).guard = true ∧ (stp l i).notName = n)) (fun v => ((l.length : Int) - v.t11_).toNat) (fun v hv => ?_) ⟨0⟩ ⟨Int.le_refl _, by simp, fun i i0 i1 => by dsimp only at i1; omega⟩
 obtain ⟨v1, v2, v3⟩ := hv
 have hst : l.getD v.t11_.toNat (dflt ET.step) = stp l v.t11_ := rfl
 by_cases g : v.t11_ < (l.length : Int)
 ·have w : IntKind.i64.wrap (v.t11_ + 1) = v.t11_ + 1 := e_wrap (by omega) (by omega)
  have hm : ((l.length : Int) - (v.t11_ + 1)).toNat < ((l.length : Int) - v.t11_).toNat := by omega
  have nxt : ¬ (stp l v.t11_).name = n → ¬ ((stp l v.t11_).guard = true ∧ (stp l v.t11_).notName = n) → 0 ≤ v.t11_ + 1 ∧ v.t11_ + 1 ≤ l.length ∧ ∀ i : Int, 0 ≤ i → i < v.t11_ + 1 → ¬ (stp l i).name = n ∧ ¬ ((stp l i).guard = true ∧ (stp l i).notName = n) := by
   intro p1 p2
   refine ⟨by omega, by omega, fun i i0 i1 => ?_⟩
   by_cases g2 : i < v.t11_
   ·exact v3 i i0 g2
   ·have : i = v.t11_ := by omega
    subst this; exact ⟨p1, p2⟩
  unfold S.z52o_8_R; dsimp only
  rw [hst]
  simp only [DT.all_br, DT.all_leaf, DT.all_fail, Stp_none, Stp_some, xdec, xwrap, w, g, v1, decide_true, Bool.and_self, true_or, implies_true, and_true, true_and, reduceCtorEq, false_implies, Bool.true_eq_false, forall_const, decide_eq_true_eq, decide_eq_false_iff_not]
  intro p1
  refine ⟨fun p2 p3 => ⟨nxt p1 (fun h => p3 h.2), hm⟩, fun p2 => ⟨nxt p1 (fun h => by rw [h.1] at p2; cases p2), hm⟩⟩
 ·unfold S.z52o_8_R; dsimp only
  simp only [DT.all_br, DT.all_leaf, DT.all_fail, Stp_none, Stp_some, xdec, g, decide_false, reduceCtorEq, false_implies, true_and, forall_const, Bool.false_eq_true]
  exact .inr (fun i i0 i1 => v3 i i0 (by omega))
theorem first_loop (rs : List Run) (hb : rs.length ≤ 1048576) : ∃ v', Lp (S.z52o_15_r rs) ⟨0, 0⟩ = some (0, v') ∧ ∀ r ∈ rs, v'.h_1_1 ≤ r.at_ := by
 obtain ⟨j, v', h1, h2, h3⟩ := Lp_all (R := S.z52o_15_R rs) (r := S.z52o_15_r rs) (fun v => rfl) (fun v => (0 ≤ v.t14_ ∧ v.t14_ ≤ rs.length) ∧ ∀ (k : Nat) (h : k < rs.length), (k : Int) < v.t14_ → v.h_1_1 ≤ rs[k].at_)
  (fun j v => j = 0 ∧ ∀ r ∈ rs, v.h_1_1 ≤ r.at_) (fun v => ((rs.length : Int) - v.t14_).toNat) (fun v hv => by
  obtain ⟨⟨g0, g1⟩, g2⟩ := hv
  by_cases c1 : v.t14_ < (rs.length : Int)
  ·have hk : v.t14_.toNat < rs.length := by omega
   have e : @List.getD (Ty ET.run) rs v.t14_.toNat (dflt ET.run) = rs[v.t14_.toNat] := getD_of (α := Run) rs _ _ hk
   have w : IntKind.i64.wrap (v.t14_ + 1) = v.t14_ + 1 := e_wrap (by omega) (by omega)
   have hm : ((rs.length : Int) - (v.t14_ + 1)).toNat < ((rs.length : Int) - v.t14_).toNat := by omega
   have nx : ∀ x : Int, x ≤ rs[v.t14_.toNat].at_ → (∀ (k : Nat) (h : k < rs.length), (k : Int) < v.t14_ → x ≤ rs[k].at_) → ∀ (k : Nat) (h : k < rs.length), (k : Int) < v.t14_ + 1 → x ≤ rs[k].at_ := by
    intro x hx hy k hk2 hk3
    by_cases g : (k : Int) < v.t14_
    ·exact hy k hk2 g
    ·have : k = v.t14_.toNat := by omega
     subst this; exact hx
   unfold S.z52o_15_R; dsimp only
   rw [e]
   by_cases c2 : v.t14_ = 0
   ·simp only [DT.all_br, DT.all_leaf, DT.all_fail, Stp_none, Stp_some, xdec, xwrap, e_xeqI, w, c1, c2, g0, decide_true, decide_false, Bool.and_self, true_and, and_true, true_implies, false_implies, implies_true, reduceCtorEq, Int.le_refl]
    rw [c2] at c1 hm w
    simp only [c1, decide_true, Bool.and_self, true_implies, true_and, w, hm, and_true, reduceCtorEq, false_implies, Bool.true_eq_false]
    refine ⟨by omega, fun k h hk2 => ?_⟩
    have : k = 0 := by omega
    subst this; exact Int.le_refl _
   ·by_cases c3 : rs[v.t14_.toNat].at_ < v.h_1_1
    ·simp only [DT.all_br, DT.all_leaf, DT.all_fail, Stp_none, Stp_some, xdec, xwrap, e_xeqI, w, c1, c2, c3, g0, decide_true, decide_false, Bool.and_self, true_and, and_true, true_implies, false_implies, implies_true, reduceCtorEq, Bool.true_eq_false, Bool.false_eq_true, hm]
     exact ⟨by omega, nx _ (Int.le_refl _) (fun k h hk2 => by have := g2 k h hk2; omega)⟩
    ·simp only [DT.all_br, DT.all_leaf, DT.all_fail, Stp_none, Stp_some, xdec, xwrap, e_xeqI, w, c1, c2, c3, g0, decide_true, decide_false, Bool.and_self, true_and, and_true, true_implies, false_implies, implies_true, reduceCtorEq, Bool.true_eq_false, Bool.false_eq_true, hm]
     exact ⟨by omega, nx _ (by omega) g2⟩
  ·unfold S.z52o_15_R; dsimp only
   simp only [DT.all_br, DT.all_leaf, DT.all_fail, Stp_none, Stp_some, xdec, c1, decide_false, reduceCtorEq, false_implies, true_and, forall_const, Bool.false_eq_true]
   intro r hr
   obtain ⟨k, hk, rfl⟩ := List.getElem_of_mem hr
   exact g2 k hk (by omega)) ⟨0, 0⟩ ⟨⟨Int.le_refl _, by simp⟩, fun k h hk => by dsimp only at hk; omega⟩
 subst h2
 exact ⟨v', h1, h3⟩
theorem law_MatchOther (q : Query) (l : List Evt) (n : ByteArray) (t : Int) (v : List Val) (wq : wfL wfStep q.steps) (hz : l.length * 48 ≤ reachBytes) : S.z52o q.steps q.within q.agg q.aggStep q.aggF l n t v = some ⟨true⟩ := by
 have hrb : reachBytes = 140737488351232 := rfl
 unfold S.z52o S.z52o_R; dsimp only
 have z1 : l.length * 48 ≤ 140737488355328 := by omega
 have z2 : (l.length + 1) * 48 ≤ 140737488355328 := by omega
 have z3 : sub (List.take l.length l ++ [(⟨n, t, v⟩ : Evt)]) 0 (0 + (l.length + 1)) = l ++ [(⟨n, t, v⟩ : Evt)] := by
  rw [List.take_length, Nat.zero_add]; unfold sub; rw [List.drop_zero, Nat.sub_zero]; exact List.take_of_length_le (by simp)
 have z4 : l.length + 1 ≤ (List.take l.length l ++ [(⟨n, t, v⟩ : Evt)]).length := by simp
 rw [z3]
 simp only [DT.run_br, DT.run_leaf, DT.run_fail, xdec, z1, z2, z4, Nat.le_refl, Nat.zero_add, List.length_set, List.length_replicate, q_awake13_is, q_awake13_o, q_few09_is, q_log_is _ 26 (by decide), q_made_is q wq, xnot, decide_true, Bool.and_self, Bool.and_true, Bool.true_and, Bool.not_true, cond_true, cond_false]
 cases hf : (S.zydq_o q.steps).x0 with
 | false => rfl
 | true =>
 have hl : q.steps.length ≤ 1048576 := by have := q_few09_o _ hf; omega
 cases hg : (S.zgwp_o (l ++ [(⟨n, t, v⟩ : Evt)]) 26).x0 with
 | false => rfl
 | true =>
 have hlog := q_log_o _ 26 (by decide) hg
 have hl25 : l.length ≤ 25 := by rw [List.length_append, List.length_singleton] at hlog; omega
 cases hm : (S.zjar_o q.steps q.within q.agg q.aggStep q.aggF).x0 with
 | false => rfl
 | true =>
 have hq := q_made_o q wq hm
 obtain ⟨j, v', h1, h2⟩ := other_loop q.steps n hl
 simp only [S.z52o_8_j, Lp_j_of h1, Bool.not_true, cond_false]
 rcases h2 with rfl | ⟨rfl, h3⟩
 ·rfl
 have hl1 : (newS q).q.steps.length ≤ 1048576 := hl
 have hr1 : (newS q).r.length ≤ 1048576 := Nat.zero_le _
 have f1 := q_fed_is none false none false (newS q) l 0 hl1 hr1 (by omega) (by omega)
 have f2 := q_fed_o none false none false (newS q) l 0 hl1 hr1 (by omega) (by omega)
 have hsq : (fedL HB (newS q) l 0).1.q = q := fedL_q HB _ _ _
 have hr2 := fedL_rlen HB l (newS q) 0 1048576 (by decide) hr1
 rw [q_New_o]
 dsimp only
 rw [f1, f2]
 dsimp only [outFed]
 generalize (fedL HB (newS q) l 0).1 = s at hsq hr2 ⊢
 obtain ⟨w, h4, h5⟩ := first_loop s.r hr2
 simp only [S.z52o_15_j, S.z52o_15_v, Lp_j_of h4, Lp_v_of h4]
 have hl2 : s.q.steps.length ≤ 1048576 := by rw [hsq]; exact hl
 have k1 := q_Feed_is s ⟨n, w.h_1_1, v⟩ (l.length : Int) hl2 hr2
 have k2 := q_Feed_o s ⟨n, w.h_1_1, v⟩ (l.length : Int) hl2 hr2
 have k3 : feedL HB s ⟨n, w.h_1_1, v⟩ (l.length : Int) = (s, []) := feedL_other (by rw [hsq]; exact hq) h5 (by rw [hsq]; exact unnamed (e := ⟨n, w.h_1_1, v⟩) h3)
 rw [k3] at k2
 dsimp only at k1 k2
 rw [k1, k2]
 dsimp only [outF]
 have s1 := q_same13_is s (by rw [hsq]; exact wq) (Nat.le_trans hr2 (by decide))
 have s2 := q_same13_o s (by rw [hsq]; exact wq) (Nat.le_trans hr2 (by decide))
 rw [s1, s2]
 rfl
end Go.Eng
