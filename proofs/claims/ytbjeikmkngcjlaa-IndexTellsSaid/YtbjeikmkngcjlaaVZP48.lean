/- Few queries; the chapter's example of what is asked. -/
import Derived.Test.YtbjeikmkngcjlaaVZP47
set_option linter.unusedVariables false
set_option linter.unusedSimpArgs false
namespace Go.Eng
open Go Go.Eng
theorem q_few08_o (l : List (Ty .op)) : (S.zzsx_o l).x0 = true → l.length ≤ 20 := DT.all_o (q_few08 l)
theorem q_few09s (l : List Step) : (S.zydq_R l).all (fun r => r.x0 = true → fewS l) := by
 by_cases hb : (l.length : Int) > 8
 ·unfold S.zydq_R; try dsimp only
  simp [DT.all_br, DT.all_leaf, xdec, hb]
 obtain ⟨j, v', h1, h2⟩ := Lp_all (R := S.zydq_4_R l) (r := S.zydq_4_r l) (fun v => rfl)
  (fun v => (0 ≤ v.t3_ ∧ v.t3_ ≤ l.length) ∧ ∀ (k : Nat) (h : k < l.length), (k : Int) < v.t3_ → l[k].ifs.length ≤ 20 ∧ l[k].notIf.length ≤ 20)
  (fun j v => j = 0 ∨ (j = 1 ∧ ∀ s ∈ l, s.ifs.length ≤ 20 ∧ s.notIf.length ≤ 20)) (fun v => ((l.length : Int) - v.t3_).toNat) (fun v hv => by
  obtain ⟨⟨g0, g1⟩, g2⟩ := hv
  unfold S.zydq_4_R; try dsimp only
  by_cases c1 : v.t3_ < (l.length : Int)
  ·have hk : v.t3_.toNat < l.length := by omega
   have e : @List.getD (Ty ET.step) l v.t3_.toNat (dflt ET.step) = l[v.t3_.toNat] := getD_of (α := Step) l _ _ hk
   rw [e]
   simp only [DT.all_br, DT.all_leaf, DT.all_fail, Stp_none, Stp_some, xdec, xwrap, xnot, q_few08_is, decide_eq_true_eq, decide_eq_false_iff_not, Bool.and_eq_true, Bool.and_eq_false_iff, Bool.not_eq_true', Bool.not_eq_false', implies_true, or_true, true_or, and_true, true_and, reduceCtorEq, false_implies, c1, g0, not_true, true_implies]
   refine ⟨?_, fun g => g.elim id id⟩
   intro a1 a2
   have b1 := q_few08_o _ a1
   have b2 := q_few08_o _ a2
   intros
   rw [e_wrap (by omega) (by omega)]
   refine ⟨⟨⟨by omega, by omega⟩, fun k h hk2 => ?_⟩, by omega⟩
   by_cases hk3 : (k : Int) < v.t3_
   ·exact g2 k h hk3
   ·have : k = v.t3_.toNat := by omega
    subst this; exact ⟨b1, b2⟩
  ·simp only [DT.all_br, DT.all_leaf, DT.all_fail, Stp_none, Stp_some, xdec, xwrap, xnot, c1, decide_false, Bool.false_eq_true, false_implies, true_and, true_implies, reduceCtorEq, false_or, Nat.one_ne_zero, or_false, Nat.succ_ne_zero]
   intro s hs
   obtain ⟨k, hk, rfl⟩ := List.getElem_of_mem hs
   exact g2 k hk (by omega)) ⟨0⟩ ⟨⟨Int.le_refl _, by simp⟩, fun k h hk => by dsimp only at hk; omega⟩
 have k2 : l.length ≤ 8 := by omega
 unfold S.zydq_R; try dsimp only
 simp only [DT.all_br, DT.all_leaf, DT.all_fail, S.zydq_4_j, Lp_j_of h1]
 rcases h2 with rfl | ⟨rfl, h⟩
 ·simp
 ·simp [fewS, k2]
  exact fun _ s hs => h s hs
theorem q_few09s_o (l : List Step) : (S.zydq_o l).x0 = true → fewS l := DT.all_o (q_few09s l)
theorem q_few10 (l : List Query) : (S.zzvx_R l).all (fun r => r.x0 = true → fewQ l) := by
 by_cases hb : (l.length : Int) > 6
 ·unfold S.zzvx_R; try dsimp only
  simp [DT.all_br, DT.all_leaf, xdec, hb]
 obtain ⟨j, v', h1, h2⟩ := Lp_all (R := S.zzvx_4_R l) (r := S.zzvx_4_r l) (fun v => rfl)
  (fun v => (0 ≤ v.t3_ ∧ v.t3_ ≤ l.length) ∧ ∀ (k : Nat) (h : k < l.length), (k : Int) < v.t3_ → fewS l[k].steps)
  (fun j v => j = 0 ∨ (j = 1 ∧ ∀ q ∈ l, fewS q.steps)) (fun v => ((l.length : Int) - v.t3_).toNat) (fun v hv => by
  obtain ⟨⟨g0, g1⟩, g2⟩ := hv
  unfold S.zzvx_4_R; try dsimp only
  by_cases c1 : v.t3_ < (l.length : Int)
  ·have hk : v.t3_.toNat < l.length := by omega
   have e : @List.getD (Ty ET.query) l v.t3_.toNat (dflt ET.query) = l[v.t3_.toNat] := getD_of (α := Query) l _ _ hk
   rw [e]
   simp only [DT.all_br, DT.all_leaf, DT.all_fail, Stp_none, Stp_some, xdec, xwrap, xnot, q_few09_is, decide_eq_true_eq, decide_eq_false_iff_not, Bool.and_eq_true, Bool.and_eq_false_iff, Bool.not_eq_true', Bool.not_eq_false', implies_true, or_true, true_or, and_true, true_and, reduceCtorEq, false_implies, c1, g0, not_true, true_implies]
   refine ⟨?_, fun g => g.elim id id⟩
   intro a1
   have b1 := q_few09s_o _ a1
   rw [e_wrap (by omega) (by omega)]
   refine ⟨⟨⟨by omega, by omega⟩, fun k h hk2 => ?_⟩, by omega⟩
   by_cases hk3 : (k : Int) < v.t3_
   ·exact g2 k h hk3
   ·have : k = v.t3_.toNat := by omega
    subst this; exact b1
  ·simp only [DT.all_br, DT.all_leaf, DT.all_fail, Stp_none, Stp_some, xdec, xwrap, xnot, c1, decide_false, Bool.false_eq_true, false_implies, true_and, true_implies, reduceCtorEq, false_or, Nat.one_ne_zero, or_false, Nat.succ_ne_zero]
   intro s hs
   obtain ⟨k, hk, rfl⟩ := List.getElem_of_mem hs
   exact g2 k hk (by omega)) ⟨0⟩ ⟨⟨Int.le_refl _, by simp⟩, fun k h hk => by dsimp only at hk; omega⟩
 have k2 : l.length ≤ 6 := by omega
 unfold S.zzvx_R; try dsimp only
 simp only [DT.all_br, DT.all_leaf, DT.all_fail, S.zzvx_4_j, Lp_j_of h1]
 rcases h2 with rfl | ⟨rfl, h⟩
 ·simp
 ·simp [fewQ, k2]
  exact fun _ s hs => h s hs
theorem q_few10_is (l : List Query) : S.zzvx_is l = true := DT.all_is (q_few10 l)
theorem q_few10_o (l : List Query) : (S.zzvx_o l).x0 = true → fewQ l := DT.all_o (q_few10 l)
def fewP (l : List Pred) : Prop := l.length ≤ 40 ∧ ∀ p ∈ l, p.ifs.length ≤ 20
theorem q_preds (l : List Pred) : (S.z6mj_R l).all (fun r => r.x0 = true → fewP l) := by
 by_cases hb : (l.length : Int) > 40
 ·unfold S.z6mj_R; try dsimp only
  simp [DT.all_br, DT.all_leaf, xdec, hb]
 obtain ⟨j, v', h1, h2⟩ := Lp_all (R := S.z6mj_4_R l) (r := S.z6mj_4_r l) (fun v => rfl)
  (fun v => (0 ≤ v.t3_ ∧ v.t3_ ≤ l.length) ∧ ∀ (k : Nat) (h : k < l.length), (k : Int) < v.t3_ → l[k].ifs.length ≤ 20)
  (fun j v => j = 0 ∨ (j = 1 ∧ ∀ q ∈ l, q.ifs.length ≤ 20)) (fun v => ((l.length : Int) - v.t3_).toNat) (fun v hv => by
  obtain ⟨⟨g0, g1⟩, g2⟩ := hv
  unfold S.z6mj_4_R; try dsimp only
  by_cases c1 : v.t3_ < (l.length : Int)
  ·have hk : v.t3_.toNat < l.length := by omega
   have e : @List.getD (Ty ET.pred) l v.t3_.toNat (dflt ET.pred) = l[v.t3_.toNat] := getD_of (α := Pred) l _ _ hk
   rw [e]
   simp only [DT.all_br, DT.all_leaf, DT.all_fail, Stp_none, Stp_some, xdec, xwrap, xnot, q_few08_is, decide_eq_true_eq, decide_eq_false_iff_not, Bool.and_eq_true, Bool.and_eq_false_iff, Bool.not_eq_true', Bool.not_eq_false', implies_true, or_true, true_or, and_true, true_and, reduceCtorEq, false_implies, c1, g0, not_true, true_implies]
   refine ⟨?_, fun g => g.elim id id⟩
   intro a1
   have b1 := q_few08_o _ a1
   rw [e_wrap (by omega) (by omega)]
   refine ⟨⟨⟨by omega, by omega⟩, fun k h hk2 => ?_⟩, by omega⟩
   by_cases hk3 : (k : Int) < v.t3_
   ·exact g2 k h hk3
   ·have : k = v.t3_.toNat := by omega
    subst this; exact b1
  ·simp only [DT.all_br, DT.all_leaf, DT.all_fail, Stp_none, Stp_some, xdec, xwrap, xnot, c1, decide_false, Bool.false_eq_true, false_implies, true_and, true_implies, reduceCtorEq, false_or, Nat.one_ne_zero, or_false, Nat.succ_ne_zero]
   intro s hs
   obtain ⟨k, hk, rfl⟩ := List.getElem_of_mem hs
   exact g2 k hk (by omega)) ⟨0⟩ ⟨⟨Int.le_refl _, by simp⟩, fun k h hk => by dsimp only at hk; omega⟩
 have k2 : l.length ≤ 40 := by omega
 unfold S.z6mj_R; try dsimp only
 simp only [DT.all_br, DT.all_leaf, DT.all_fail, S.z6mj_4_j, Lp_j_of h1]
 rcases h2 with rfl | ⟨rfl, h⟩
 ·simp
 ·simp [fewP, k2]
  exact fun _ s hs => h s hs
theorem q_preds_is (l : List Pred) : S.z6mj_is l = true := DT.all_is (q_preds l)
theorem q_preds_o (l : List Pred) : (S.z6mj_o l).x0 = true → fewP l := DT.all_o (q_preds l)
end Go.Eng
