/- The law of order. -/
import Derived.Test.YtbjeikmkngcjlaaZP39
import Derived.Test.YtbjeikmkngcjlaaZL25
set_option maxHeartbeats 2000000
set_option linter.unusedVariables false
set_option linter.unusedSimpArgs false
namespace Go.Eng
open Go Go.Eng
theorem order_loop (l : List (Ty .evt)) (A : List (Ty .mat)) (hb : A.length ≤ 1000) (h1 : A.Pairwise (fun a b => a.fin < b.fin ∨ a.fin = b.fin ∧ a.start < b.start)) (h2 : ∀ m ∈ A, 0 ≤ m.start ∧ m.start ≤ m.fin ∧ m.fin < l.length) :
    Lp (S.zq2d_9_r l A.length A) ⟨0⟩ = some (1, ⟨(A.length : Nat)⟩) := by
 refine Lp_walk (fun k => (⟨(k : Int)⟩ : S.zq2d_9_V)) A.length 1 (fun i hi => ?_) ?_
 ·have z1 : ((i : Int) < (A.length : Int)) := by omega
  have z2 : (0 : Int) ≤ (i : Int) := by omega
  obtain ⟨g1, g2, g3⟩ := h2 A[i] (List.getElem_mem hi)
  have z3 : ¬ A[i].start < 0 := by omega
  have z4 : ¬ A[i].fin < A[i].start := by omega
  have z5 : ¬ A[i].fin ≥ (l.length : Int) := by omega
  have hg : A.getD i (dflt ET.mat) = A[i] := getD_of A i _ hi
  unfold S.zq2d_9_r S.zq2d_9_R
  dsimp only
  simp only [xwrap, Int.toNat_natCast, Nat.zero_add, hg, e_wrap1 (show i ≤ 1048576 by omega)]
  by_cases c : i = 0
  ·subst c
   have z6 : ¬ (((0 : Nat) : Int) > 0) := by simp
   simp only [DT.run_br, DT.run_leaf, DT.run_fail, xdec, z1, z2, z3, z4, z5, z6, hi, decide_true, decide_false, cond_true, cond_false, Bool.and_self]
  ·have z6 : ((i : Nat) : Int) > 0 := by omega
   have hi1 : i - 1 < A.length := by omega
   have w : IntKind.i64.wrap ((i : Int) - 1) = ((i - 1 : Nat) : Int) := by rw [e_wrap (by omega) (by omega)]; omega
   have hg1 : A.getD (i - 1) (dflt ET.mat) = A[i - 1] := getD_of A (i - 1) _ hi1
   have hp := List.pairwise_iff_getElem.1 h1 (i - 1) i hi1 hi (by omega)
   have z7 : (0 : Int) ≤ ((i - 1 : Nat) : Int) := by omega
   have z8 : ((i - 1 : Nat) : Int) < (A.length : Int) := by omega
   have z9 : ¬ A[i].fin < A[i - 1].fin := by omega
   simp only [w, Int.toNat_natCast, hg1]
   simp only [DT.run_br, DT.run_leaf, DT.run_fail, xdec, e_xeqI, z1, z2, z3, z4, z5, z6, z7, z8, z9, hi, hi1, decide_true, decide_false, cond_true, cond_false, Bool.and_self]
   by_cases d : A[i].fin = A[i - 1].fin
   ·have z10 : ¬ A[i].start ≤ A[i - 1].start := by omega
    simp only [d, z10, decide_true, decide_false, cond_true, cond_false]
   ·simp only [d, decide_false, cond_false]
 ·have z1 : ¬ ((A.length : Int) < (A.length : Int)) := by omega
  unfold S.zq2d_9_r S.zq2d_9_R
  simp only [DT.run_br, DT.run_leaf, xdec, z1, decide_false, cond_false]
theorem law_ModelOrder (n0 : Option Bool) (f0 : Bool) (q : Query) (n1 : Option Bool) (f1 : Bool) (l : List (Ty .evt)) (x y : Int) (wx : wfI x) : S.zq2d n0 f0 q.steps q.within q.agg q.aggStep q.aggF n1 f1 l x y = some ⟨true⟩ := by
 unfold S.zq2d S.zq2d_R; dsimp only
 simp only [DT.run_br, DT.run_leaf, DT.run_fail, q_awake12_is, q_awake12_o, q_few09_is, q_log_is l 25 (by decide), xnot, Bool.not_true, cond_true, cond_false]
 cases hf : (S.zydq_o q.steps).x0 with
 | false => simp
 | true =>
 have hl : q.steps.length ≤ 1048576 := by have := q_few09_o _ hf; omega
 cases hg : (S.zgwp_o l 25).x0 with
 | false => simp
 | true =>
 have hlog := q_log_o l 25 (by decide) hg
 by_cases c1 : y < 0
 ·simp [xdec, c1]
 by_cases c2 : x > 1099511627776
 ·simp [xdec, c1, c2]
 by_cases c3 : y > 1099511627776
 ·simp [xdec, c1, c2, c3]
 have w : IntKind.i64.wrap (x + y) = x + y := e_wrap (by have := wx.1; omega) (by omega)
 have A1 := q_All2_is sorts39 n0 f0 q n1 f1 l x hl (by omega) (by omega)
 obtain ⟨g1, A2⟩ := q_All2_o sorts39 n0 f0 q n1 f1 l x hl (by omega) (by omega)
 have B1 := q_All2_is sorts39 n0 f0 q n1 f1 l (x + y) hl (by omega) (by omega)
 obtain ⟨g2, B2⟩ := q_All2_o sorts39 n0 f0 q n1 f1 l (x + y) hl (by omega) (by omega)
 obtain ⟨r, hr⟩ := all_more (H := HB) (q := q) l (a := x) (b := x + y) (by omega)
 have hbA := all_len25 HB q l x
 have hbB := all_len25 HB q l (x + y)
 obtain ⟨o1, o2⟩ := all_order (H := HB) (q := q) l x
 rw [hr] at B2 hbB
 simp only [xwrap, w]
 rw [A1, A2, B1, B2]
 dsimp only
 have lp := order_loop l (allL HB q l x) (by omega) o1 o2
 generalize allL HB q l x = A at *
 have lB : (A ++ r).length = A.length + r.length := by simp
 have e1 : Int.toNat (Int.ofNat A.length) = A.length := rfl
 simp only [S.zq2d_9_j, Lp_j_of lp]
 simp only [sub_zero, Nat.zero_add, e1, List.take_length, List.take_left', lB]
 have s1 := q_sameL_is A (by omega)
 have s2 := q_sameL_o A (by omega)
 rw [s1, s2]
 have z3 : ¬ ((A.length : Int) > ((A.length + r.length : Nat) : Int)) := by omega
 have z4 : (0 : Int) ≤ (A.length : Int) := by omega
 have z5 : (A.length : Int) ≤ Int.ofNat (A.length + r.length) := by show (A.length : Int) ≤ ((A.length + r.length : Nat) : Int); omega
 have z6 : A.length ≤ A.length + r.length := by omega
 have z7 : ¬ (((A.length + r.length : Nat) : Int) > (l.length : Int)) := by omega
 have j0 : ((1 : Nat) == 0) = false := rfl
 have j1 : ((1 : Nat) == 1) = true := rfl
 simp only [xdec, c1, c2, c3, z3, z4, z5, z6, z7, j0, j1, Nat.le_refl, decide_true, decide_false, cond_true, cond_false, Bool.and_self, Bool.true_and, Bool.and_true, Bool.not_true]
end Go.Eng
