/- What few says; what holds of an event: there is always an answer. -/
import Derived.Test.YtbjeikmkngcjlaaVZG4
import Derived.Test.YtbjeikmkngcjlaaVZP1
import Derived.Test.YtbjeikmkngcjlaaVZM1
set_option linter.unusedVariables false
set_option linter.unusedSimpArgs false
namespace Go.Eng
open Go Go.Eng
theorem q_few06 (n : ByteArray) (l : List (Ty .val)) : (S.z6c2_R n l).all (fun r => r.x0 = true → n.size ≤ 60 ∧ l.length ≤ 10) := by
 by_cases hn : (n.size : Int) > 60
 ·unfold S.z6c2_R; try dsimp only
  simp [DT.all_br, DT.all_leaf, xdec, hn]
 by_cases hb : (l.length : Int) > 10
 ·unfold S.z6c2_R; try dsimp only
  simp [DT.all_br, DT.all_leaf, xdec, hn, hb]
 obtain ⟨j, v', h1, h2⟩ := Lp_all (R := S.z6c2_4_R l) (r := S.z6c2_4_r l) (fun v => rfl) (fun v => 0 ≤ v.t3_ ∧ v.t3_ ≤ l.length) (fun j v => j = 0 ∨ j = 1) (fun v => ((l.length : Int) - v.t3_).toNat) (fun v hv => by
  unfold S.z6c2_4_R; try dsimp only
  simp only [DT.all_br, DT.all_leaf, DT.all_fail, Stp_none, Stp_some, xdec, xwrap, decide_eq_true_eq, decide_eq_false_iff_not, Bool.and_eq_true, Bool.and_eq_false_iff, implies_true, or_true, true_or, and_true, true_and, reduceCtorEq, false_implies]
  intro g1
  refine ⟨?_, fun g2 => by omega⟩
  intros
  rw [e_wrap (by omega) (by omega)]
  omega) ⟨0⟩ ⟨Int.le_refl _, by simp⟩
 have k1 : n.size ≤ 60 := by omega
 have k2 : l.length ≤ 10 := by omega
 unfold S.z6c2_R; try dsimp only
 simp only [DT.all_br, DT.all_leaf, DT.all_fail, S.z6c2_4_j, Lp_j_of h1]
 rcases h2 with rfl | rfl <;> simp [k1, k2]
theorem q_few06_is (n : ByteArray) (l : List (Ty .val)) : S.z6c2_is n l = true := DT.all_is (q_few06 n l)
theorem q_few08 (l : List (Ty .op)) : (S.zzsx_R l).all (fun r => r.x0 = true → l.length ≤ 20) := by
 by_cases hb : (l.length : Int) > 20
 ·unfold S.zzsx_R; try dsimp only
  simp [DT.all_br, DT.all_leaf, xdec, hb]
 obtain ⟨j, v', h1, h2⟩ := Lp_all (R := S.zzsx_4_R l) (r := S.zzsx_4_r l) (fun v => rfl) (fun v => 0 ≤ v.t3_ ∧ v.t3_ ≤ l.length) (fun j v => j = 0 ∨ j = 1) (fun v => ((l.length : Int) - v.t3_).toNat) (fun v hv => by
  unfold S.zzsx_4_R; try dsimp only
  simp only [DT.all_br, DT.all_leaf, DT.all_fail, Stp_none, Stp_some, xdec, xwrap, decide_eq_true_eq, decide_eq_false_iff_not, Bool.and_eq_true, Bool.and_eq_false_iff, implies_true, or_true, true_or, and_true, true_and, reduceCtorEq, false_implies]
  intro g1
  refine ⟨?_, fun g2 => by omega⟩
  intros
  rw [e_wrap (by omega) (by omega)]
  omega) ⟨0⟩ ⟨Int.le_refl _, by simp⟩
 have k2 : l.length ≤ 20 := by omega
 unfold S.zzsx_R; try dsimp only
 simp only [DT.all_br, DT.all_leaf, DT.all_fail, S.zzsx_4_j, Lp_j_of h1]
 rcases h2 with rfl | rfl <;> simp [k2]
theorem q_few08_is (l : List (Ty .op)) : S.zzsx_is l = true := DT.all_is (q_few08 l)
theorem q_few09 (l : List (Ty .step)) : (S.zydq_R l).all (fun r => r.x0 = true → l.length ≤ 8) := by
 by_cases hb : (l.length : Int) > 8
 ·unfold S.zydq_R; try dsimp only
  simp [DT.all_br, DT.all_leaf, xdec, hb]
 obtain ⟨j, v', h1, h2⟩ := Lp_all (R := S.zydq_4_R l) (r := S.zydq_4_r l) (fun v => rfl) (fun v => 0 ≤ v.t3_ ∧ v.t3_ ≤ l.length) (fun j v => j = 0 ∨ j = 1) (fun v => ((l.length : Int) - v.t3_).toNat) (fun v hv => by
  unfold S.zydq_4_R; try dsimp only
  simp only [DT.all_br, DT.all_leaf, DT.all_fail, Stp_none, Stp_some, xdec, xwrap, xnot, q_few08_is, decide_eq_true_eq, decide_eq_false_iff_not, Bool.and_eq_true, Bool.and_eq_false_iff, implies_true, or_true, true_or, and_true, true_and, reduceCtorEq, false_implies]
  intro g1
  refine ⟨?_, fun g2 => by omega⟩
  intros
  rw [e_wrap (by omega) (by omega)]
  omega) ⟨0⟩ ⟨Int.le_refl _, by simp⟩
 have k2 : l.length ≤ 8 := by omega
 unfold S.zydq_R; try dsimp only
 simp only [DT.all_br, DT.all_leaf, DT.all_fail, S.zydq_4_j, Lp_j_of h1]
 rcases h2 with rfl | rfl <;> simp [k2]
theorem q_few09_is (l : List (Ty .step)) : S.zydq_is l = true := DT.all_is (q_few09 l)
end Go.Eng
