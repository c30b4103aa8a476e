/- What values, events and expressions come to: there is always an end; what few, and what may be, say. -/
import Derived.Test.YtbjeikmkngcjlaaVZG2
import Derived.Test.YtbjeikmkngcjlaaVZE3
set_option linter.unusedVariables false
set_option linter.unusedSimpArgs false
namespace Go.Eng
open Go Go.Eng
theorem q_held (k n : Int) (s : ByteArray) : S.z2bt_is k n s = true := DT.all_is (P := fun _ => True) (by
 unfold S.z2bt_R; try dsimp only
 simp only [DT.all_br, DT.all_leaf, DT.all_fail, implies_true, and_self])
theorem q_valMay (k n : Int) (s : ByteArray) : S.z3yc_is k n s = true := DT.all_is (P := fun _ => True) (by
 unfold S.z3yc_R; try dsimp only
 simp [DT.all_br, DT.all_leaf, DT.all_fail, q_held])
theorem q_evMay1 (k n : Int) (s : ByteArray) : S.zajt_is k n s = true := DT.all_is (P := fun _ => True) (by
 unfold S.zajt_R; try dsimp only
 simp [DT.all_br, DT.all_leaf, DT.all_fail, q_valMay])
theorem q_idxVal (l : List (Ty .val)) (hb : l.length ≤ 1048576) : S.zzbr_is l = true := by
 obtain ⟨j, v', h1, h2⟩ := Lp_all (R := S.zzbr_2_R l l.length) (r := S.zzbr_2_r l l.length) (fun v => rfl) (fun v => 0 ≤ v.t8_ ∧ v.t8_ ≤ l.length) (fun j v => j = 0 ∨ j = 1) (fun v => ((l.length : Int) - v.t8_).toNat) (fun v hv => by
  unfold S.zzbr_2_R; try dsimp only
  simp only [DT.all_br, DT.all_leaf, DT.all_fail, Stp_none, Stp_some, xdec, xwrap, decide_eq_true_eq, decide_eq_false_iff_not, Bool.and_eq_true, Bool.and_eq_false_iff, q_evMay1, implies_true, or_true, true_or, and_true, true_and, reduceCtorEq, false_implies]
  intro g1
  refine ⟨?_, fun g2 => by omega⟩
  intros
  rw [e_wrap (by omega) (by omega)]
  omega) ⟨0⟩ ⟨Int.le_refl _, by simp⟩
 refine DT.all_is (P := fun _ => True) ?_
 unfold S.zzbr_R; try dsimp only
 simp only [DT.all_br, DT.all_leaf, DT.all_fail, S.zzbr_2_j, Lp_j_of h1]
 rcases h2 with rfl | rfl <;> simp
theorem q_conVal (l : List (Ty .val)) (hb : l.length ≤ 1048576) : S.z2hn_is l = true := DT.all_is (P := fun _ => True) (by
 unfold S.z2hn_R; try dsimp only
 simp [DT.all_br, DT.all_leaf, DT.all_fail, q_idxVal l hb])
theorem q_opMay1 (a b c d : Int) (s : ByteArray) : (S.zk4o_R a b c d s).all (fun r => r.x0 = false → 0 ≤ b) := by
 unfold S.zk4o_R; try dsimp only
 by_cases h : b < 0
 ·simp [DT.all_br, DT.all_leaf, DT.all_fail, q_valMay, xdec, h]
 ·have h2 : 0 ≤ b := by omega
  simp [DT.all_br, DT.all_leaf, DT.all_fail, q_valMay, h2]
theorem q_opMay1_is (a b c d : Int) (s : ByteArray) : S.zk4o_is a b c d s = true := DT.all_is (q_opMay1 a b c d s)
theorem q_opMay1_o (a b c d : Int) (s : ByteArray) : (S.zk4o_o a b c d s).x0 = false → 0 ≤ b := DT.all_o (q_opMay1 a b c d s)
noncomputable def badOp (x : Opn) : Bool := (S.zk4o_o x.code x.arg x.v.kind x.v.n x.v.s).x0
theorem q_idxOp_lp (l : List (Ty .op)) (hb : l.length ≤ 1048576) : Lp (S.z6r7_2_r l l.length) (⟨0⟩ : S.z6r7_2_V) = match l.findIdx? badOp with
    | some j => some (0, ⟨j⟩)
    | none => some (1, ⟨l.length⟩) := by
 refine Lp_idx (fun i => (⟨i⟩ : S.z6r7_2_V)) l badOp (fun i h => ?_) ?_
 ·have h1 : ((i : Int) < (l.length : Int)) := by omega
  have h2 : (0 : Int) ≤ (i : Int) := by omega
  unfold S.z6r7_2_r S.z6r7_2_R
  simp only [DT.run_br, DT.run_leaf, DT.run_fail, xdec, xwrap, h1, h2, decide_true, Bool.and_self, cond_true, Int.toNat_natCast, getD_of l i _ h, q_opMay1_is, e_wrap1 (show i ≤ 1048576 by omega)]
  show (bif badOp l[i] then _ else _) = if badOp l[i] = true then _ else _
  cases badOp l[i] <;> rfl
 ·unfold S.z6r7_2_r S.z6r7_2_R
  simp [DT.run_br, DT.run_leaf, xdec]
theorem q_idxOp (l : List (Ty .op)) (hb : l.length ≤ 1048576) : ∃ n, S.z6r7 l = some ⟨n⟩ ∧ (¬ n ≥ 0 → ∀ x ∈ l, badOp x = false) := by
 have e := q_idxOp_lp l hb
 cases hf : l.findIdx? badOp with
 | none =>
  rw [hf] at e
  refine ⟨-1, ?_, fun _ => List.findIdx?_eq_none_iff.1 hf⟩
  simp only [S.z6r7, S.z6r7_R, DT.run_br, DT.run_leaf, DT.run_fail, S.z6r7_2_j, S.z6r7_2_v, Lp_j_of e, Lp_v_of e]
  rfl
 | some j =>
  rw [hf] at e
  refine ⟨j, ?_, fun h => by omega⟩
  simp only [S.z6r7, S.z6r7_R, DT.run_br, DT.run_leaf, DT.run_fail, S.z6r7_2_j, S.z6r7_2_v, Lp_j_of e, Lp_v_of e]
  rfl
theorem q_conOp (l : List (Ty .op)) (hb : l.length ≤ 1048576) : ∃ b, S.zfbb l = some ⟨b⟩ ∧ (b = false → ∀ x ∈ l, badOp x = false) := by
 obtain ⟨n, h1, h2⟩ := q_idxOp l hb
 refine ⟨decide (n ≥ 0), ?_, fun h => h2 (by simpa using h)⟩
 unfold S.zfbb S.zfbb_R
 simp [DT.run_br, DT.run_leaf, S.z6r7_is, S.z6r7_o, h1, xdec]
theorem q_opMay (l : List (Ty .op)) : (S.zk66_R l).all (fun r => r.x0 = true → l.length ≤ 12 ∧ ∀ x ∈ l, 0 ≤ x.arg) := by
 unfold S.zk66_R; try dsimp only
 by_cases h : (l.length : Int) ≤ 12
 ·have h2 : l.length ≤ 12 := by omega
  obtain ⟨b, h3, h4⟩ := q_conOp l (by omega)
  simp only [DT.all_br, DT.all_leaf, DT.all_fail, xdec, h, decide_true, S.zfbb_is, S.zfbb_o, h3, Option.isSome_some, Option.getD_some, xnot]
  refine ⟨fun _ => ⟨fun _ hb => ⟨h2, fun x hx => q_opMay1_o _ _ _ _ _ (h4 (by simpa using hb) x hx)⟩, fun g => by cases g⟩, fun g => by cases g⟩
 ·simp [DT.all_br, DT.all_leaf, DT.all_fail, xdec, h]
theorem q_opMay_is (l : List (Ty .op)) : S.zk66_is l = true := DT.all_is (q_opMay l)
theorem q_isNaN (a : Int) : S.zc3b_is a = true := DT.all_is (P := fun _ => True) (by unfold S.zc3b_R; trivial)
theorem q_isNaNs (a : ByteArray) : S.zong_is a = true := DT.all_is (P := fun _ => True) (by unfold S.zong_R; trivial)
theorem q_cmp (a b : Int) : S.zlpd_is a b = true := DT.all_is (P := fun _ => True) (by
 unfold S.zlpd_R; try dsimp only
 simp [DT.all_br, DT.all_leaf, DT.all_fail, q_isNaN])
theorem q_cmps (a b : ByteArray) : S.zcxf_is a b = true := DT.all_is (P := fun _ => True) (by
 unfold S.zcxf_R; try dsimp only
 simp [DT.all_br, DT.all_leaf, DT.all_fail, q_isNaNs])
theorem q_or (l : List (Ty .int)) (hb : l.length ≤ 1048576) : S.zto6_is l = true := by
 obtain ⟨j, v', h1, h2⟩ := Lp_all (R := S.zto6_3_R 0 l l.length) (r := S.zto6_3_r 0 l l.length) (fun v => rfl) (fun v => 0 ≤ v.t8_ ∧ v.t8_ ≤ l.length) (fun j v => j = 0 ∨ j = 1) (fun v => ((l.length : Int) - v.t8_).toNat) (fun v hv => by
  unfold S.zto6_3_R; try dsimp only
  simp only [DT.all_br, DT.all_leaf, DT.all_fail, Stp_none, Stp_some, xdec, xwrap, decide_eq_true_eq, decide_eq_false_iff_not, Bool.and_eq_true, Bool.and_eq_false_iff, implies_true, or_true, true_or, and_true, true_and, reduceCtorEq, false_implies]
  intro g1
  refine ⟨?_, fun g2 => by omega⟩
  intros
  rw [e_wrap (by omega) (by omega)]
  omega) ⟨0⟩ ⟨Int.le_refl _, by simp⟩
 refine DT.all_is (P := fun _ => True) ?_
 unfold S.zto6_R; try dsimp only
 simp only [DT.all_br, DT.all_leaf, DT.all_fail, S.zto6_3_j, Lp_j_of h1]
 rcases h2 with rfl | rfl <;> simp
theorem q_less (a b : Int) (s : ByteArray) (c d : Int) (t : ByteArray) : S.zzxm_is a b s c d t = true := DT.all_is (P := fun _ => True) (by
 unfold S.zzxm_R; try dsimp only
 simp [DT.all_br, DT.all_leaf, DT.all_fail, q_valMay, q_cmp, q_cmps, xdec, sub, q_or])
theorem q_sum (c a b : Int) : S.zost_is c a b = true := DT.all_is (P := fun _ => True) (by
 unfold S.zost_R; try dsimp only
 simp only [DT.all_br, DT.all_leaf, DT.all_fail, xdec, e_xeqI, decide_eq_true_eq, decide_eq_false_iff_not, implies_true, and_true, true_and]
 intros; simp_all)
end Go.Eng
