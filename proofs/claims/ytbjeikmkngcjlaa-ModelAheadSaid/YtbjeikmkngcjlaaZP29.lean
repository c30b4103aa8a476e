/- The law of a match and what is ahead of it. -/
import Derived.Test.YtbjeikmkngcjlaaZP27
import Derived.Test.YtbjeikmkngcjlaaZL28
set_option linter.unusedVariables false
set_option linter.unusedSimpArgs false
namespace Go.Eng
open Go Go.Eng
theorem law_ModelAhead (q : Query) (l : List (Ty .evt)) (x : Int) : S.law12_ModelAhead q.steps q.within q.agg q.aggStep q.aggF l x = some ⟨true⟩ := by
  unfold S.law12_ModelAhead S.law12_ModelAhead_R; dsimp only
  simp only [DT.run_br, DT.run_leaf, DT.run_fail, q_awake12_is, q_awake12_o, q_few09_is, q_log_is l 25 (by decide), xnot, Bool.not_true, cond_true, cond_false]
  cases hf : (S.law09_Few_o q.steps).x0 with
  | false => simp
  | true =>
  have hl : q.steps.length ≤ 1048576 := by have := q_few09_o _ hf; omega
  cases hg : (S.law12_Log_o l 25).x0 with
  | false => simp
  | true =>
  have hlog := q_log_o l 25 (by decide) hg
  by_cases c1 : x < 0
  · simp [xdec, c1]
  by_cases c2 : x ≥ (l.length : Int)
  · simp [xdec, c1, c2]
  obtain ⟨i, rfl⟩ : ∃ i : Nat, x = (i : Int) := ⟨x.toNat, by omega⟩
  have hi : i < l.length := by omega
  have hb : l.length ≤ 1000 := by omega
  have hd : (l.drop i).length = l.length - i := by simp
  have z1 : (0 : Int) ≤ (i : Int) := by omega
  have z2 : (i : Int) ≤ Int.ofNat l.length := by show (i : Int) ≤ (l.length : Int); omega
  have k1 := q_One_is q (l.drop i) 0 hl (by omega) (by omega)
  have k2 := q_One_o q (l.drop i) 0 hl (by omega) (by omega)
  rw [show ((0 : Nat) : Int) = (0 : Int) from rfl] at k1 k2
  rw [Int.toNat_natCast, sub_drop, q_One_is q l i hl hb hi, q_One_o q l i hl hb hi, k1, k2]
  simp only [xdec, c1, c2, z1, z2, decide_false, decide_true, cond_true, cond_false, Bool.not_true, Bool.and_self]
  obtain ⟨d1, d2, d3⟩ := from_drop (H := HB) (q := q) l hi
  by_cases h : (fromL HB q l i).2.2 = 2
  · have o1 : oneL HB q l i = some (matL HB q l i) := by unfold oneL; rw [if_pos h]
    have o2 : oneL HB q (l.drop i) 0 = some (matL HB q (l.drop i) 0) := by unfold oneL; rw [if_pos (by rw [← d2]; exact h)]
    obtain ⟨e1, e2⟩ := d3 h
    obtain ⟨n1, n2, n3⟩ := nRun_le (H := HB) (q := q) l hi
    rw [o1, o2]
    dsimp only [outOne, matL]
    have w1 : IntKind.i64.wrap (((0 : Nat) : Int) + (i : Int)) = (i : Int) := by rw [e_wrap (by omega) (by omega)]; omega
    have hn : nRun HB q (l.drop i) 0 = nRun HB q l i := d1.symm
    have w2 : IntKind.i64.wrap (((0 : Nat) : Int) + ((nRun HB q l i : Nat) : Int) + (i : Int)) = (i : Int) + (nRun HB q l i : Nat) := by rw [e_wrap (by omega) (by omega)]; omega
    rw [hn, e1, e2]
    simp only [xwrap, w1, w2, e_xeqI, xeqB, decide_true, cond_true, cond_false, Bool.not_true, Bool.and_self, beq_self_eq_true]
  · have o1 : oneL HB q l i = none := by unfold oneL; rw [if_neg h]
    have o2 : oneL HB q (l.drop i) 0 = none := by unfold oneL; rw [if_neg (by rw [← d2]; exact h)]
    rw [o1, o2]
    simp [outOne]
end Go.Eng
