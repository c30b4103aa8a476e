/- The law of each match. -/
import Derived.Test.YtbjeikmkngcjlaaZP27
import Derived.Test.YtbjeikmkngcjlaaZL27
set_option linter.unusedVariables false
set_option linter.unusedSimpArgs false
namespace Go.Eng
open Go Go.Eng
theorem each_loop (q : Query) (l : List (Ty .evt)) (hl : q.steps.length ≤ 1048576) (hb : l.length ≤ 1000) (i n : Nat) (hi : i + n < l.length) (hn : n = nRun HB q l i) :
    Lp (S.law12_ModelEach_13_r l i q.steps q.within q.agg q.aggStep q.aggF ((i : Int) + (n : Nat))) ⟨(i : Int)⟩ = some (1, ⟨((i + n : Nat) : Int)⟩) := by
  refine Lp_walk (fun k => (⟨((i + k : Nat) : Int)⟩ : S.law12_ModelEach_13_V)) n 1 (fun k hk => ?_) ?_
  · have z : ((i + k : Nat) : Int) < (i : Int) + (n : Nat) := by omega
    have g1 := q_Live_is q l i (i + k) hl hb (by omega) (by omega)
    have g2 := q_Live_o q l i (i + k) hl hb (by omega) (by omega)
    have g3 : liveB HB q l (i + k) i = true := by
      have a1 : i ≤ i + k := by omega
      have a2 : i + k < i + nRun HB q l i := by omega
      simp only [liveB, a1, a2, decide_true, Bool.and_self]
    rw [g3] at g2
    unfold S.law12_ModelEach_13_r S.law12_ModelEach_13_R
    dsimp only
    rw [g1, g2]
    simp only [DT.run_br, DT.run_leaf, DT.run_fail, xdec, xnot, xwrap, z, decide_true, cond_true, cond_false, Bool.not_true, e_wrap1 (show i + k ≤ 1048576 by omega)]
    rfl
  · have z : ¬ (((i + n : Nat) : Int) < (i : Int) + (n : Nat)) := by omega
    unfold S.law12_ModelEach_13_r S.law12_ModelEach_13_R
    simp only [DT.run_br, DT.run_leaf, xdec, z, decide_false, cond_false]
theorem law_ModelEach (q : Query) (l : List (Ty .evt)) (x : Int) (wq : wfL wfStep q.steps) : S.law12_ModelEach q.steps q.within q.agg q.aggStep q.aggF l x = some ⟨true⟩ := by
  unfold S.law12_ModelEach S.law12_ModelEach_R; dsimp only
  simp only [DT.run_br, DT.run_leaf, DT.run_fail, q_awake12_is, q_awake12_o, q_few09_is, q_log_is l 25 (by decide), q_made_is q wq, xnot, Bool.not_true, cond_true, cond_false]
  cases hf : (S.law09_Few_o q.steps).x0 with
  | false => simp
  | true =>
  have hl : q.steps.length ≤ 1048576 := by have := q_few09_o _ hf; omega
  cases hg : (S.law12_Log_o l 25).x0 with
  | false => simp
  | true =>
  have hlog := q_log_o l 25 (by decide) hg
  cases hm : (S.ref09_May_o q.steps q.within q.agg q.aggStep q.aggF).x0 with
  | false => simp
  | true =>
  by_cases c1 : x < 0
  · simp [xdec, c1]
  by_cases c2 : x ≥ (l.length : Int)
  · simp [xdec, c1, c2]
  obtain ⟨i, rfl⟩ : ∃ i : Nat, x = (i : Int) := ⟨x.toNat, by omega⟩
  have hi : i < l.length := by omega
  have hb : l.length ≤ 1000 := by omega
  rw [q_One_is q l i hl hb hi, q_One_o q l i hl hb hi]
  simp only [xdec, c1, c2, decide_false, decide_true, cond_true, cond_false, Bool.not_true]
  cases ho : oneL HB q l i with
  | none => simp [outOne, e_xeqI, xeqB]
  | some m =>
  obtain ⟨hm1, hm2⟩ := oneL_some ho
  obtain ⟨n1, n2, n3⟩ := nRun_le (H := HB) (q := q) l hi
  have n2' := n2 (by rw [hm2]; decide)
  have hs : m.start = (i : Int) := by rw [hm1]; rfl
  have hfin : m.fin = ((i + nRun HB q l i : Nat) : Int) := by rw [hm1]; show (i : Int) + (nRun HB q l i : Nat) = _; omega
  have z1 : ¬ (m.fin < (i : Int)) := by omega
  have z2 : ¬ (m.fin ≥ (l.length : Int)) := by omega
  have g1 := q_Live_is q l i (i + nRun HB q l i) hl hb (by omega) n2'
  have g2 := q_Live_o q l i (i + nRun HB q l i) hl hb (by omega) n2'
  have g3 : liveB HB q l (i + nRun HB q l i) i = false := by simp [liveB]
  rw [g3] at g2
  have w : IntKind.i64.wrap ((l.length : Int) - 1) = ((l.length - 1 : Nat) : Int) := by rw [e_wrap (by omega) (by omega)]; omega
  have k1 := q_Live_is q l i (l.length - 1) hl hb (by omega) (by omega)
  have k2 := q_Live_o q l i (l.length - 1) hl hb (by omega) (by omega)
  have k3 : liveB HB q l (l.length - 1) i = false := by
    have : ¬ (l.length - 1 < i + nRun HB q l i) := by omega
    simp [liveB, this]
  rw [k3] at k2
  have hloop := each_loop q l hl hb i (nRun HB q l i) n2' rfl
  have hE : (i : Int) + (nRun HB q l i : Nat) = m.fin := by omega
  rw [hE] at hloop
  rw [← hfin] at g1 g2
  dsimp only [outOne]
  simp only [xwrap, w]
  rw [g1, g2, k1, k2]
  simp only [S.law12_ModelEach_13_j, Lp_j_of hloop, hs, e_xneI, z1, z2, decide_false, decide_true, cond_true, cond_false, ne_eq, not_true, Bool.not_true]
  rfl
end Go.Eng
