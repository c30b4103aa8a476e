/- The law of room. -/
import Derived.Test.YtbjeikmkngcjlaaZP39
import Derived.Test.YtbjeikmkngcjlaaZL29
set_option maxHeartbeats 2000000
set_option linter.unusedVariables false
set_option linter.unusedSimpArgs false
namespace Go.Eng
open Go Go.Eng
def FstAt (q : Query) (l : List Evt) (k : Nat) (t : Int) : Prop := (t = -1 ∧ ∀ e, k ≤ e → e < l.length → ¬ 0 < nRun HB q l e) ∨ (∃ e : Nat, k ≤ e ∧ e < l.length ∧ t = e ∧ 0 < nRun HB q l e ∧ ∀ j, k ≤ j → j < e → ¬ 0 < nRun HB q l j)
theorem mroom_loop (q : Query) (l : List (Ty .evt)) (hl : q.steps.length ≤ 1048576) (hb : l.length ≤ 1000) : ∀ (k : Nat) (t : Int), k ≤ l.length → FstAt q l k t →
    ∃ t', Lp (S.zojm_8_r l q.steps q.within q.agg q.aggStep q.aggF) ⟨t, (k : Int) - 1⟩ = some (0, ⟨t', -1⟩) ∧ FstAt q l 0 t'
 | 0, t, hk, hf => by
  refine ⟨t, Lp_exit ?_, hf⟩
  unfold S.zojm_8_r S.zojm_8_R
  simp [DT.run_br, DT.run_leaf, xdec]
 | k + 1, t, hk, hf => by
  have hk' : k < l.length := by omega
  have e0 : ((k + 1 : Nat) : Int) - 1 = (k : Int) := by omega
  have z1 : (k : Int) ≥ 0 := by omega
  have w : IntKind.i64.wrap ((k : Int) - 1) = (k : Int) - 1 := e_wrap (by omega) (by omega)
  have g1 := q_Live_is q l k k hl hb (Nat.le_refl _) hk'
  have g2 := q_Live_o q l k k hl hb (Nat.le_refl _) hk'
  have g3 : liveB HB q l k k = decide (0 < nRun HB q l k) := by
   by_cases c : 0 < nRun HB q l k
   ·have : k < k + nRun HB q l k := by omega
    simp [liveB, c]
   ·have : ¬ k < k + nRun HB q l k := by omega
    simp [liveB, c]
  rw [g3] at g2
  rw [e0]
  by_cases c : 0 < nRun HB q l k
  ·obtain ⟨t', h1, h2⟩ := mroom_loop q l hl hb k (k : Int) (by omega) (.inr ⟨k, Nat.le_refl _, hk', rfl, c, fun j h1 h2 => by omega⟩)
   refine ⟨t', ?_, h2⟩
   rw [Lp_cont (v' := ⟨(k : Int), (k : Int) - 1⟩)]
   ·exact h1
   ·unfold S.zojm_8_r S.zojm_8_R
    dsimp only
    rw [g1, g2]
    simp only [DT.run_br, DT.run_leaf, DT.run_fail, xdec, xwrap, w, z1, c, decide_true, cond_true]
  ·obtain ⟨t', h1, h2⟩ := mroom_loop q l hl hb k t (by omega) (by
     rcases hf with ⟨f1, f2⟩ | ⟨e, f1, f2, f3, f4, f5⟩
     ·refine .inl ⟨f1, fun e he hel => ?_⟩
      by_cases d : e = k
      ·subst d; exact c
      ·exact f2 e (by omega) hel
     ·refine .inr ⟨e, by omega, f2, f3, f4, fun j h1 h2 => ?_⟩
      by_cases d : j = k
      ·subst d; exact c
      ·exact f5 j (by omega) h2)
   refine ⟨t', ?_, h2⟩
   rw [Lp_cont (v' := ⟨t, (k : Int) - 1⟩)]
   ·exact h1
   ·unfold S.zojm_8_r S.zojm_8_R
    dsimp only
    rw [g1, g2]
    simp only [DT.run_br, DT.run_leaf, DT.run_fail, xdec, xwrap, w, z1, c, decide_true, decide_false, cond_true, cond_false]
theorem nLive_le (q : Query) (l : List Evt) (e : Nat) : nLive HB q l e ≤ l.length := by
 unfold nLive
 exact Nat.le_trans List.countP_le_length (by simp)
theorem over_room (q : Query) (l : List Evt) (most : Int) (h : (l.length : Int) ≤ most) : overL HB q l most = -1 :=
 overL_none fun j hj => by
  have := nLive_le q l j
  have : ¬ ((nLive HB q l j : Int) > most) := by omega
  simp [overB, this]
theorem over_zero (q : Query) (l : List Evt) {e : Nat} (he : e < l.length) : overB HB q l 0 e = decide (0 < nRun HB q l e) := by
 unfold overB
 by_cases c : 0 < nRun HB q l e
 ·have hm : 0 < nLive HB q l e := by
    unfold nLive
    refine List.countP_pos_iff.2 ⟨e, List.mem_range.2 he, ?_⟩
    have : e < e + nRun HB q l e := by omega
    simp [liveB, c]
  have : ((nLive HB q l e : Int) > 0) := by omega
  simp [c, hm]
 ·simp [c]
theorem over_fst (q : Query) (l : List Evt) {t : Int} (h : FstAt q l 0 t) : overL HB q l 0 = t := by
 rcases h with ⟨h1, h2⟩ | ⟨e, h1, h2, h3, h4, h5⟩
 ·rw [h1]
  exact overL_none fun j hj => by rw [over_zero q l hj]; simpa using h2 j (Nat.zero_le _) hj
 ·rw [h3]
  exact overL_of h2 (by rw [over_zero q l h2]; simpa using h4) fun j hj => by rw [over_zero q l (by omega)]; simpa using h5 j (Nat.zero_le _) hj
theorem law_ModelRoom (n0 : Option Bool) (f0 : Bool) (q : Query) (n1 : Option Bool) (f1 : Bool) (l : List (Ty .evt)) : S.zojm n0 f0 q.steps q.within q.agg q.aggStep q.aggF n1 f1 l = some ⟨true⟩ := by
 unfold S.zojm S.zojm_R; dsimp only
 simp only [DT.run_br, DT.run_leaf, DT.run_fail, q_awake12_is, q_awake12_o, q_few09_is, q_log_is l 25 (by decide), xnot, Bool.not_true, cond_true, cond_false]
 cases hf : (S.zydq_o q.steps).x0 with
 | false => simp
 | true =>
 have hl : q.steps.length ≤ 1048576 := by have := q_few09_o _ hf; omega
 cases hg : (S.zgwp_o l 25).x0 with
 | false => simp
 | true =>
 have hlog := q_log_o l 25 (by decide) hg
 have A1 := q_All2_is sorts39 n0 f0 q n1 f1 l (l.length : Nat) hl (by omega) (by omega)
 obtain ⟨g1, A2⟩ := q_All2_o sorts39 n0 f0 q n1 f1 l (l.length : Nat) hl (by omega) (by omega)
 have B1 := q_All2_is sorts39 n0 f0 q n1 f1 l 1000 hl (by omega) (by omega)
 obtain ⟨g2, B2⟩ := q_All2_o sorts39 n0 f0 q n1 f1 l 1000 hl (by omega) (by omega)
 have hv1 := over_room q l (l.length : Nat) (Int.le_refl _)
 have hv2 := over_room q l 1000 (by omega)
 have hAB : allL HB q l 1000 = allL HB q l (l.length : Nat) := by unfold allL; rw [hv1, hv2]
 have hbA := all_len25 HB q l (l.length : Nat)
 have w : IntKind.i64.wrap ((l.length : Int) - 1) = (l.length : Int) - 1 := e_wrap (by omega) (by omega)
 obtain ⟨t, h1, h2⟩ := mroom_loop q l hl (by omega) l.length (-1) (Nat.le_refl _) (.inl ⟨rfl, fun e h1 h2 => by omega⟩)
 have hz := over_fst q l h2
 rw [hAB] at B2
 simp only [xwrap, w]
 rw [A1, A2, B1, B2, q_Over_is q l (l.length : Nat) hl (by omega), q_Over_o q l (l.length : Nat) hl (by omega), q_Over_is q l 0 hl (by omega), q_Over_o q l 0 hl (by omega), hv1, hz]
 dsimp only
 generalize allL HB q l (l.length : Nat) = A at *
 simp only [S.zojm_8_j, S.zojm_8_v, Lp_j_of h1, Lp_v_of h1]
 simp only [sub_zero, Nat.zero_add, List.take_length]
 have s1 := q_sameL_is A (by omega)
 have s2 := q_sameL_o A (by omega)
 rw [s1, s2]
 simp only [xdec, e_xeqI, Nat.le_refl, decide_true, cond_true, cond_false, Bool.and_self, Bool.true_and, Bool.and_true, Bool.not_true, beq_self_eq_true]
end Go.Eng
