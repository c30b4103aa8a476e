/- The law of later events. -/
import Derived.Test.YtbjeikmkngcjlaaZP38
import Derived.Test.YtbjeikmkngcjlaaZL24
set_option maxHeartbeats 2000000
set_option linter.unusedVariables false
set_option linter.unusedSimpArgs false
namespace Go.Eng
open Go Go.Eng
theorem all_len25 (H : HH) (q : Query) (l : List Evt) (most : Int) : (allL H q l most).length ≤ l.length := by
  unfold allL
  rw [stab_len]
  exact Nat.le_trans (List.length_filter_le _ _) (Nat.le_trans (List.length_filterMap_le _ _) (by simp))
theorem q_sameL (l : List (Ty .mat)) (hb : l.length ≤ 1000) : S.zqbj l l = some ⟨true⟩ := by
  have e : Lp (S.zqbj_4_r l l) (⟨0⟩ : S.zqbj_4_V) = some (1, ⟨l.length⟩) := by
    refine Lp_walk (fun k => (⟨(k : Int)⟩ : S.zqbj_4_V)) l.length 1 (fun i hi => ?_) ?_
    · have h1 : ((i : Int) < (l.length : Int)) := by omega
      have h2 : (0 : Int) ≤ (i : Int) := by omega
      unfold S.zqbj_4_r S.zqbj_4_R; dsimp only
      simp [DT.run_br, DT.run_leaf, xdec, xwrap, e_xeqI, xeqB, h1, h2, hi, e_wrap1 (show i ≤ 1048576 by omega)]
    · unfold S.zqbj_4_r S.zqbj_4_R; simp [DT.run_br, DT.run_leaf, xdec]
  unfold S.zqbj S.zqbj_R; dsimp only
  simp [DT.run_br, DT.run_leaf, e_xneI, S.zqbj_4_j, Lp_j_of e]
theorem q_sameL_is (l : List (Ty .mat)) (hb : l.length ≤ 1000) : S.zqbj_is l l = true := by unfold S.zqbj_is; rw [q_sameL l hb]; rfl
theorem q_sameL_o (l : List (Ty .mat)) (hb : l.length ≤ 1000) : (S.zqbj_o l l).x0 = true := by unfold S.zqbj_o; rw [q_sameL l hb]; rfl
theorem sub_zero {α : Type} (l : List α) (n : Nat) : sub l 0 n = l.take n := by unfold sub; simp
theorem law_ModelLater (n0 : Option Bool) (f0 : Bool) (q : Query) (n1 : Option Bool) (f1 : Bool) (l : List (Ty .evt)) (x most : Int) : S.zqaq n0 f0 q.steps q.within q.agg q.aggStep q.aggF n1 f1 l x most = some ⟨true⟩ := by
  unfold S.zqaq S.zqaq_R; dsimp only
  simp only [DT.run_br, DT.run_leaf, DT.run_fail, q_awake12_is, q_awake12_o, q_few09_is, q_log_is l 25 (by decide), xnot, Bool.not_true, cond_true, cond_false]
  cases hf : (S.zqbq_o q.steps).x0 with
  | false => simp
  | true =>
  have hl : q.steps.length ≤ 1048576 := by have := q_few09_o _ hf; omega
  cases hg : (S.zqbs_o l 25).x0 with
  | false => simp
  | true =>
  have hlog := q_log_o l 25 (by decide) hg
  by_cases c1 : x < 0
  · simp [xdec, c1]
  by_cases c2 : x > (l.length : Int)
  · simp [xdec, c1, c2]
  obtain ⟨k, rfl⟩ : ∃ k : Nat, x = (k : Int) := ⟨x.toNat, by omega⟩
  have hk : k ≤ l.length := by omega
  have z1 : (0 : Int) ≤ (k : Int) := by omega
  have z2 : (k : Int) ≤ Int.ofNat l.length := by show (k : Int) ≤ (l.length : Int); omega
  have lt : (l.take k).length = k := by simp; omega
  have A1 := q_All2_is sorts39 n0 f0 q none (f1 && xdec ((k : Int) = (l.length : Int))) (l.take k) most hl (by omega) (by omega)
  obtain ⟨g1, A2⟩ := q_All2_o sorts39 n0 f0 q none (f1 && xdec ((k : Int) = (l.length : Int))) (l.take k) most hl (by omega) (by omega)
  have B1 := q_All2_is sorts39 n0 f0 q n1 f1 l most hl (by omega) (by omega)
  obtain ⟨g2, B2⟩ := q_All2_o sorts39 n0 f0 q n1 f1 l most hl (by omega) (by omega)
  obtain ⟨r, hr, hfin⟩ := all_take (H := HB) (q := q) l most hk
  have ho := over_take (H := HB) (q := q) l most hk
  have hbA := all_len25 HB q (l.take k) most
  have hbB := all_len25 HB q l most
  rw [hr] at B2 hbB
  simp only [Int.toNat_natCast, sub_zero]
  rw [A1, A2, B1, B2, q_Over_is q (l.take k) most hl (by omega), q_Over_o q (l.take k) most hl (by omega), q_Over_is q l most hl (by omega), q_Over_o q l most hl (by omega)]
  dsimp only
  generalize allL HB q (l.take k) most = A at *
  have lB : (A ++ r).length = A.length + r.length := by simp
  have e1 : Int.toNat (Int.ofNat A.length) = A.length := rfl
  simp only [sub_zero, Nat.zero_add, e1, List.take_length, List.take_left', Int.toNat_natCast, lB]
  have s1 := q_sameL_is A (by omega)
  have s2 := q_sameL_o A (by omega)
  rw [s1, s2]
  have z3 : ¬ ((A.length : Int) > ((A.length + r.length : Nat) : Int)) := by omega
  have z4 : (0 : Int) ≤ (A.length : Int) := by omega
  have z5 : (A.length : Int) ≤ Int.ofNat (A.length + r.length) := by show (A.length : Int) ≤ ((A.length + r.length : Nat) : Int); omega
  have z6 : A.length ≤ A.length + r.length := by omega
  simp only [xdec, c1, c2, z1, z2, z3, z4, z5, z6, Nat.le_refl, decide_true, decide_false, cond_true, cond_false, Bool.and_self, Bool.true_and, Bool.and_true, Bool.not_true]
  have hover : (bif xeqI (overL HB q (l.take k) most) (overL HB q l most) then some (⟨true⟩ : S.zqaq_T) else bif xeqI (overL HB q (l.take k) most) (-1) then some ⟨decide (overL HB q l most ≥ (k : Int))⟩ else some ⟨false⟩) = some ⟨true⟩ := by
    rw [ho]
    by_cases d : overL HB q l most < (k : Int)
    · rw [if_pos d]; simp [e_xeqI]
    · rw [if_neg d]
      have d2 : overL HB q l most ≥ (k : Int) := by omega
      by_cases d3 : (-1 : Int) = overL HB q l most
      · simp [e_xeqI, ← d3]
      · simp [e_xeqI, d3, d2]
  by_cases d : ((A.length + r.length : Nat) : Int) > (A.length : Int)
  · have dr : 0 < r.length := by omega
    have z7 : ((A.length : Nat) : Int) < ((A.length + r.length : Nat) : Int) := by omega
    have z8 : A.length < A.length + r.length := by omega
    have hget : (A ++ r).getD A.length (dflt ET.mat) = r[0] := by
      rw [List.getD_eq_getElem?_getD, List.getElem?_append_right (Nat.le_refl _), Nat.sub_self, List.getElem?_eq_getElem dr]; rfl
    have hf0 := hfin r[0] (List.getElem_mem dr)
    have z9 : ¬ (r[0].fin < (k : Int)) := by omega
    rw [hget]
    simp only [d, z7, z8, z9, decide_true, decide_false, cond_true, cond_false, Bool.and_self]
    exact hover
  · simp only [d, decide_false, cond_false]
    exact hover
end Go.Eng
