/- The law of later events. -/
import Derived.Test.YtbjeikmkngcjlaaZP38
import Derived.Test.YtbjeikmkngcjlaaZL24
set_option maxHeartbeats 2000000
set_option linter.unusedVariables false
set_option linter.unusedSimpArgs false
namespace Go.Eng
open Go Go.Eng
theorem all_len25 (H : HH) (q : Query) (l : List Evt) (most : Int) : (allL H q l most).length ≤ l.length := by
 unfold allL
 rw [stab_len]
 exact Nat.le_trans (List.length_filter_le _ _) (Nat.le_trans (List.length_filterMap_le _ _) (by simp))
theorem q_sameL (l : List (Ty .mat)) (hb : l.length ≤ 1000) : S.z2j4 l l = some ⟨true⟩ := by
 have e : Lp (S.z2j4_4_r l l) (⟨0⟩ : S.z2j4_4_V) = some (1, ⟨l.length⟩) := by
  refine Lp_walk (fun k => (⟨(k : Int)⟩ : S.z2j4_4_V)) l.length 1 (fun i hi => ?_) ?_
  ·have h1 : ((i : Int) < (l.length : Int)) := by omega
   have h2 : (0 : Int) ≤ (i : Int) := by omega
   unfold S.z2j4_4_r S.z2j4_4_R; dsimp only
   simp [DT.run_br, DT.run_leaf, xdec, xwrap, e_xeqI, xeqB, h1, h2, hi, e_wrap1 (show i ≤ 1048576 by omega)]
  ·unfold S.z2j4_4_r S.z2j4_4_R; simp [DT.run_br, DT.run_leaf, xdec]
 unfold S.z2j4 S.z2j4_R; dsimp only
 simp [DT.run_br, DT.run_leaf, e_xneI, S.z2j4_4_j, Lp_j_of e]
theorem q_sameL_is (l : List (Ty .mat)) (hb : l.length ≤ 1000) : S.z2j4_is l l = true := by unfold S.z2j4_is; rw [q_sameL l hb]; rfl
theorem q_sameL_o (l : List (Ty .mat)) (hb : l.length ≤ 1000) : (S.z2j4_o l l).x0 = true := by unfold S.z2j4_o; rw [q_sameL l hb]; rfl
theorem sub_zero {α : Type} (l : List α) (n : Nat) : sub l 0 n = l.take n := by unfold sub; simp
end Go.Eng
