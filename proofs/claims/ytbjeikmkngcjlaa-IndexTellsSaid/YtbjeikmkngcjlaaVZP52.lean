/- The laws of what is asked: one query more; each query twice. -/
import Derived.Test.YtbjeikmkngcjlaaVZP51
import Derived.Test.YtbjeikmkngcjlaaVZLI5
import Derived.Test.YtbjeikmkngcjlaaVZLI7
set_option linter.unusedVariables false
set_option linter.unusedSimpArgs false
namespace Go.Eng
open Go Go.Eng
theorem q_r8same (l : List (Ty .op)) (hb : l.length ≤ maxLen) : S.r8same l l = some ⟨true⟩ := by
 have e : Lp (S.r8same_4_r l l) (⟨0⟩ : S.r8same_4_V) = some (1, ⟨l.length⟩) := by
  refine Lp_walk (fun k => (⟨(k : Int)⟩ : S.r8same_4_V)) l.length 1 (fun i hi => ?_) ?_
  ·have h1 : ((i : Int) < (l.length : Int)) := by omega
   have h2 : (0 : Int) ≤ (i : Int) := by omega
   unfold S.r8same_4_r S.r8same_4_R; dsimp only
   simp [DT.run_br, DT.run_leaf, xdec, xwrap, e_xeqI, h1, h2, hi, ix_wrap hi hb]
  ·unfold S.r8same_4_r S.r8same_4_R; simp [DT.run_br, DT.run_leaf, xdec]
 unfold S.r8same S.r8same_R; dsimp only
 simp [DT.run_br, DT.run_leaf, e_xneI, S.r8same_4_j, Lp_j_of e]
theorem q_Same10 (m : List Pred) (hm : m.length ≤ maxLen) (hs : ∀ p ∈ m, p.ifs.length ≤ maxLen) : S.zhje m m = some ⟨true⟩ := by
 have e : Lp (S.zhje_4_r m m) (⟨0⟩ : S.zhje_4_V) = some (1, ⟨m.length⟩) := by
  refine Lp_walk (fun k => (⟨(k : Int)⟩ : S.zhje_4_V)) m.length 1 (fun i hi => ?_) ?_
  ·have h1 : ((i : Int) < (m.length : Int)) := by omega
   have h2 : (0 : Int) ≤ (i : Int) := by omega
   have k := q_r8same m[i].ifs (hs _ (List.getElem_mem hi))
   unfold S.zhje_4_r S.zhje_4_R; dsimp only
   have e1 : @List.getD (Ty ET.pred) m i (dflt ET.pred) = m[i] := getD_of (α := Pred) m i _ hi
   rw [Int.toNat_natCast, e1]
   simp only [DT.run_br, DT.run_leaf, DT.run_fail, xdec, xwrap, xnot, S.r8same_is, S.r8same_o, k, Option.isSome_some, Option.getD_some, h1, h2, ix_wrap hi hm, decide_true, Bool.and_self, Bool.not_true, cond_true, cond_false]
  ·unfold S.zhje_4_r S.zhje_4_R; simp [DT.run_br, DT.run_leaf, xdec]
 unfold S.zhje S.zhje_R; dsimp only
 simp [DT.run_br, DT.run_leaf, e_xneI, S.zhje_4_j, Lp_j_of e]
end Go.Eng
