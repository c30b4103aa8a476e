/- What the parts of a run's step come to, in plain words. -/
import Derived.Test.YtbjeikmkngcjlaaVZN3
import Derived.Test.YtbjeikmkngcjlaaVZP2
set_option linter.unusedVariables false
set_option linter.unusedSimpArgs false
namespace Go.Eng
open Go Go.Eng
theorem q_holds (n : ByteArray) (a : Int) (v : List (Ty .val)) (l : List (Ty .op)) : (S.zvnj_R n a v l).all (fun r => l = [] → r.x0 = true) := by
 unfold S.zvnj_R; dsimp only
 rw [q_eval]
 cases l with
 | nil => simp [DT.all_br, DT.all_leaf, DT.all_fail, e_xeqI]
 | cons x l => simp [DT.all_br, DT.all_leaf, DT.all_fail]
theorem q_holds_is (n : ByteArray) (a : Int) (v : List (Ty .val)) (l : List (Ty .op)) : S.zvnj_is n a v l = true := DT.all_is (q_holds n a v l)
theorem q_holds_nil (n : ByteArray) (a : Int) (v : List (Ty .val)) : (S.zvnj_o n a v []).x0 = true := DT.all_o (q_holds n a v []) rfl
noncomputable def HB : HH := fun nm ifs e => decide (nm = e.name) && (S.zvnj_o e.name e.at_ e.v ifs).x0
theorem HB_plain (nm : ByteArray) (e : Evt) : HB nm [] e = decide (nm = e.name) := by
 have h : (S.zvnj_o e.name e.at_ e.v ([] : List Opn)).x0 = true := q_holds_nil e.name e.at_ e.v
 unfold HB
 rw [h]; simp
theorem q_iHolds (nm : ByteArray) (ifs : List (Ty .op)) (en : ByteArray) (ea : Int) (ev : List (Ty .val)) : S.zh5h nm ifs en ea ev = some ⟨HB nm ifs ⟨en, ea, ev⟩⟩ := by
 unfold S.zh5h S.zh5h_R HB
 by_cases h : nm = en
 ·simp [DT.run_br, DT.run_leaf, xdec, h, q_holds_is]
 ·simp [DT.run_br, DT.run_leaf, xdec, h]
end Go.Eng
