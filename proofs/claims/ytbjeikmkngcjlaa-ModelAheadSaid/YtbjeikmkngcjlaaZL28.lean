/- Contracts, laid by program. -/
import Derived.Test.YtbjeikmkngcjlaaZG12
set_option linter.unusedVariables false
set_option linter.unusedSimpArgs false
namespace Go.Eng
noncomputable section
open Go Go.Eng Go.Proofs Go.Eng.Tab
abbrev cx_law12_ModelAhead : Cx := mkCx2 tyTab [(50, g_law09_Few), (60, g_law12_Log), (72, g_law12_awake), (76, g_model_One)] [] [] []
theorem rdy_law12_ModelAhead : Ready Try.prog tyTab [(50, g_law09_Few), (60, g_law12_Log), (72, g_law12_awake), (76, g_model_One)] [] [] := ⟨consG2 law09_Few_ok (consG2 law12_Log_ok (consG2 law12_awake_ok (consG2 model_One_ok (noneG2)))), noneI2, noneF2⟩
structure S.law12_ModelAhead_T where
  x0 : Bool
  deriving Inhabited
def S.law12_ModelAhead_R (a0_0 : List (Ty .step)) (a0_1 : Int) (a0_2 : Int) (a0_3 : Int) (a0_4 : Int) (a1 : List (Ty .evt)) (a2 : Int) : DT S.law12_ModelAhead_T :=
let y0 : Nat := a1.length
let y1 : List (Ty .evt) := sub a1 a2.toNat y0
let y2 : S.model_One_T := S.model_One_o a0_0 a0_1 a0_2 a0_3 a0_4 a1 a2
let y3 : Bool := y2.x4
let y4 : S.model_One_T := S.model_One_o a0_0 a0_1 a0_2 a0_3 a0_4 y1 0
(.br (S.law12_awake_is)
(.br (S.law09_Few_is a0_0)
(.br (S.law12_Log_is a1 25)
(.br (xnot S.law12_awake_o.x0)
(.leaf ⟨S.law12_awake_o.x0⟩)
(.br (xnot (S.law09_Few_o a0_0).x0)
(.leaf ⟨S.law12_awake_o.x0⟩)
(.br (xnot (S.law12_Log_o a1 25).x0)
(.leaf ⟨S.law12_awake_o.x0⟩)
(.br (xdec (a2 < 0))
(.leaf ⟨S.law12_awake_o.x0⟩)
(.br (xdec (a2 ≥ (↑y0 : Int)))
(.leaf ⟨S.law12_awake_o.x0⟩)
(.br (S.model_One_is a0_0 a0_1 a0_2 a0_3 a0_4 a1 a2)
(.br (xdec (0 ≤ a2) && xdec (a2 ≤ Int.ofNat y0) && true && true)
(.br (S.model_One_is a0_0 a0_1 a0_2 a0_3 a0_4 y1 0)
(.br (bif y3 == y4.x4 then false else true)
(.leaf ⟨false⟩)
(.br (xnot y3)
(.leaf ⟨true⟩)
(.leaf ⟨xeqI y2.x0 (xwrap IntKind.i64 (y4.x0 + a2)) && (xeqI y2.x1 (xwrap IntKind.i64 (y4.x1 + a2)) && (xeqI y2.x2 y4.x2 && xeqB y2.x3 y4.x3))⟩)))
.fail)
.fail)
.fail))))))
.fail)
.fail)
.fail)
def S.law12_ModelAhead (a0_0 : List (Ty .step)) (a0_1 : Int) (a0_2 : Int) (a0_3 : Int) (a0_4 : Int) (a1 : List (Ty .evt)) (a2 : Int) : Option S.law12_ModelAhead_T := (S.law12_ModelAhead_R a0_0 a0_1 a0_2 a0_3 a0_4 a1 a2).run
def S.law12_ModelAhead_is (a0_0 : List (Ty .step)) (a0_1 : Int) (a0_2 : Int) (a0_3 : Int) (a0_4 : Int) (a1 : List (Ty .evt)) (a2 : Int) : Bool := (S.law12_ModelAhead a0_0 a0_1 a0_2 a0_3 a0_4 a1 a2).isSome
def S.law12_ModelAhead_o (a0_0 : List (Ty .step)) (a0_1 : Int) (a0_2 : Int) (a0_3 : Int) (a0_4 : Int) (a1 : List (Ty .evt)) (a2 : Int) : S.law12_ModelAhead_T := (S.law12_ModelAhead a0_0 a0_1 a0_2 a0_3 a0_4 a1 a2).getD default
def ret_law12_ModelAhead (b : Bool) (r : S.law12_ModelAhead_T) : Ret := ⟨b, none, [(false, [C.d (.sc (.bool r.x0))])]⟩
def g_law12_ModelAhead : Con
  | [(true, [.sl a0_0n a0_0f .step a0_0, .sc (.int .i64 a0_1), .sc (.int .i64 a0_2), .sc (.int .i64 a0_3), .sc (.int .i64 a0_4)]), (false, [.sl a1n a1f .evt a1]), (false, [.sc (.int .i64 a2)])] => some (ret_law12_ModelAhead (S.law12_ModelAhead_is a0_0 a0_1 a0_2 a0_3 a0_4 a1 a2) (S.law12_ModelAhead_o a0_0 a0_1 a0_2 a0_3 a0_4 a1 a2))
  | _ => none
theorem raw_law12_ModelAhead (a0_0n : Option Bool) (a0_0f : Bool) (a0_0 : List (Ty .step)) (a0_1 : Int) (a0_2 : Int) (a0_3 : Int) (a0_4 : Int) (a1n : Option Bool) (a1f : Bool) (a1 : List (Ty .evt)) (a2 : Int) : evR2 cx_law12_ModelAhead (hdI cx_law12_ModelAhead (find []) [] none 0) none Try.f28 28 none [(true, [.sl a0_0n a0_0f .step a0_0, .sc (.int .i64 a0_1), .sc (.int .i64 a0_2), .sc (.int .i64 a0_3), .sc (.int .i64 a0_4)]), (false, [.sl a1n a1f .evt a1]), (false, [.sc (.int .i64 a2)])] some = (S.law12_ModelAhead_R a0_0 a0_1 a0_2 a0_3 a0_4 a1 a2).go (ret_law12_ModelAhead true) := by kernel_rfl
theorem bs_law12_ModelAhead : loopsIn Try.f28 [] = [] := by kernel_rfl
theorem law12_ModelAhead_ok : Stands Try.prog tyTab 28 g_law12_ModelAhead := by
  refine stands3 (L := find []) (n := 0) (hints := []) (cx_ok rfl) rdy_law12_ModelAhead ⟨by kernel_rfl, by kernel_rfl, by kernel_rfl⟩ bs_law12_ModelAhead nilB (fun das r hG hr => ?_)
  unfold g_law12_ModelAhead at hG
  split at hG
  · rename_i a0_0n a0_0f a0_0 a0_1 a0_2 a0_3 a0_4 a1n a1f a1 a2
    injection hG with hG; subst hG
    exact ⟨none, true, win default ((raw_law12_ModelAhead a0_0n a0_0f a0_0 a0_1 a0_2 a0_3 a0_4 a1n a1f a1 a2).trans (DT.go_run _ _)) hr⟩
  · cases hG
end
end Go.Eng
