/- Contracts, laid by program. -/
import Derived.Test.YtbjeikmkngcjlaaZG9
set_option linter.unusedVariables false
set_option linter.unusedSimpArgs false
namespace Go.Eng
noncomputable section
open Go Go.Eng Go.Proofs Go.Eng.Tab
abbrev cx_law15_SubNew : Cx := mkCx2 tyTab [(51, g_ref09_May), (63, g_law15_awake), (65, g_sub_May), (68, g_sub_Give), (69, g_sub_Go), (78, g_sub_New), (79, g_sub_Ack)] [] [] []
theorem rdy_law15_SubNew : Ready Try.prog tyTab [(51, g_ref09_May), (63, g_law15_awake), (65, g_sub_May), (68, g_sub_Give), (69, g_sub_Go), (78, g_sub_New), (79, g_sub_Ack)] [] [] := ⟨consG2 ref09_May_ok (consG2 law15_awake_ok (consG2 sub_May_ok (consG2 sub_Give_ok (consG2 sub_Go_ok (consG2 sub_New_ok (consG2 sub_Ack_ok (noneG2))))))), noneI2, noneF2⟩
structure S.law15_SubNew_T where
  x0 : Bool
  deriving Inhabited
def S.law15_SubNew_R (a0 : Int) (a1 : Int) (a2_0 : List (Ty .step)) (a2_1 : Int) (a2_2 : Int) (a2_3 : Int) (a2_4 : Int) (a3 : Int) : DT S.law15_SubNew_T :=
let y0 : S.sub_New_T := S.sub_New_o a0 a1 a2_0 a2_1 a2_2 a2_3 a2_4
let y1 : Int := y0.x0
let y2 : Int := y0.x1
let y3 : List (Ty .step) := y0.x2
let y4 : Int := y0.x3
let y5 : Int := y0.x4
let y6 : Int := y0.x5
let y7 : Int := y0.x6
let y8 : List (Ty .run) := y0.x7
let y9 : Int := y0.x8
let y10 : Int := y0.x9
let y11 : Int := y0.x10
let y12 : List (Ty .mat) := y0.x11
let y13 : Bool := y0.x12
let y14 : Int := y0.x13
let y15 : Bool := y0.x14
let y16 : Bool := (S.sub_May_o y1 y2 y3 y8 y9 y10 y11 y12 y14 y15).x0
let y17 : Bool := xnot (S.sub_Give_o y1 y2 y3 y4 y5 y6 y7 y8 y9 y10 y11 y12 y13 y14 y15).x22
let y18 : Int := (S.sub_Go_o y1 y2 y3 y4 y5 y6 y7 y8 y9 y10 y11 y12 y14 a3).x15
let y19 : Bool := xeqI y18 0 == xeqI a3 0
let y20 : Bool := xeqI y18 (S.sub_Ack_o y1 y2 y3 y4 y5 y6 y7 y8 y9 y10 y11 y12 y13 y14 y15 a3).x15
let y21 : Bool := xeqI y1 a0
let y22 : Bool := xeqI y2 a1
let y23 : Bool := xeqI y14 0
(.br (S.law15_awake_is)
(.br (S.ref09_May_is a2_0 a2_1 a2_2 a2_3 a2_4)
(.br (xnot S.law15_awake_o.x0)
(.leaf ⟨S.law15_awake_o.x0⟩)
(.br (xnot (S.ref09_May_o a2_0 a2_1 a2_2 a2_3 a2_4).x0)
(.leaf ⟨S.law15_awake_o.x0⟩)
(.br (xdec ((↑a2_0.length : Int) > 8))
(.leaf ⟨S.law15_awake_o.x0⟩)
(.br (S.sub_Give_is y1 y2 y3 y4 y5 y6 y7 y8 y9 y10 y11 y12 y13 y14 y15)
(.br (S.sub_Go_is y1 y2 y3 y4 y5 y6 y7 y8 y9 y10 y11 y12 y14 a3)
(.br (S.sub_Ack_is y1 y2 y3 y4 y5 y6 y7 y8 y9 y10 y11 y12 y13 y14 y15 a3)
(.br (S.sub_May_is y1 y2 y3 y8 y9 y10 y11 y12 y14 y15)
(.br (xdec (a0 ≥ 0))
(.br (y16 == xdec (a1 ≥ 0))
(.br (y17)
(.br (y19)
(.br (y20)
(.br (y21)
(.br (y22)
(.leaf ⟨y23⟩)
(.leaf ⟨false⟩))
(.leaf ⟨false⟩))
(.leaf ⟨false⟩))
(.leaf ⟨false⟩))
(.leaf ⟨false⟩))
(.leaf ⟨false⟩))
(.br (y16 == false)
(.br (y17)
(.br (y19)
(.br (y20)
(.br (y21)
(.br (y22)
(.leaf ⟨y23⟩)
(.leaf ⟨false⟩))
(.leaf ⟨false⟩))
(.leaf ⟨false⟩))
(.leaf ⟨false⟩))
(.leaf ⟨false⟩))
(.leaf ⟨false⟩)))
.fail)
.fail)
.fail)
.fail))))
.fail)
.fail)
def S.law15_SubNew (a0 : Int) (a1 : Int) (a2_0 : List (Ty .step)) (a2_1 : Int) (a2_2 : Int) (a2_3 : Int) (a2_4 : Int) (a3 : Int) : Option S.law15_SubNew_T := (S.law15_SubNew_R a0 a1 a2_0 a2_1 a2_2 a2_3 a2_4 a3).run
def S.law15_SubNew_is (a0 : Int) (a1 : Int) (a2_0 : List (Ty .step)) (a2_1 : Int) (a2_2 : Int) (a2_3 : Int) (a2_4 : Int) (a3 : Int) : Bool := (S.law15_SubNew a0 a1 a2_0 a2_1 a2_2 a2_3 a2_4 a3).isSome
def S.law15_SubNew_o (a0 : Int) (a1 : Int) (a2_0 : List (Ty .step)) (a2_1 : Int) (a2_2 : Int) (a2_3 : Int) (a2_4 : Int) (a3 : Int) : S.law15_SubNew_T := (S.law15_SubNew a0 a1 a2_0 a2_1 a2_2 a2_3 a2_4 a3).getD default
def ret_law15_SubNew (b : Bool) (r : S.law15_SubNew_T) : Ret := ⟨b, none, [(false, [C.d (.sc (.bool r.x0))])]⟩
def g_law15_SubNew : Con
  | [(false, [.sc (.int .i64 a0)]), (false, [.sc (.int .i64 a1)]), (true, [.sl a2_0n a2_0f .step a2_0, .sc (.int .i64 a2_1), .sc (.int .i64 a2_2), .sc (.int .i64 a2_3), .sc (.int .i64 a2_4)]), (false, [.sc (.int .i64 a3)])] => some (ret_law15_SubNew (S.law15_SubNew_is a0 a1 a2_0 a2_1 a2_2 a2_3 a2_4 a3) (S.law15_SubNew_o a0 a1 a2_0 a2_1 a2_2 a2_3 a2_4 a3))
  | _ => none
theorem raw_law15_SubNew (a0 : Int) (a1 : Int) (a2_0n : Option Bool) (a2_0f : Bool) (a2_0 : List (Ty .step)) (a2_1 : Int) (a2_2 : Int) (a2_3 : Int) (a2_4 : Int) (a3 : Int) : evR2 cx_law15_SubNew (hdI cx_law15_SubNew (find []) [] none 0) none Try.f30 30 none [(false, [.sc (.int .i64 a0)]), (false, [.sc (.int .i64 a1)]), (true, [.sl a2_0n a2_0f .step a2_0, .sc (.int .i64 a2_1), .sc (.int .i64 a2_2), .sc (.int .i64 a2_3), .sc (.int .i64 a2_4)]), (false, [.sc (.int .i64 a3)])] some = (S.law15_SubNew_R a0 a1 a2_0 a2_1 a2_2 a2_3 a2_4 a3).go (ret_law15_SubNew true) := by kernel_rfl
theorem bs_law15_SubNew : loopsIn Try.f30 [] = [] := by kernel_rfl
theorem law15_SubNew_ok : Stands Try.prog tyTab 30 g_law15_SubNew := by
  refine stands3 (L := find []) (n := 0) (hints := []) (cx_ok rfl) rdy_law15_SubNew ⟨by kernel_rfl, by kernel_rfl, by kernel_rfl⟩ bs_law15_SubNew nilB (fun das r hG hr => ?_)
  unfold g_law15_SubNew at hG
  split at hG
  · rename_i a0 a1 a2_0n a2_0f a2_0 a2_1 a2_2 a2_3 a2_4 a3
    injection hG with hG; subst hG
    exact ⟨none, true, win default ((raw_law15_SubNew a0 a1 a2_0n a2_0f a2_0 a2_1 a2_2 a2_3 a2_4 a3).trans (DT.go_run _ _)) hr⟩
  · cases hG
end
end Go.Eng
