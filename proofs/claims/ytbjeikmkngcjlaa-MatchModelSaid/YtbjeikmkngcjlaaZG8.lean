/- Contracts, laid by program. -/
import Derived.Test.YtbjeikmkngcjlaaZG6
import Derived.Test.YtbjeikmkngcjlaaZG7
set_option linter.unusedVariables false
namespace Go.Eng
noncomputable section
open Go Go.Eng Go.Proofs Go.Eng.Tab
abbrev cx_z2oj : Cx := mkCx2 tyTab [(57, g_z3ps), (58, g_zxf7), (61, g_zpf4), (91, g_zu7x), (98, g_zi5w)] [] [] []
theorem rdy_z2oj : Ready Try.prog tyTab [(57, g_z3ps), (58, g_zxf7), (61, g_zpf4), (91, g_zu7x), (98, g_zi5w)] [] [] := ⟨consG2 z3ps_ok (consG2 zxf7_ok (consG2 zpf4_ok (consG2 zu7x_ok (consG2 zi5w_ok (noneG2))))), noneI2, noneF2⟩
structure S.z2oj_T where
 x0 : Bool
 deriving Inhabited
def S.z2oj_R  : DT S.z2oj_T :=
let y0 : S.zu7x_T := S.zu7x_o 5
let y1 : S.zpf4_T := S.zpf4_o y0.x0 y0.x1 y0.x2 y0.x3 y0.x4
let y2 : List (Ty .step) := y1.x0
let y3 : Int := y1.x1
let y4 : Int := y1.x2
let y5 : Int := y1.x3
let y6 : Int := y1.x4
let y7 : List (Ty .run) := y1.x5
let y8 : Int := y1.x6
let y9 : ByteArray := { data := { toList := [97] : Array UInt8 } : ByteArray }
let y10 : S.zxf7_T := S.zxf7_o y2 y3 y4 y5 y6 y7 y8 y9 0 [] 0
let y11 : List (Ty .step) := y10.x0
let y12 : Int := y10.x1
let y13 : Int := y10.x2
let y14 : Int := y10.x3
let y15 : Int := y10.x4
let y16 : List (Ty .run) := y10.x5
let y17 : Int := y10.x6
let y18 : S.zxf7_T := S.zxf7_o y11 y12 y13 y14 y15 y16 y17 y9 0 [] 1
let y19 : List (Ty .step) := y18.x0
let y20 : Int := y18.x1
let y21 : Int := y18.x2
let y22 : Int := y18.x3
let y23 : Int := y18.x4
let y24 : List (Ty .run) := y18.x5
let y25 : Int := y18.x6
let y26 : ByteArray := { data := { toList := [98] : Array UInt8 } : ByteArray }
let y27 : S.zxf7_T := S.zxf7_o y19 y20 y21 y22 y23 y24 y25 y26 0 [] 2
let y28 : List (Ty .mat) := y27.x7
let y29 : Int := (↑y28.length : Int)
let y30 : List (Ty .run) := y27.x5
let y31 : List (Ty .step) := y27.x0
let y32 : Int := y27.x1
let y33 : Int := y27.x2
let y34 : Int := y27.x3
let y35 : Int := y27.x4
let y36 : Int := y27.x6
(.br (S.zu7x_is 5)
(.br (S.zxf7_is y2 y3 y4 y5 y6 y7 y8 y9 0 [] 0)
(.br (S.zxf7_is y11 y12 y13 y14 y15 y16 y17 y9 0 [] 1)
(.br (S.zxf7_is y19 y20 y21 y22 y23 y24 y25 y26 0 [] 2)
(.br (xeqI (xwrap .i64 ((↑y10.x7.length : Int) + (↑y18.x7.length : Int))) 0)
(.br (xeqI y29 2)
(.br (xdec (0 ≤ 0) && xdec (0 < y29))
(.br (xeqI (y28.getD (Int.toNat 0) (dflt .mat)).start 0)
(.br (xdec (0 ≤ 1) && xdec (1 < y29))
(.br (xeqI (y28.getD (Int.toNat 1) (dflt .mat)).start 1)
(.br (xeqI (↑y30.length : Int) 0)
(.br (S.z3ps_is y19 y24 y25)
(.br ((S.z3ps_o y19 y24 y25).x0)
(.br (S.zi5w_is y19 y20 y21 y22 y23 y24 y25 y31 y32 y33 y34 y35 y30 y36)
(.leaf ⟨xnot (S.zi5w_o y19 y20 y21 y22 y23 y24 y25 y31 y32 y33 y34 y35 y30 y36).x0⟩)
.fail)
(.leaf ⟨false⟩))
.fail)
(.leaf ⟨false⟩))
(.leaf ⟨false⟩))
.fail)
(.leaf ⟨false⟩))
.fail)
(.leaf ⟨false⟩))
(.leaf ⟨false⟩))
.fail)
.fail)
.fail)
.fail)
def S.z2oj  : Option S.z2oj_T := (S.z2oj_R ).run
def S.z2oj_is  : Bool := (S.z2oj ).isSome
def S.z2oj_o  : S.z2oj_T := (S.z2oj ).getD default
def ret_z2oj (b : Bool) (r : S.z2oj_T) : Ret := ⟨b, none, [(false, [C.d (.sc (.bool r.x0))])]⟩
def g_z2oj : Con
 | [] => some (ret_z2oj (S.z2oj_is ) (S.z2oj_o ))
 | _ => none
theorem raw_z2oj  : evR2 cx_z2oj (hdI cx_z2oj (find []) [] none 0) none Try.f55 55 none [] some = (S.z2oj_R ).go (ret_z2oj true) := by kernel_rfl
theorem bs_z2oj : loopsIn Try.f55 [] = [] := by kernel_rfl
theorem z2oj_ok : Stands Try.prog tyTab 55 g_z2oj := by
 refine stands3 (L := find []) (n := 0) (hints := []) (cx_ok rfl) rdy_z2oj ⟨by kernel_rfl, by kernel_rfl, by kernel_rfl⟩ bs_z2oj nilB (fun das r hG hr => ?_)
 unfold g_z2oj at hG
 split at hG
 ·injection hG with hG; subst hG
  exact ⟨none, true, win default ((raw_z2oj ).trans (DT.go_run _ _)) hr⟩
 ·cases hG
end
end Go.Eng
