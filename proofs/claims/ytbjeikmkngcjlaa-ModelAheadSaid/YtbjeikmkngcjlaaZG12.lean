/- Contracts, laid by program. -/
import Derived.Test.YtbjeikmkngcjlaaZG11
set_option linter.unusedVariables false
set_option linter.unusedSimpArgs false
namespace Go.Eng
noncomputable section
open Go Go.Eng Go.Proofs Go.Eng.Tab
abbrev cx_law12_awake : Cx := mkCx2 tyTab [(73, g_model_All), (75, g_model_Over), (77, g_model_Live), (91, g_law11_Two)] [] [] []
theorem rdy_law12_awake : Ready Try.prog tyTab [(73, g_model_All), (75, g_model_Over), (77, g_model_Live), (91, g_law11_Two)] [] [] := ⟨consG2 model_All_ok (consG2 model_Over_ok (consG2 model_Live_ok (consG2 law11_Two_ok (noneG2)))), noneI2, noneF2⟩
structure S.law12_awake_T where
  x0 : Bool
  deriving Inhabited
def S.law12_awake_R  : DT S.law12_awake_T :=
let y0 : Bool := S.law11_Two_is 5
let y1 : Nat := 0 + 3
let y2 : Evt := { name := { data := { toList := [97] : Array UInt8 } : ByteArray }, at_ := 0, v := [] : Evt }
let y3 : Evt := { name := { data := { toList := [98] : Array UInt8 } : ByteArray }, at_ := 0, v := [] : Evt }
let y4 : Bool := xdec (y1 ≤ ((((List.replicate 3 (dflt ET.evt)).set 0 y2).set 1 y2).set 2 y3).length) && true && true
let y5 : S.law11_Two_T := S.law11_Two_o 5
let y6 : List (Ty .step) := y5.x0
let y7 : Int := y5.x1
let y8 : Int := y5.x2
let y9 : Int := y5.x3
let y10 : Int := y5.x4
let y11 : List (Ty .evt) := sub [y2, y2, y3] 0 y1
let y12 : S.model_All_T := S.model_All_o none false y6 y7 y8 y9 y10 none true y11 5
let y13 : Int := (↑y12.x2 : Int)
let y14 : Nat := 0 + Int.toNat 0
let y15 : List (Ty .mat) := y12.x0
let y16 : Nat := y15.length
let y17 : Ty ET.mat := y15.getD y14 (dflt ET.mat)
let y18 : Nat := 0 + Int.toNat 1
let y19 : Ty ET.mat := y15.getD y18 (dflt ET.mat)
(.br (y0)
(.br (y4 && S.model_All_is none false y6 y7 y8 y9 y10 none true y11 5)
(.br (xeqI y13 2)
(.br (xdec (0 ≤ 0) && xdec (0 < y13))
(.br (xdec (y14 < y16))
(.br (xeqI y17.start 0 && (xeqI y17.fin 2 && (xeqI y17.agg 1 && xeqB y17.bad false)))
(.br (xdec (0 ≤ 1) && xdec (1 < y13))
(.br (xdec (y18 < y16))
(.br (xeqI y19.start 1 && (xeqI y19.fin 2 && (xeqI y19.agg 1 && xeqB y19.bad false)))
(.br (y0)
(.br (y4 && S.model_Over_is y6 y7 y8 y9 y10 y11 1)
(.br (xeqI (S.model_Over_o y6 y7 y8 y9 y10 y11 1).x0 1)
(.br (y0)
(.br (y4 && S.model_Live_is y6 y7 y8 y9 y10 y11 0 1)
(.leaf ⟨(S.model_Live_o y6 y7 y8 y9 y10 y11 0 1).x0⟩)
.fail)
.fail)
(.leaf ⟨false⟩))
.fail)
.fail)
(.leaf ⟨false⟩))
.fail)
.fail)
(.leaf ⟨false⟩))
.fail)
.fail)
(.leaf ⟨false⟩))
.fail)
.fail)
def S.law12_awake  : Option S.law12_awake_T := (S.law12_awake_R ).run
def S.law12_awake_is  : Bool := (S.law12_awake ).isSome
def S.law12_awake_o  : S.law12_awake_T := (S.law12_awake ).getD default
def ret_law12_awake (b : Bool) (r : S.law12_awake_T) : Ret := ⟨b, none, [(false, [C.d (.sc (.bool r.x0))])]⟩
def g_law12_awake : Con
  | [] => some (ret_law12_awake (S.law12_awake_is ) (S.law12_awake_o ))
  | _ => none
theorem raw_law12_awake  : evR2 cx_law12_awake (hdI cx_law12_awake (find []) [] none 0) none Try.f72 72 none [] some = (S.law12_awake_R ).go (ret_law12_awake true) := by kernel_rfl
theorem bs_law12_awake : loopsIn Try.f72 [] = [] := by kernel_rfl
theorem law12_awake_ok : Stands Try.prog tyTab 72 g_law12_awake := by
  refine stands3 (L := find []) (n := 0) (hints := []) (cx_ok rfl) rdy_law12_awake ⟨by kernel_rfl, by kernel_rfl, by kernel_rfl⟩ bs_law12_awake nilB (fun das r hG hr => ?_)
  unfold g_law12_awake at hG
  split at hG
  · injection hG with hG; subst hG
    exact ⟨none, true, win default ((raw_law12_awake ).trans (DT.go_run _ _)) hr⟩
  · cases hG
end
end Go.Eng
