/- Contracts, laid by program. -/
import Derived.Test.YtbjeikmkngcjlaaZG11
set_option linter.unusedVariables false
namespace Go.Eng
noncomputable section
open Go Go.Eng Go.Proofs Go.Eng.Tab
abbrev cx_zkyx : Cx := mkCx2 tyTab [(73, g_zbgf), (75, g_zjsn), (77, g_z3dg), (91, g_zu7x)] [] [] []
theorem rdy_zkyx : Ready Try.prog tyTab [(73, g_zbgf), (75, g_zjsn), (77, g_z3dg), (91, g_zu7x)] [] [] := ⟨consG2 zbgf_ok (consG2 zjsn_ok (consG2 z3dg_ok (consG2 zu7x_ok (noneG2)))), noneI2, noneF2⟩
structure S.zkyx_T where
 x0 : Bool
 deriving Inhabited
def S.zkyx_R  : DT S.zkyx_T :=
let y0 : Bool := S.zu7x_is 5
let y1 : Nat := 0 + 3
let y2 : Evt := { name := { data := { toList := [97] : Array UInt8 } : ByteArray }, at_ := 0, v := [] : Evt }
let y3 : Evt := { name := { data := { toList := [98] : Array UInt8 } : ByteArray }, at_ := 0, v := [] : Evt }
let y4 : Bool := xdec (y1 ≤ ((((List.replicate 3 (dflt .evt)).set 0 y2).set 1 y2).set 2 y3).length) && true && true
let y5 : S.zu7x_T := S.zu7x_o 5
let y6 : List (Ty .step) := y5.x0
let y7 : Int := y5.x1
let y8 : Int := y5.x2
let y9 : Int := y5.x3
let y10 : Int := y5.x4
let y11 : List (Ty .evt) := sub [y2, y2, y3] 0 y1
let y12 : S.zbgf_T := S.zbgf_o none false y6 y7 y8 y9 y10 none true y11 5
let y13 : Int := (↑y12.x2 : Int)
let y14 : Nat := 0 + Int.toNat 0
let y15 : List (Ty .mat) := y12.x0
let y16 : Nat := y15.length
let y17 : Ty .mat := y15.getD y14 (dflt .mat)
let y18 : Nat := 0 + Int.toNat 1
let y19 : Ty .mat := y15.getD y18 (dflt .mat)
(.br (y0)
(.br (y4 && S.zbgf_is none false y6 y7 y8 y9 y10 none true y11 5)
(.br (xeqI y13 2)
(.br (xdec (0 ≤ 0) && xdec (0 < y13))
(.br (xdec (y14 < y16))
(.br (xeqI y17.start 0 && (xeqI y17.fin 2 && (xeqI y17.agg 1 && xeqB y17.bad false)))
(.br (xdec (0 ≤ 1) && xdec (1 < y13))
(.br (xdec (y18 < y16))
(.br (xeqI y19.start 1 && (xeqI y19.fin 2 && (xeqI y19.agg 1 && xeqB y19.bad false)))
(.br (y0)
(.br (y4 && S.zjsn_is y6 y7 y8 y9 y10 y11 1)
(.br (xeqI (S.zjsn_o y6 y7 y8 y9 y10 y11 1).x0 1)
(.br (y0)
(.br (y4 && S.z3dg_is y6 y7 y8 y9 y10 y11 0 1)
(.leaf ⟨(S.z3dg_o y6 y7 y8 y9 y10 y11 0 1).x0⟩)
.fail)
.fail)
(.leaf ⟨false⟩))
.fail)
.fail)
(.leaf ⟨false⟩))
.fail)
.fail)
(.leaf ⟨false⟩))
.fail)
.fail)
(.leaf ⟨false⟩))
.fail)
.fail)
def S.zkyx  : Option S.zkyx_T := (S.zkyx_R ).run
def S.zkyx_is  : Bool := (S.zkyx ).isSome
def S.zkyx_o  : S.zkyx_T := (S.zkyx ).getD default
def ret_zkyx (b : Bool) (r : S.zkyx_T) : Ret := ⟨b, none, [(false, [C.d (.sc (.bool r.x0))])]⟩
def g_zkyx : Con
 | [] => some (ret_zkyx (S.zkyx_is ) (S.zkyx_o ))
 | _ => none
theorem raw_zkyx  : evR2 cx_zkyx (hdI cx_zkyx (find []) [] none 0) none Try.f72 72 none [] some = (S.zkyx_R ).go (ret_zkyx true) := by kernel_rfl
theorem bs_zkyx : loopsIn Try.f72 [] = [] := by kernel_rfl
theorem zkyx_ok : Stands Try.prog tyTab 72 g_zkyx := by
 refine stands3 (L := find []) (n := 0) (hints := []) (cx_ok rfl) rdy_zkyx ⟨by kernel_rfl, by kernel_rfl, by kernel_rfl⟩ bs_zkyx nilB (fun das r hG hr => ?_)
 unfold g_zkyx at hG
 split at hG
 ·injection hG with hG; subst hG
  exact ⟨none, true, win default ((raw_zkyx ).trans (DT.go_run _ _)) hr⟩
 ·cases hG
end
end Go.Eng
