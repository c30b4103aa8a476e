/- Contracts, laid by program. -/
import Derived.Test.YtbjeikmkngcjlaaZG11
set_option linter.unusedVariables false
set_option linter.unusedSimpArgs false
namespace Go.Eng
noncomputable section
open Go Go.Eng Go.Proofs Go.Eng.Tab
abbrev cx_zqaz : Cx := mkCx2 tyTab [(73, g_zqbt), (75, g_zqbg), (77, g_zqbf), (91, g_zqbr)] [] [] []
theorem rdy_zqaz : Ready Try.prog tyTab [(73, g_zqbt), (75, g_zqbg), (77, g_zqbf), (91, g_zqbr)] [] [] := ⟨consG2 zqbt_ok (consG2 zqbg_ok (consG2 zqbf_ok (consG2 zqbr_ok (noneG2)))), noneI2, noneF2⟩
structure S.zqaz_T where
  x0 : Bool
  deriving Inhabited
def S.zqaz_R  : DT S.zqaz_T :=
let y0 : Bool := S.zqbr_is 5
let y1 : Nat := 0 + 3
let y2 : Evt := { name := { data := { toList := [97] : Array UInt8 } : ByteArray }, at_ := 0, v := [] : Evt }
let y3 : Evt := { name := { data := { toList := [98] : Array UInt8 } : ByteArray }, at_ := 0, v := [] : Evt }
let y4 : Bool := xdec (y1 ≤ ((((List.replicate 3 (dflt ET.evt)).set 0 y2).set 1 y2).set 2 y3).length) && true && true
let y5 : S.zqbr_T := S.zqbr_o 5
let y6 : List (Ty .step) := y5.x0
let y7 : Int := y5.x1
let y8 : Int := y5.x2
let y9 : Int := y5.x3
let y10 : Int := y5.x4
let y11 : List (Ty .evt) := sub [y2, y2, y3] 0 y1
let y12 : S.zqbt_T := S.zqbt_o none false y6 y7 y8 y9 y10 none true y11 5
let y13 : Int := (↑y12.x2 : Int)
let y14 : Nat := 0 + Int.toNat 0
let y15 : List (Ty .mat) := y12.x0
let y16 : Nat := y15.length
let y17 : Ty ET.mat := y15.getD y14 (dflt ET.mat)
let y18 : Nat := 0 + Int.toNat 1
let y19 : Ty ET.mat := y15.getD y18 (dflt ET.mat)
(.br (y0)
(.br (y4 && S.zqbt_is none false y6 y7 y8 y9 y10 none true y11 5)
(.br (xeqI y13 2)
(.br (xdec (0 ≤ 0) && xdec (0 < y13))
(.br (xdec (y14 < y16))
(.br (xeqI y17.start 0 && (xeqI y17.fin 2 && (xeqI y17.agg 1 && xeqB y17.bad false)))
(.br (xdec (0 ≤ 1) && xdec (1 < y13))
(.br (xdec (y18 < y16))
(.br (xeqI y19.start 1 && (xeqI y19.fin 2 && (xeqI y19.agg 1 && xeqB y19.bad false)))
(.br (y0)
(.br (y4 && S.zqbg_is y6 y7 y8 y9 y10 y11 1)
(.br (xeqI (S.zqbg_o y6 y7 y8 y9 y10 y11 1).x0 1)
(.br (y0)
(.br (y4 && S.zqbf_is y6 y7 y8 y9 y10 y11 0 1)
(.leaf ⟨(S.zqbf_o y6 y7 y8 y9 y10 y11 0 1).x0⟩)
.fail)
.fail)
(.leaf ⟨false⟩))
.fail)
.fail)
(.leaf ⟨false⟩))
.fail)
.fail)
(.leaf ⟨false⟩))
.fail)
.fail)
(.leaf ⟨false⟩))
.fail)
.fail)
def S.zqaz  : Option S.zqaz_T := (S.zqaz_R ).run
def S.zqaz_is  : Bool := (S.zqaz ).isSome
def S.zqaz_o  : S.zqaz_T := (S.zqaz ).getD default
def ret_zqaz (b : Bool) (r : S.zqaz_T) : Ret := ⟨b, none, [(false, [C.d (.sc (.bool r.x0))])]⟩
def g_zqaz : Con
  | [] => some (ret_zqaz (S.zqaz_is ) (S.zqaz_o ))
  | _ => none
theorem raw_zqaz  : evR2 cx_zqaz (hdI cx_zqaz (find []) [] none 0) none Try.f72 72 none [] some = (S.zqaz_R ).go (ret_zqaz true) := by kernel_rfl
theorem bs_zqaz : loopsIn Try.f72 [] = [] := by kernel_rfl
theorem zqaz_ok : Stands Try.prog tyTab 72 g_zqaz := by
  refine stands3 (L := find []) (n := 0) (hints := []) (cx_ok rfl) rdy_zqaz ⟨by kernel_rfl, by kernel_rfl, by kernel_rfl⟩ bs_zqaz nilB (fun das r hG hr => ?_)
  unfold g_zqaz at hG
  split at hG
  · injection hG with hG; subst hG
    exact ⟨none, true, win default ((raw_zqaz ).trans (DT.go_run _ _)) hr⟩
  · cases hG
end
end Go.Eng
