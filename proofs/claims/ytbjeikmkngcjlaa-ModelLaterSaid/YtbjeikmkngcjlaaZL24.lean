/- Contracts, laid by program. -/
import Derived.Test.YtbjeikmkngcjlaaZG13
set_option linter.unusedVariables false
set_option linter.unusedSimpArgs false
namespace Go.Eng
noncomputable section
open Go Go.Eng Go.Proofs Go.Eng.Tab
abbrev cx_zqaq : Cx := mkCx2 tyTab [(50, g_zqbq), (60, g_zqbs), (72, g_zqaz), (73, g_all2), (74, g_zqbj), (75, g_zqbg)] [] [] []
theorem rdy_zqaq : Ready Try.prog tyTab [(50, g_zqbq), (60, g_zqbs), (72, g_zqaz), (73, g_all2), (74, g_zqbj), (75, g_zqbg)] [] [] := ⟨consG2 zqbq_ok (consG2 zqbs_ok (consG2 zqaz_ok (consG2 all2_ok (consG2 zqbj_ok (consG2 zqbg_ok (noneG2)))))), noneI2, noneF2⟩
structure S.zqaq_T where
  x0 : Bool
  deriving Inhabited
def S.zqaq_R (a0_0n : Option Bool) (a0_0f : Bool) (a0_0 : List (Ty .step)) (a0_1 : Int) (a0_2 : Int) (a0_3 : Int) (a0_4 : Int) (a1n : Option Bool) (a1f : Bool) (a1 : List (Ty .evt)) (a2 : Int) (a3 : Int) : DT S.zqaq_T :=
let y0 : Nat := a1.length
let y1 : Int := (↑y0 : Int)
let y2 : Bool := xdec (0 ≤ a2) && xdec (a2 ≤ Int.ofNat y0) && true
let y3 : Bool := a1f && xdec (a2 = y1)
let y4 : List (Ty .evt) := sub a1 0 a2.toNat
let y5 : S.all2_T := S.all2_o a0_0n a0_0f a0_0 a0_1 a0_2 a0_3 a0_4 none y3 y4 a3
let y6 : Nat := y5.x2
let y7 : Int := (↑y6 : Int)
let y8 : S.all2_T := S.all2_o a0_0n a0_0f a0_0 a0_1 a0_2 a0_3 a0_4 a1n a1f a1 a3
let y9 : Nat := y8.x2
let y10 : Int := (↑y9 : Int)
let y11 : Bool := xdec (0 ≤ y7)
let y12 : Nat := 0 + y6
let y13 : List (Ty .mat) := y5.x0
let y14 : Nat := 0 + (Int.ofNat y6).toNat
let y15 : List (Ty .mat) := y8.x0
let y16 : Nat := y15.length
let y17 : List (Ty .mat) := sub y13 0 y12
let y18 : List (Ty .mat) := sub y15 0 y14
let y19 : Nat := 0 + y7.toNat
let y20 : Bool := S.zqbg_is a0_0 a0_1 a0_2 a0_3 a0_4 y4 a3
let y21 : Bool := S.zqbg_is a0_0 a0_1 a0_2 a0_3 a0_4 a1 a3
let y22 : Int := (S.zqbg_o a0_0 a0_1 a0_2 a0_3 a0_4 y4 a3).x0
let y23 : Int := (S.zqbg_o a0_0 a0_1 a0_2 a0_3 a0_4 a1 a3).x0
let y24 : Bool := xeqI y22 y23
let y25 : Bool := xeqI y22 (-1)
let y26 : Bool := xdec (y23 ≥ a2)
(.br (S.zqaz_is)
(.br (S.zqbq_is a0_0)
(.br (S.zqbs_is a1 25)
(.br (xnot S.zqaz_o.x0)
(.leaf ⟨S.zqaz_o.x0⟩)
(.br (xnot (S.zqbq_o a0_0).x0)
(.leaf ⟨S.zqaz_o.x0⟩)
(.br (xnot (S.zqbs_o a1 25).x0)
(.leaf ⟨S.zqaz_o.x0⟩)
(.br (xdec (a2 < 0))
(.leaf ⟨S.zqaz_o.x0⟩)
(.br (xdec (a2 > y1))
(.leaf ⟨S.zqaz_o.x0⟩)
(.br (y2)
(.br (S.all2_is a0_0n a0_0f a0_0 a0_1 a0_2 a0_3 a0_4 none y3 y4 a3)
(.br (S.all2_is a0_0n a0_0f a0_0 a0_1 a0_2 a0_3 a0_4 a1n a1f a1 a3)
(.br (xdec (y7 > y10))
(.leaf ⟨false⟩)
(.br (y11 && xdec (y7 ≤ Int.ofNat y9) && true)
(.br (xdec (y12 ≤ y13.length) && true && (xdec (y14 ≤ y16) && true && true) && S.zqbj_is y17 y18)
(.br (xnot (S.zqbj_o y17 y18).x0)
(.leaf ⟨false⟩)
(.br (xdec (y10 > y7))
(.br (y11 && xdec (y7 < y10))
(.br (xdec (y19 < y16))
(.br (xdec ((y15.getD y19 (dflt ET.mat)).fin < a2))
(.leaf ⟨false⟩)
(.br (y2)
(.br (y20)
(.br (y21)
(.br (y24)
(.leaf ⟨true⟩)
(.br (y25)
(.leaf ⟨y26⟩)
(.leaf ⟨false⟩)))
.fail)
.fail)
.fail))
.fail)
.fail)
(.br (y2)
(.br (y20)
(.br (y21)
(.br (y24)
(.leaf ⟨true⟩)
(.br (y25)
(.leaf ⟨y26⟩)
(.leaf ⟨false⟩)))
.fail)
.fail)
.fail)))
.fail)
.fail))
.fail)
.fail)
.fail))))))
.fail)
.fail)
.fail)
def S.zqaq (a0_0n : Option Bool) (a0_0f : Bool) (a0_0 : List (Ty .step)) (a0_1 : Int) (a0_2 : Int) (a0_3 : Int) (a0_4 : Int) (a1n : Option Bool) (a1f : Bool) (a1 : List (Ty .evt)) (a2 : Int) (a3 : Int) : Option S.zqaq_T := (S.zqaq_R a0_0n a0_0f a0_0 a0_1 a0_2 a0_3 a0_4 a1n a1f a1 a2 a3).run
def S.zqaq_is (a0_0n : Option Bool) (a0_0f : Bool) (a0_0 : List (Ty .step)) (a0_1 : Int) (a0_2 : Int) (a0_3 : Int) (a0_4 : Int) (a1n : Option Bool) (a1f : Bool) (a1 : List (Ty .evt)) (a2 : Int) (a3 : Int) : Bool := (S.zqaq a0_0n a0_0f a0_0 a0_1 a0_2 a0_3 a0_4 a1n a1f a1 a2 a3).isSome
def S.zqaq_o (a0_0n : Option Bool) (a0_0f : Bool) (a0_0 : List (Ty .step)) (a0_1 : Int) (a0_2 : Int) (a0_3 : Int) (a0_4 : Int) (a1n : Option Bool) (a1f : Bool) (a1 : List (Ty .evt)) (a2 : Int) (a3 : Int) : S.zqaq_T := (S.zqaq a0_0n a0_0f a0_0 a0_1 a0_2 a0_3 a0_4 a1n a1f a1 a2 a3).getD default
def ret_zqaq (b : Bool) (r : S.zqaq_T) : Ret := ⟨b, none, [(false, [C.d (.sc (.bool r.x0))])]⟩
def g_zqaq : Con
  | [(true, [.sl a0_0n a0_0f .step a0_0, .sc (.int .i64 a0_1), .sc (.int .i64 a0_2), .sc (.int .i64 a0_3), .sc (.int .i64 a0_4)]), (false, [.sl a1n a1f .evt a1]), (false, [.sc (.int .i64 a2)]), (false, [.sc (.int .i64 a3)])] => some (ret_zqaq (S.zqaq_is a0_0n a0_0f a0_0 a0_1 a0_2 a0_3 a0_4 a1n a1f a1 a2 a3) (S.zqaq_o a0_0n a0_0f a0_0 a0_1 a0_2 a0_3 a0_4 a1n a1f a1 a2 a3))
  | _ => none
theorem raw_zqaq (a0_0n : Option Bool) (a0_0f : Bool) (a0_0 : List (Ty .step)) (a0_1 : Int) (a0_2 : Int) (a0_3 : Int) (a0_4 : Int) (a1n : Option Bool) (a1f : Bool) (a1 : List (Ty .evt)) (a2 : Int) (a3 : Int) : evR2 cx_zqaq (hdI cx_zqaq (find []) [] none 0) none Try.f24 24 none [(true, [.sl a0_0n a0_0f .step a0_0, .sc (.int .i64 a0_1), .sc (.int .i64 a0_2), .sc (.int .i64 a0_3), .sc (.int .i64 a0_4)]), (false, [.sl a1n a1f .evt a1]), (false, [.sc (.int .i64 a2)]), (false, [.sc (.int .i64 a3)])] some = (S.zqaq_R a0_0n a0_0f a0_0 a0_1 a0_2 a0_3 a0_4 a1n a1f a1 a2 a3).go (ret_zqaq true) := by kernel_rfl
theorem bs_zqaq : loopsIn Try.f24 [] = [] := by kernel_rfl
theorem zqaq_ok : Stands Try.prog tyTab 24 g_zqaq := by
  refine stands3 (L := find []) (n := 0) (hints := []) (cx_ok rfl) rdy_zqaq ⟨by kernel_rfl, by kernel_rfl, by kernel_rfl⟩ bs_zqaq nilB (fun das r hG hr => ?_)
  unfold g_zqaq at hG
  split at hG
  · rename_i a0_0n a0_0f a0_0 a0_1 a0_2 a0_3 a0_4 a1n a1f a1 a2 a3
    injection hG with hG; subst hG
    exact ⟨none, true, win default ((raw_zqaq a0_0n a0_0f a0_0 a0_1 a0_2 a0_3 a0_4 a1n a1f a1 a2 a3).trans (DT.go_run _ _)) hr⟩
  · cases hG
end
end Go.Eng
