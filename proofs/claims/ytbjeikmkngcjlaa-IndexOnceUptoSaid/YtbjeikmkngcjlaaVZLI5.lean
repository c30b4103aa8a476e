/- Contracts, laid by program. -/
import Derived.Test.YtbjeikmkngcjlaaVZG16
set_option linter.unusedVariables false
namespace Go.Eng
noncomputable section
open Go Go.Eng Go.Proofs Go.Eng.Tab
abbrev cx_zclm : Cx := mkCx2 tyTab [(33, g_zg3i), (34, g_zzvx), (38, g_zhje), (39, g_zdrt)] [] [(999999, 0, { keep := [], acc := [] })] []
theorem rdy_zclm : Ready Try.prog tyTab [(33, g_zg3i), (34, g_zzvx), (38, g_zhje), (39, g_zdrt)] [] [] := ⟨consG2 zg3i_ok (consG2 zzvx_ok (consG2 zhje_ok (consG2 zdrt_ok (noneG2)))), noneI2, noneF2⟩
structure S.zclm_T where
 x0 : Bool
 deriving Inhabited
def S.zclm_R (a0 : List (Ty .query)) (a1_0 : List (Ty .step)) (a1_1 : Int) (a1_2 : Int) (a1_3 : Int) (a1_4 : Int) : DT S.zclm_T :=
let y0 : Nat := a0.length
let y1 : Query := { steps := a1_0, within := a1_1, agg := a1_2, aggStep := a1_3, aggF := a1_4 : Query }
let y2 : Nat := y0 + 1
let y3 : Nat := 0 + y2
let y4 : List (Ty .query) := List.take y0 a0 ++ [y1]
let y5 : Bool := xdec (y3 ≤ y4.length) && true && true
let y6 : List (Ty .query) := sub y4 0 y3
let y7 : S.zdrt_T := S.zdrt_o y6
let y8 : Nat := y7.x2
let y9 : Int := (↑y8 : Int)
let y10 : Int := (↑(S.zdrt_o a0).x2 : Int)
let y11 : Nat := 0 + (S.zdrt_o a0).x2
let y12 : Nat := 0 + (Int.ofNat (S.zdrt_o a0).x2).toNat
let y13 : List (Ty .pred) := y7.x0
let y14 : List (Ty .pred) := sub (S.zdrt_o a0).x0 0 y11
let y15 : List (Ty .pred) := sub y13 0 y12
(.br (S.zg3i_is)
(.br (xdec (y0 * 56 ≤ 140737488355328))
(.br (xdec (0 + 1 ≤ ((List.replicate 1 (dflt .query)).set 0 y1).length) && xdec (y0 ≤ y0) && xdec (y2 * 56 ≤ 140737488355328))
(.br (y5 && S.zzvx_is y6)
(.br (xnot S.zg3i_o.x0)
(.leaf ⟨S.zg3i_o.x0⟩)
(.br (xnot (S.zzvx_o y6).x0)
(.leaf ⟨S.zg3i_o.x0⟩)
(.br (S.zdrt_is a0)
(.br (y5 && S.zdrt_is y6)
(.br (xdec (y9 < y10))
(.leaf ⟨false⟩)
(.br (xdec (y9 > xwrap .i64 (y10 + xwrap .i64 (2 * (↑a1_0.length : Int)))))
(.leaf ⟨false⟩)
(.br (xdec (0 ≤ y10) && xdec (y10 ≤ Int.ofNat y8) && true)
(.br (xdec (y11 ≤ (S.zdrt_o a0).x0.length) && true && (xdec (y12 ≤ y13.length) && true && true) && S.zhje_is y14 y15)
(.leaf ⟨(S.zhje_o y14 y15).x0⟩)
.fail)
.fail)))
.fail)
.fail)))
.fail)
.fail)
.fail)
.fail)
def S.zclm (a0 : List (Ty .query)) (a1_0 : List (Ty .step)) (a1_1 : Int) (a1_2 : Int) (a1_3 : Int) (a1_4 : Int) : Option S.zclm_T := (S.zclm_R a0 a1_0 a1_1 a1_2 a1_3 a1_4).run
def S.zclm_is (a0 : List (Ty .query)) (a1_0 : List (Ty .step)) (a1_1 : Int) (a1_2 : Int) (a1_3 : Int) (a1_4 : Int) : Bool := (S.zclm a0 a1_0 a1_1 a1_2 a1_3 a1_4).isSome
def S.zclm_o (a0 : List (Ty .query)) (a1_0 : List (Ty .step)) (a1_1 : Int) (a1_2 : Int) (a1_3 : Int) (a1_4 : Int) : S.zclm_T := (S.zclm a0 a1_0 a1_1 a1_2 a1_3 a1_4).getD default
def ret_zclm (b : Bool) (r : S.zclm_T) : Ret := ⟨b, none, [(false, [C.d (.sc (.bool r.x0))])]⟩
def g_zclm : Con
 | [(false, [.sl a0n a0f .query a0]), (true, [.sl a1_0n a1_0f .step a1_0, .sc (.int .i64 a1_1), .sc (.int .i64 a1_2), .sc (.int .i64 a1_3), .sc (.int .i64 a1_4)])] => some (ret_zclm (S.zclm_is a0 a1_0 a1_1 a1_2 a1_3 a1_4) (S.zclm_o a0 a1_0 a1_1 a1_2 a1_3 a1_4))
 | _ => none
theorem raw_zclm (a0n : Option Bool) (a0f : Bool) (a0 : List (Ty .query)) (a1_0n : Option Bool) (a1_0f : Bool) (a1_0 : List (Ty .step)) (a1_1 : Int) (a1_2 : Int) (a1_3 : Int) (a1_4 : Int) : evR2 cx_zclm (hdI cx_zclm (find []) [] none 0) none Try.f5 5 none [(false, [.sl a0n a0f .query a0]), (true, [.sl a1_0n a1_0f .step a1_0, .sc (.int .i64 a1_1), .sc (.int .i64 a1_2), .sc (.int .i64 a1_3), .sc (.int .i64 a1_4)])] some = (S.zclm_R a0 a1_0 a1_1 a1_2 a1_3 a1_4).go (ret_zclm true) := by kernel_rfl
theorem bs_zclm : loopsIn Try.f5 [] = [] := by kernel_rfl
theorem zclm_ok : Stands Try.prog tyTab 5 g_zclm := by
 refine stands3 (L := find []) (n := 0) (hints := [(999999, 0, { keep := [], acc := [] })]) (cx_ok rfl) rdy_zclm ⟨by kernel_rfl, by kernel_rfl, by kernel_rfl⟩ bs_zclm nilB (fun das r hG hr => ?_)
 unfold g_zclm at hG
 split at hG
 ·rename_i a0n a0f a0 a1_0n a1_0f a1_0 a1_1 a1_2 a1_3 a1_4
  injection hG with hG; subst hG
  exact ⟨none, true, win default ((raw_zclm a0n a0f a0 a1_0n a1_0f a1_0 a1_1 a1_2 a1_3 a1_4).trans (DT.go_run _ _)) hr⟩
 ·cases hG
end
end Go.Eng
