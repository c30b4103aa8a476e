/- Contracts, laid by program. -/
import Derived.Test.YtbjeikmkngcjlaaVZG4
import Derived.Test.YtbjeikmkngcjlaaVZN3
set_option linter.unusedVariables false
namespace Go.Eng
noncomputable section
open Go Go.Eng Go.Proofs Go.Eng.Tab
abbrev cx_zc3p : Cx := mkCx2 tyTab [(95, g_zahd), (130, g_told)] [] [] []
theorem rdy_zc3p : Ready Try.prog tyTab [(95, g_zahd), (130, g_told)] [] [] := ⟨consG2 zahd_ok (consG2 told_ok (noneG2)), noneI2, noneF2⟩
structure S.zc3p_T where
 x0 : Int
 x1 : Int
 x2 : Int
 x3 : Int
 x4 : Int
 x5 : Int
 x6 : Bool
 x7 : Int
 deriving Inhabited
def S.zc3p_R (a0_0 : List (Ty .step)) (a0_2 : Int) (a0_3 : Int) (a0_4 : Int) (a1_0 : Int) (a1_1 : Int) (a1_2 : Int) (a1_3 : Int) (a1_4 : Int) (a1_5 : Int) (a1_6 : Bool) (a2_2 : List (Ty .val)) : DT S.zc3p_T :=
let y0 : Run := S.told_o a0_2 a0_3 a0_4 a1_0 a1_1 a1_2 a1_3 a1_4 a1_5 a1_6 a2_2
let y1 : Int := y0.step
let y2 : Int := y0.n
(.br (S.told_is a0_2 a0_3 a0_4 a1_0 a1_1 a1_2 a1_3 a1_4 a1_5 a1_6 a2_2)
(.br (S.zahd_is a0_0 y1 y2)
(.leaf ⟨y0.first, y0.at_, y1, y2, y0.many, y0.agg, y0.bad, (S.zahd_o a0_0 y1 y2).x0⟩)
.fail)
.fail)
def S.zc3p (a0_0 : List (Ty .step)) (a0_2 : Int) (a0_3 : Int) (a0_4 : Int) (a1_0 : Int) (a1_1 : Int) (a1_2 : Int) (a1_3 : Int) (a1_4 : Int) (a1_5 : Int) (a1_6 : Bool) (a2_2 : List (Ty .val)) : Option S.zc3p_T := (S.zc3p_R a0_0 a0_2 a0_3 a0_4 a1_0 a1_1 a1_2 a1_3 a1_4 a1_5 a1_6 a2_2).run
def S.zc3p_is (a0_0 : List (Ty .step)) (a0_2 : Int) (a0_3 : Int) (a0_4 : Int) (a1_0 : Int) (a1_1 : Int) (a1_2 : Int) (a1_3 : Int) (a1_4 : Int) (a1_5 : Int) (a1_6 : Bool) (a2_2 : List (Ty .val)) : Bool := (S.zc3p a0_0 a0_2 a0_3 a0_4 a1_0 a1_1 a1_2 a1_3 a1_4 a1_5 a1_6 a2_2).isSome
def S.zc3p_o (a0_0 : List (Ty .step)) (a0_2 : Int) (a0_3 : Int) (a0_4 : Int) (a1_0 : Int) (a1_1 : Int) (a1_2 : Int) (a1_3 : Int) (a1_4 : Int) (a1_5 : Int) (a1_6 : Bool) (a2_2 : List (Ty .val)) : S.zc3p_T := (S.zc3p a0_0 a0_2 a0_3 a0_4 a1_0 a1_1 a1_2 a1_3 a1_4 a1_5 a1_6 a2_2).getD default
def ret_zc3p (b : Bool) (r : S.zc3p_T) : Ret := ⟨b, none, [(true,
    [C.d (.sc (.int .i64 r.x0)), C.d (.sc (.int .i64 r.x1)), C.d (.sc (.int .i64 r.x2)), C.d (.sc (.int .i64 r.x3)),
     C.d (.sc (.int .i64 r.x4)), C.d (.sc (.int .i64 r.x5)), C.d (.sc (.bool r.x6))]),
 (false, [C.d (.sc (.int .i64 r.x7))])]⟩
def g_zc3p : Con
 | [(true, [.sl a0_0n a0_0f .step a0_0, .sc (.int .i64 a0_1), .sc (.int .i64 a0_2), .sc (.int .i64 a0_3), .sc (.int .i64 a0_4)]), (true, [.sc (.int .i64 a1_0), .sc (.int .i64 a1_1), .sc (.int .i64 a1_2), .sc (.int .i64 a1_3), .sc (.int .i64 a1_4), .sc (.int .i64 a1_5), .sc (.bool a1_6)]), (true, [.sc (.str a2_0), .sc (.int .i64 a2_1), .sl a2_2n a2_2f .val a2_2])] => some (ret_zc3p (S.zc3p_is a0_0 a0_2 a0_3 a0_4 a1_0 a1_1 a1_2 a1_3 a1_4 a1_5 a1_6 a2_2) (S.zc3p_o a0_0 a0_2 a0_3 a0_4 a1_0 a1_1 a1_2 a1_3 a1_4 a1_5 a1_6 a2_2))
 | _ => none
theorem raw_zc3p (a0_0n : Option Bool) (a0_0f : Bool) (a0_0 : List (Ty .step)) (a0_1 : Int) (a0_2 : Int) (a0_3 : Int) (a0_4 : Int) (a1_0 : Int) (a1_1 : Int) (a1_2 : Int) (a1_3 : Int) (a1_4 : Int) (a1_5 : Int) (a1_6 : Bool) (a2_0 : ByteArray) (a2_1 : Int) (a2_2n : Option Bool) (a2_2f : Bool) (a2_2 : List (Ty .val)) : evR2 cx_zc3p (hdI cx_zc3p (find []) [] none 0) none Try.f94 94 none [(true, [.sl a0_0n a0_0f .step a0_0, .sc (.int .i64 a0_1), .sc (.int .i64 a0_2), .sc (.int .i64 a0_3), .sc (.int .i64 a0_4)]), (true, [.sc (.int .i64 a1_0), .sc (.int .i64 a1_1), .sc (.int .i64 a1_2), .sc (.int .i64 a1_3), .sc (.int .i64 a1_4), .sc (.int .i64 a1_5), .sc (.bool a1_6)]), (true, [.sc (.str a2_0), .sc (.int .i64 a2_1), .sl a2_2n a2_2f .val a2_2])] some = (S.zc3p_R a0_0 a0_2 a0_3 a0_4 a1_0 a1_1 a1_2 a1_3 a1_4 a1_5 a1_6 a2_2).go (ret_zc3p true) := by kernel_rfl
theorem bs_zc3p : loopsIn Try.f94 [] = [] := by kernel_rfl
theorem zc3p_ok : Stands Try.prog tyTab 94 g_zc3p := by
 refine stands3 (L := find []) (n := 0) (hints := []) (cx_ok rfl) rdy_zc3p ⟨by kernel_rfl, by kernel_rfl, by kernel_rfl⟩ bs_zc3p nilB (fun das r hG hr => ?_)
 unfold g_zc3p at hG
 split at hG
 ·rename_i a0_0n a0_0f a0_0 a0_1 a0_2 a0_3 a0_4 a1_0 a1_1 a1_2 a1_3 a1_4 a1_5 a1_6 a2_0 a2_1 a2_2n a2_2f a2_2
  injection hG with hG; subst hG
  exact ⟨none, true, win default ((raw_zc3p a0_0n a0_0f a0_0 a0_1 a0_2 a0_3 a0_4 a1_0 a1_1 a1_2 a1_3 a1_4 a1_5 a1_6 a2_0 a2_1 a2_2n a2_2f a2_2).trans (DT.go_run _ _)) hr⟩
 ·cases hG
abbrev cx_zvb5 : Cx := mkCx2 tyTab [(93, g_z5c6), (94, g_zc3p)] [] [] []
theorem rdy_zvb5 : Ready Try.prog tyTab [(93, g_z5c6), (94, g_zc3p)] [] [] := ⟨consG2 z5c6_ok (consG2 zc3p_ok (noneG2)), noneI2, noneF2⟩
structure S.zvb5_T where
 x0 : Int
 x1 : Int
 x2 : Int
 x3 : Int
 x4 : Int
 x5 : Int
 x6 : Bool
 x7 : Int
 deriving Inhabited
def S.zvb5_R (a0_0 : List (Ty .step)) (a0_2 : Int) (a0_3 : Int) (a0_4 : Int) (a1_0 : ByteArray) (a1_1 : Int) (a1_2 : List (Ty .val)) (a2 : Int) : DT S.zvb5_T :=
let y0 : Int := (↑a0_0.length : Int)
let y1 : Ty .step := a0_0.getD (Int.toNat 0) (dflt .step)
let y2 : ByteArray := y1.name
let y3 : List Opn := y1.ifs
let y4 : S.zc3p_T := S.zc3p_o a0_0 a0_2 a0_3 a0_4 a2 a1_1 0 1 0 0 false a1_2
(.br (xeqI y0 0)
(.leaf ⟨0, 0, 0, 0, 0, 0, false, 1⟩)
(.br (xdec (0 ≤ 0) && xdec (0 < y0))
(.br (S.z5c6_is y2 y3 a1_0 a1_1 a1_2)
(.br (xnot (S.z5c6_o y2 y3 a1_0 a1_1 a1_2).x0)
(.leaf ⟨0, 0, 0, 0, 0, 0, false, 1⟩)
(.br (S.zc3p_is a0_0 a0_2 a0_3 a0_4 a2 a1_1 0 1 0 0 false a1_2)
(.leaf ⟨y4.x0, y4.x1, y4.x2, y4.x3, y4.x4, y4.x5, y4.x6, y4.x7⟩)
.fail))
.fail)
.fail))
def S.zvb5 (a0_0 : List (Ty .step)) (a0_2 : Int) (a0_3 : Int) (a0_4 : Int) (a1_0 : ByteArray) (a1_1 : Int) (a1_2 : List (Ty .val)) (a2 : Int) : Option S.zvb5_T := (S.zvb5_R a0_0 a0_2 a0_3 a0_4 a1_0 a1_1 a1_2 a2).run
def S.zvb5_is (a0_0 : List (Ty .step)) (a0_2 : Int) (a0_3 : Int) (a0_4 : Int) (a1_0 : ByteArray) (a1_1 : Int) (a1_2 : List (Ty .val)) (a2 : Int) : Bool := (S.zvb5 a0_0 a0_2 a0_3 a0_4 a1_0 a1_1 a1_2 a2).isSome
def S.zvb5_o (a0_0 : List (Ty .step)) (a0_2 : Int) (a0_3 : Int) (a0_4 : Int) (a1_0 : ByteArray) (a1_1 : Int) (a1_2 : List (Ty .val)) (a2 : Int) : S.zvb5_T := (S.zvb5 a0_0 a0_2 a0_3 a0_4 a1_0 a1_1 a1_2 a2).getD default
def ret_zvb5 (b : Bool) (r : S.zvb5_T) : Ret := ⟨b, none, [(true,
    [C.d (.sc (.int .i64 r.x0)), C.d (.sc (.int .i64 r.x1)), C.d (.sc (.int .i64 r.x2)), C.d (.sc (.int .i64 r.x3)),
     C.d (.sc (.int .i64 r.x4)), C.d (.sc (.int .i64 r.x5)), C.d (.sc (.bool r.x6))]),
 (false, [C.d (.sc (.int .i64 r.x7))])]⟩
def g_zvb5 : Con
 | [(true, [.sl a0_0n a0_0f .step a0_0, .sc (.int .i64 a0_1), .sc (.int .i64 a0_2), .sc (.int .i64 a0_3), .sc (.int .i64 a0_4)]), (true, [.sc (.str a1_0), .sc (.int .i64 a1_1), .sl a1_2n a1_2f .val a1_2]), (false, [.sc (.int .i64 a2)])] => some (ret_zvb5 (S.zvb5_is a0_0 a0_2 a0_3 a0_4 a1_0 a1_1 a1_2 a2) (S.zvb5_o a0_0 a0_2 a0_3 a0_4 a1_0 a1_1 a1_2 a2))
 | _ => none
theorem raw_zvb5 (a0_0n : Option Bool) (a0_0f : Bool) (a0_0 : List (Ty .step)) (a0_1 : Int) (a0_2 : Int) (a0_3 : Int) (a0_4 : Int) (a1_0 : ByteArray) (a1_1 : Int) (a1_2n : Option Bool) (a1_2f : Bool) (a1_2 : List (Ty .val)) (a2 : Int) : evR2 cx_zvb5 (hdI cx_zvb5 (find []) [] none 0) none Try.f52 52 none [(true, [.sl a0_0n a0_0f .step a0_0, .sc (.int .i64 a0_1), .sc (.int .i64 a0_2), .sc (.int .i64 a0_3), .sc (.int .i64 a0_4)]), (true, [.sc (.str a1_0), .sc (.int .i64 a1_1), .sl a1_2n a1_2f .val a1_2]), (false, [.sc (.int .i64 a2)])] some = (S.zvb5_R a0_0 a0_2 a0_3 a0_4 a1_0 a1_1 a1_2 a2).go (ret_zvb5 true) := by kernel_rfl
theorem bs_zvb5 : loopsIn Try.f52 [] = [] := by kernel_rfl
theorem zvb5_ok : Stands Try.prog tyTab 52 g_zvb5 := by
 refine stands3 (L := find []) (n := 0) (hints := []) (cx_ok rfl) rdy_zvb5 ⟨by kernel_rfl, by kernel_rfl, by kernel_rfl⟩ bs_zvb5 nilB (fun das r hG hr => ?_)
 unfold g_zvb5 at hG
 split at hG
 ·rename_i a0_0n a0_0f a0_0 a0_1 a0_2 a0_3 a0_4 a1_0 a1_1 a1_2n a1_2f a1_2 a2
  injection hG with hG; subst hG
  exact ⟨none, true, win default ((raw_zvb5 a0_0n a0_0f a0_0 a0_1 a0_2 a0_3 a0_4 a1_0 a1_1 a1_2n a1_2f a1_2 a2).trans (DT.go_run _ _)) hr⟩
 ·cases hG
abbrev cx_zwus : Cx := mkCx2 tyTab [(93, g_z5c6), (94, g_zc3p), (96, g_zfzb), (97, g_zrsz)] [] [] []
theorem rdy_zwus : Ready Try.prog tyTab [(93, g_z5c6), (94, g_zc3p), (96, g_zfzb), (97, g_zrsz)] [] [] := ⟨consG2 z5c6_ok (consG2 zc3p_ok (consG2 zfzb_ok (consG2 zrsz_ok (noneG2)))), noneI2, noneF2⟩
structure S.zwus_T where
 x0 : Int
 x1 : Int
 x2 : Int
 x3 : Int
 x4 : Int
 x5 : Int
 x6 : Bool
 x7 : Int
 deriving Inhabited
def S.zwus_R (a0_0 : List (Ty .step)) (a0_1 : Int) (a0_2 : Int) (a0_3 : Int) (a0_4 : Int) (a1_0 : Int) (a1_1 : Int) (a1_2 : Int) (a1_3 : Int) (a1_4 : Int) (a1_5 : Int) (a1_6 : Bool) (a2_0 : ByteArray) (a2_1 : Int) (a2_2 : List (Ty .val)) : DT S.zwus_T :=
let y0 : Nat := a0_0.length
let y1 : Int := (↑y0 : Int)
let y2 : Int := xwrap .i64 (a1_2 + 1)
let y3 : List (Ty .step) := sub a0_0 y2.toNat y0
let y4 : Int := (↑y3.length : Int)
let y5 : Ty .step := a0_0.getD a1_2.toNat (dflt .step)
let y6 : Bool := xdec (0 ≤ 0) && xdec (0 < y4)
let y7 : Ty .step := y3.getD (Int.toNat 0) (dflt .step)
let y8 : Bool := y7.guard
let y9 : ByteArray := y7.notName
let y10 : List Opn := y7.notIf
let y11 : ByteArray := y7.name
let y12 : List Opn := y7.ifs
let y13 : S.zc3p_T := S.zc3p_o a0_0 a0_2 a0_3 a0_4 a1_0 a1_1 y2 1 a1_4 a1_5 a1_6 a2_2
let y14 : Bool := xdec (a1_3 < y5.max)
let y15 : ByteArray := y5.name
let y16 : List Opn := y5.ifs
let y17 : Bool := S.z5c6_is y15 y16 a2_0 a2_1 a2_2
let y18 : Bool := (S.z5c6_o y15 y16 a2_0 a2_1 a2_2).x0
let y19 : Int := xwrap .i64 (a1_3 + 1)
let y20 : Bool := S.zc3p_is a0_0 a0_2 a0_3 a0_4 a1_0 a1_1 a1_2 y19 a1_4 a1_5 a1_6 a2_2
let y21 : S.zc3p_T := S.zc3p_o a0_0 a0_2 a0_3 a0_4 a1_0 a1_1 a1_2 y19 a1_4 a1_5 a1_6 a2_2
let y22 : Int := y21.x0
let y23 : Int := y21.x1
let y24 : Int := y21.x2
let y25 : Int := y21.x3
let y26 : Int := y21.x4
let y27 : Int := y21.x5
let y28 : Bool := y21.x6
let y29 : Int := y21.x7
(.br (xdec (a1_2 < 0))
(.leaf ⟨a1_0, a1_1, a1_2, a1_3, a1_4, a1_5, a1_6, 1⟩)
(.br (xdec (a1_2 ≥ y1))
(.leaf ⟨a1_0, a1_1, a1_2, a1_3, a1_4, a1_5, a1_6, 1⟩)
(.br (xdec (a2_1 < a1_1))
(.leaf ⟨a1_0, a1_1, a1_2, a1_3, a1_4, a1_5, a1_6, 0⟩)
(.br (S.zfzb_is a0_1 a1_1 a2_1)
(.br ((S.zfzb_o a0_1 a1_1 a2_1).x0)
(.leaf ⟨a1_0, a1_1, a1_2, a1_3, a1_4, a1_5, a1_6, 1⟩)
(.br (xdec (0 ≤ a1_2) && xdec (a1_2 < y1))
(.br (xdec (0 ≤ y2) && xdec (y2 ≤ Int.ofNat y0) && true && true)
(.br (xdec (y4 > 0))
(.br (xdec (a1_3 ≥ y5.min))
(.br (y6)
(.br (S.zrsz_is y8 y9 y10 a2_0 a2_1 a2_2)
(.br ((S.zrsz_o y8 y9 y10 a2_0 a2_1 a2_2).x0)
(.leaf ⟨a1_0, a1_1, a1_2, a1_3, a1_4, a1_5, a1_6, 1⟩)
(.br (y6)
(.br (S.z5c6_is y11 y12 a2_0 a2_1 a2_2)
(.br ((S.z5c6_o y11 y12 a2_0 a2_1 a2_2).x0)
(.br (S.zc3p_is a0_0 a0_2 a0_3 a0_4 a1_0 a1_1 y2 1 a1_4 a1_5 a1_6 a2_2)
(.leaf ⟨y13.x0, y13.x1, y13.x2, y13.x3, y13.x4, y13.x5, y13.x6, y13.x7⟩)
.fail)
(.br (y14)
(.br (y17)
(.br (y18)
(.br (y20)
(.leaf ⟨y22, y23, y24, y25, y26, y27, y28, y29⟩)
.fail)
(.leaf ⟨a1_0, a1_1, a1_2, a1_3, a1_4, a1_5, a1_6, 0⟩))
.fail)
(.leaf ⟨a1_0, a1_1, a1_2, a1_3, a1_4, a1_5, a1_6, 0⟩)))
.fail)
.fail))
.fail)
.fail)
(.br (y14)
(.br (y17)
(.br (y18)
(.br (y20)
(.leaf ⟨y22, y23, y24, y25, y26, y27, y28, y29⟩)
.fail)
(.leaf ⟨a1_0, a1_1, a1_2, a1_3, a1_4, a1_5, a1_6, 0⟩))
.fail)
(.leaf ⟨a1_0, a1_1, a1_2, a1_3, a1_4, a1_5, a1_6, 0⟩)))
(.br (y14)
(.br (y17)
(.br (y18)
(.br (y20)
(.leaf ⟨y22, y23, y24, y25, y26, y27, y28, y29⟩)
.fail)
(.leaf ⟨a1_0, a1_1, a1_2, a1_3, a1_4, a1_5, a1_6, 0⟩))
.fail)
(.leaf ⟨a1_0, a1_1, a1_2, a1_3, a1_4, a1_5, a1_6, 0⟩)))
.fail)
.fail))
.fail))))
def S.zwus (a0_0 : List (Ty .step)) (a0_1 : Int) (a0_2 : Int) (a0_3 : Int) (a0_4 : Int) (a1_0 : Int) (a1_1 : Int) (a1_2 : Int) (a1_3 : Int) (a1_4 : Int) (a1_5 : Int) (a1_6 : Bool) (a2_0 : ByteArray) (a2_1 : Int) (a2_2 : List (Ty .val)) : Option S.zwus_T := (S.zwus_R a0_0 a0_1 a0_2 a0_3 a0_4 a1_0 a1_1 a1_2 a1_3 a1_4 a1_5 a1_6 a2_0 a2_1 a2_2).run
def S.zwus_is (a0_0 : List (Ty .step)) (a0_1 : Int) (a0_2 : Int) (a0_3 : Int) (a0_4 : Int) (a1_0 : Int) (a1_1 : Int) (a1_2 : Int) (a1_3 : Int) (a1_4 : Int) (a1_5 : Int) (a1_6 : Bool) (a2_0 : ByteArray) (a2_1 : Int) (a2_2 : List (Ty .val)) : Bool := (S.zwus a0_0 a0_1 a0_2 a0_3 a0_4 a1_0 a1_1 a1_2 a1_3 a1_4 a1_5 a1_6 a2_0 a2_1 a2_2).isSome
def S.zwus_o (a0_0 : List (Ty .step)) (a0_1 : Int) (a0_2 : Int) (a0_3 : Int) (a0_4 : Int) (a1_0 : Int) (a1_1 : Int) (a1_2 : Int) (a1_3 : Int) (a1_4 : Int) (a1_5 : Int) (a1_6 : Bool) (a2_0 : ByteArray) (a2_1 : Int) (a2_2 : List (Ty .val)) : S.zwus_T := (S.zwus a0_0 a0_1 a0_2 a0_3 a0_4 a1_0 a1_1 a1_2 a1_3 a1_4 a1_5 a1_6 a2_0 a2_1 a2_2).getD default
def ret_zwus (b : Bool) (r : S.zwus_T) : Ret := ⟨b, none, [(true,
    [C.d (.sc (.int .i64 r.x0)), C.d (.sc (.int .i64 r.x1)), C.d (.sc (.int .i64 r.x2)), C.d (.sc (.int .i64 r.x3)),
     C.d (.sc (.int .i64 r.x4)), C.d (.sc (.int .i64 r.x5)), C.d (.sc (.bool r.x6))]),
 (false, [C.d (.sc (.int .i64 r.x7))])]⟩
def g_zwus : Con
 | [(true, [.sl a0_0n a0_0f .step a0_0, .sc (.int .i64 a0_1), .sc (.int .i64 a0_2), .sc (.int .i64 a0_3), .sc (.int .i64 a0_4)]), (true, [.sc (.int .i64 a1_0), .sc (.int .i64 a1_1), .sc (.int .i64 a1_2), .sc (.int .i64 a1_3), .sc (.int .i64 a1_4), .sc (.int .i64 a1_5), .sc (.bool a1_6)]), (true, [.sc (.str a2_0), .sc (.int .i64 a2_1), .sl a2_2n a2_2f .val a2_2])] => some (ret_zwus (S.zwus_is a0_0 a0_1 a0_2 a0_3 a0_4 a1_0 a1_1 a1_2 a1_3 a1_4 a1_5 a1_6 a2_0 a2_1 a2_2) (S.zwus_o a0_0 a0_1 a0_2 a0_3 a0_4 a1_0 a1_1 a1_2 a1_3 a1_4 a1_5 a1_6 a2_0 a2_1 a2_2))
 | _ => none
theorem raw_zwus (a0_0n : Option Bool) (a0_0f : Bool) (a0_0 : List (Ty .step)) (a0_1 : Int) (a0_2 : Int) (a0_3 : Int) (a0_4 : Int) (a1_0 : Int) (a1_1 : Int) (a1_2 : Int) (a1_3 : Int) (a1_4 : Int) (a1_5 : Int) (a1_6 : Bool) (a2_0 : ByteArray) (a2_1 : Int) (a2_2n : Option Bool) (a2_2f : Bool) (a2_2 : List (Ty .val)) : evR2 cx_zwus (hdI cx_zwus (find []) [] none 0) none Try.f54 54 none [(true, [.sl a0_0n a0_0f .step a0_0, .sc (.int .i64 a0_1), .sc (.int .i64 a0_2), .sc (.int .i64 a0_3), .sc (.int .i64 a0_4)]), (true, [.sc (.int .i64 a1_0), .sc (.int .i64 a1_1), .sc (.int .i64 a1_2), .sc (.int .i64 a1_3), .sc (.int .i64 a1_4), .sc (.int .i64 a1_5), .sc (.bool a1_6)]), (true, [.sc (.str a2_0), .sc (.int .i64 a2_1), .sl a2_2n a2_2f .val a2_2])] some = (S.zwus_R a0_0 a0_1 a0_2 a0_3 a0_4 a1_0 a1_1 a1_2 a1_3 a1_4 a1_5 a1_6 a2_0 a2_1 a2_2).go (ret_zwus true) := by kernel_rfl
theorem bs_zwus : loopsIn Try.f54 [] = [] := by kernel_rfl
theorem zwus_ok : Stands Try.prog tyTab 54 g_zwus := by
 refine stands3 (L := find []) (n := 0) (hints := []) (cx_ok rfl) rdy_zwus ⟨by kernel_rfl, by kernel_rfl, by kernel_rfl⟩ bs_zwus nilB (fun das r hG hr => ?_)
 unfold g_zwus at hG
 split at hG
 ·rename_i a0_0n a0_0f a0_0 a0_1 a0_2 a0_3 a0_4 a1_0 a1_1 a1_2 a1_3 a1_4 a1_5 a1_6 a2_0 a2_1 a2_2n a2_2f a2_2
  injection hG with hG; subst hG
  exact ⟨none, true, win default ((raw_zwus a0_0n a0_0f a0_0 a0_1 a0_2 a0_3 a0_4 a1_0 a1_1 a1_2 a1_3 a1_4 a1_5 a1_6 a2_0 a2_1 a2_2n a2_2f a2_2).trans (DT.go_run _ _)) hr⟩
 ·cases hG
abbrev cx_run_May : Cx := mkCx2 tyTab [(95, g_zahd)] [] [] []
theorem rdy_run_May : Ready Try.prog tyTab [(95, g_zahd)] [] [] := ⟨consG2 zahd_ok (noneG2), noneI2, noneF2⟩
structure S.run_May_T where
 x0 : Bool
 deriving Inhabited
def S.run_May_R (a0_0 : List (Ty .step)) (a1_2 : Int) (a1_3 : Int) (a1_4 : Int) : DT S.run_May_T :=
let y0 : Int := (↑a0_0.length : Int)
(.br (xdec (a1_2 < 0))
(.leaf ⟨false⟩)
(.br (xdec (a1_2 ≥ y0))
(.leaf ⟨false⟩)
(.br (xdec (a1_4 < 0))
(.leaf ⟨false⟩)
(.br (xdec (a1_3 > 0))
(.br (xdec (0 ≤ a1_2) && xdec (a1_2 < y0))
(.br (xdec (a1_3 ≤ (a0_0.getD a1_2.toNat (dflt .step)).max))
(.br (S.zahd_is a0_0 a1_2 a1_3)
(.leaf ⟨xeqI (S.zahd_o a0_0 a1_2 a1_3).x0 0⟩)
.fail)
(.leaf ⟨false⟩))
.fail)
(.leaf ⟨false⟩)))))
def S.run_May (a0_0 : List (Ty .step)) (a1_2 : Int) (a1_3 : Int) (a1_4 : Int) : Option S.run_May_T := (S.run_May_R a0_0 a1_2 a1_3 a1_4).run
def S.run_May_is (a0_0 : List (Ty .step)) (a1_2 : Int) (a1_3 : Int) (a1_4 : Int) : Bool := (S.run_May a0_0 a1_2 a1_3 a1_4).isSome
def S.run_May_o (a0_0 : List (Ty .step)) (a1_2 : Int) (a1_3 : Int) (a1_4 : Int) : S.run_May_T := (S.run_May a0_0 a1_2 a1_3 a1_4).getD default
def ret_run_May (b : Bool) (r : S.run_May_T) : Ret := ⟨b, none, [(false, [C.d (.sc (.bool r.x0))])]⟩
def g_run_May : Con
 | [(true, [.sl a0_0n a0_0f .step a0_0, .sc (.int .i64 a0_1), .sc (.int .i64 a0_2), .sc (.int .i64 a0_3), .sc (.int .i64 a0_4)]), (true, [.sc (.int .i64 a1_0), .sc (.int .i64 a1_1), .sc (.int .i64 a1_2), .sc (.int .i64 a1_3), .sc (.int .i64 a1_4), .sc (.int .i64 a1_5), .sc (.bool a1_6)])] => some (ret_run_May (S.run_May_is a0_0 a1_2 a1_3 a1_4) (S.run_May_o a0_0 a1_2 a1_3 a1_4))
 | _ => none
theorem raw_run_May (a0_0n : Option Bool) (a0_0f : Bool) (a0_0 : List (Ty .step)) (a0_1 : Int) (a0_2 : Int) (a0_3 : Int) (a0_4 : Int) (a1_0 : Int) (a1_1 : Int) (a1_2 : Int) (a1_3 : Int) (a1_4 : Int) (a1_5 : Int) (a1_6 : Bool) : evR2 cx_run_May (hdI cx_run_May (find []) [] none 0) none Try.f53 53 none [(true, [.sl a0_0n a0_0f .step a0_0, .sc (.int .i64 a0_1), .sc (.int .i64 a0_2), .sc (.int .i64 a0_3), .sc (.int .i64 a0_4)]), (true, [.sc (.int .i64 a1_0), .sc (.int .i64 a1_1), .sc (.int .i64 a1_2), .sc (.int .i64 a1_3), .sc (.int .i64 a1_4), .sc (.int .i64 a1_5), .sc (.bool a1_6)])] some = (S.run_May_R a0_0 a1_2 a1_3 a1_4).go (ret_run_May true) := by kernel_rfl
theorem bs_run_May : loopsIn Try.f53 [] = [] := by kernel_rfl
theorem run_May_ok : Stands Try.prog tyTab 53 g_run_May := by
 refine stands3 (L := find []) (n := 0) (hints := []) (cx_ok rfl) rdy_run_May ⟨by kernel_rfl, by kernel_rfl, by kernel_rfl⟩ bs_run_May nilB (fun das r hG hr => ?_)
 unfold g_run_May at hG
 split at hG
 ·rename_i a0_0n a0_0f a0_0 a0_1 a0_2 a0_3 a0_4 a1_0 a1_1 a1_2 a1_3 a1_4 a1_5 a1_6
  injection hG with hG; subst hG
  exact ⟨none, true, win default ((raw_run_May a0_0n a0_0f a0_0 a0_1 a0_2 a0_3 a0_4 a1_0 a1_1 a1_2 a1_3 a1_4 a1_5 a1_6).trans (DT.go_run _ _)) hr⟩
 ·cases hG
abbrev cx_zunj : Cx := mkCx2 tyTab [(52, g_zvb5), (53, g_run_May), (54, g_zwus), (91, g_zu7x)] [] [] []
theorem rdy_zunj : Ready Try.prog tyTab [(52, g_zvb5), (53, g_run_May), (54, g_zwus), (91, g_zu7x)] [] [] := ⟨consG2 zvb5_ok (consG2 run_May_ok (consG2 zwus_ok (consG2 zu7x_ok (noneG2)))), noneI2, noneF2⟩
structure S.zunj_T where
 x0 : Bool
 deriving Inhabited
def S.zunj_R  : DT S.zunj_T :=
let y0 : Bool := S.zu7x_is 5
let y1 : S.zu7x_T := S.zu7x_o 5
let y2 : List (Ty .step) := y1.x0
let y3 : Int := y1.x2
let y4 : Int := y1.x3
let y5 : Int := y1.x4
let y6 : ByteArray := { data := { toList := [97] : Array UInt8 } : ByteArray }
let y7 : Int := y1.x1
let y8 : S.zvb5_T := S.zvb5_o y2 y3 y4 y5 y6 3 [] 7
let y9 : Int := y8.x0
let y10 : Int := y8.x1
let y11 : Int := y8.x2
let y12 : Int := y8.x3
let y13 : Int := y8.x4
let y14 : Int := y8.x5
let y15 : Bool := y8.x6
let y16 : ByteArray := { data := { toList := [98] : Array UInt8 } : ByteArray }
(.br (y0)
(.br (S.zvb5_is y2 y3 y4 y5 y6 3 [] 7)
(.br (y0)
(.br (S.zwus_is y2 y7 y3 y4 y5 y9 y10 y11 y12 y13 y14 y15 y16 8 [])
(.br (y0)
(.br (S.zwus_is y2 y7 y3 y4 y5 y9 y10 y11 y12 y13 y14 y15 y16 9 [])
(.br (y0)
(.br (S.zwus_is y2 y7 y3 y4 y5 y9 y10 y11 y12 y13 y14 y15 y6 8 [])
(.br (xeqI y8.x7 0)
(.br (xeqI (S.zwus_o y2 y7 y3 y4 y5 y9 y10 y11 y12 y13 y14 y15 y16 8 []).x7 2)
(.br (xeqI (S.zwus_o y2 y7 y3 y4 y5 y9 y10 y11 y12 y13 y14 y15 y16 9 []).x7 1)
(.br (xeqI (S.zwus_o y2 y7 y3 y4 y5 y9 y10 y11 y12 y13 y14 y15 y6 8 []).x7 0)
(.br (xeqI y9 7)
(.br (y0)
(.br (S.run_May_is y2 y11 y12 y13)
(.leaf ⟨(S.run_May_o y2 y11 y12 y13).x0⟩)
.fail)
.fail)
(.leaf ⟨false⟩))
(.leaf ⟨false⟩))
(.leaf ⟨false⟩))
(.leaf ⟨false⟩))
(.leaf ⟨false⟩))
.fail)
.fail)
.fail)
.fail)
.fail)
.fail)
.fail)
.fail)
def S.zunj  : Option S.zunj_T := (S.zunj_R ).run
def S.zunj_is  : Bool := (S.zunj ).isSome
def S.zunj_o  : S.zunj_T := (S.zunj ).getD default
def ret_zunj (b : Bool) (r : S.zunj_T) : Ret := ⟨b, none, [(false, [C.d (.sc (.bool r.x0))])]⟩
def g_zunj : Con
 | [] => some (ret_zunj (S.zunj_is ) (S.zunj_o ))
 | _ => none
theorem raw_zunj  : evR2 cx_zunj (hdI cx_zunj (find []) [] none 0) none Try.f49 49 none [] some = (S.zunj_R ).go (ret_zunj true) := by kernel_rfl
theorem bs_zunj : loopsIn Try.f49 [] = [] := by kernel_rfl
theorem zunj_ok : Stands Try.prog tyTab 49 g_zunj := by
 refine stands3 (L := find []) (n := 0) (hints := []) (cx_ok rfl) rdy_zunj ⟨by kernel_rfl, by kernel_rfl, by kernel_rfl⟩ bs_zunj nilB (fun das r hG hr => ?_)
 unfold g_zunj at hG
 split at hG
 ·injection hG with hG; subst hG
  exact ⟨none, true, win default ((raw_zunj ).trans (DT.go_run _ _)) hr⟩
 ·cases hG
end
end Go.Eng
