/- Contracts, laid by program. -/
import Derived.Test.YtoohnjneocohnaaGreatZG4
import Derived.Test.YtoohnjneocohnaaGreatZN3
set_option linter.unusedVariables false
namespace Go.Eng
noncomputable section
open Go Go.Eng Go.Proofs Go.Eng.Tab
abbrev cx_zc3p : Cx := mkCx2 tyTab [(66, g_zahd), (72, g_told)] [] [] []
theorem rdy_zc3p : Ready Tryz.prog tyTab [(66, g_zahd), (72, g_told)] [] [] := ⟨consG2 zahd_ok (consG2 told_ok (noneG2)), noneI2, noneF2⟩
structure S.zc3p_T where
 x0 : Int
 x1 : Int
 x2 : Int
 x3 : Int
 x4 : Int
 x5 : Int
 x6 : Bool
 x7 : Int
 deriving Inhabited
def S.zc3p_R (a0_0 : Ls) (a0_2 a0_3 a0_4 a1_0 a1_1 a1_2 a1_3 a1_4 a1_5 : Int) (a1_6 : Bool) (a2_2 : Lv) : DT S.zc3p_T :=
let y0 := S.told_o a0_2 a0_3 a0_4 a1_0 a1_1 a1_2 a1_3 a1_4 a1_5 a1_6 a2_2
let y1 := y0.step
let y2 := y0.n
(.br (S.told_is a0_2 a0_3 a0_4 a1_0 a1_1 a1_2 a1_3 a1_4 a1_5 a1_6 a2_2)
(.br (S.zahd_is a0_0 y1 y2)
(.leaf ⟨y0.first, y0.at_, y1, y2, y0.many, y0.agg, y0.bad, (S.zahd_o a0_0 y1 y2).x0⟩)
.fail)
.fail)
def S.zc3p (a0_0 : Ls) (a0_2 a0_3 a0_4 a1_0 a1_1 a1_2 a1_3 a1_4 a1_5 : Int) (a1_6 : Bool) (a2_2 : Lv) : Option S.zc3p_T := (S.zc3p_R a0_0 a0_2 a0_3 a0_4 a1_0 a1_1 a1_2 a1_3 a1_4 a1_5 a1_6 a2_2).run
def S.zc3p_is (a0_0 : Ls) (a0_2 a0_3 a0_4 a1_0 a1_1 a1_2 a1_3 a1_4 a1_5 : Int) (a1_6 : Bool) (a2_2 : Lv) : Bool := (S.zc3p a0_0 a0_2 a0_3 a0_4 a1_0 a1_1 a1_2 a1_3 a1_4 a1_5 a1_6 a2_2).isSome
def S.zc3p_o (a0_0 : Ls) (a0_2 a0_3 a0_4 a1_0 a1_1 a1_2 a1_3 a1_4 a1_5 : Int) (a1_6 : Bool) (a2_2 : Lv) : S.zc3p_T := (S.zc3p a0_0 a0_2 a0_3 a0_4 a1_0 a1_1 a1_2 a1_3 a1_4 a1_5 a1_6 a2_2).getD default
def ret_zc3p (b : Bool) (r : S.zc3p_T) : Ret := ⟨b, none, [(true,
    [(cI r.x0), (cI r.x1), (cI r.x2), (cI r.x3),
     (cI r.x4), (cI r.x5), cB r.x6]),
 (false, [(cI r.x7)])]⟩
def g_zc3p : Con
 | [(true, [.sl a0_0n a0_0f .step a0_0, .sc (.int .i64 a0_1), .sc (.int .i64 a0_2), .sc (.int .i64 a0_3), .sc (.int .i64 a0_4)]), (true, [.sc (.int .i64 a1_0), .sc (.int .i64 a1_1), .sc (.int .i64 a1_2), .sc (.int .i64 a1_3), .sc (.int .i64 a1_4), .sc (.int .i64 a1_5), .sc (.bool a1_6)]), (true, [.sc (.str a2_0), .sc (.int .i64 a2_1), .sl a2_2n a2_2f .val a2_2])] => some (ret_zc3p (S.zc3p_is a0_0 a0_2 a0_3 a0_4 a1_0 a1_1 a1_2 a1_3 a1_4 a1_5 a1_6 a2_2) (S.zc3p_o a0_0 a0_2 a0_3 a0_4 a1_0 a1_1 a1_2 a1_3 a1_4 a1_5 a1_6 a2_2))
 | _ => none
theorem raw_zc3p (a0_0n : OBz) (a0_0f : Bool) (a0_0 : Ls) (a0_1 a0_2 a0_3 a0_4 a1_0 a1_1 a1_2 a1_3 a1_4 a1_5 : Int) (a1_6 : Bool) (a2_0 : ByteArray) (a2_1 : Int) (a2_2n : OBz) (a2_2f : Bool) (a2_2 : Lv) : evR2 cx_zc3p (hdI cx_zc3p (find []) [] none 0) none Tryz.f63 63 none [(true, [.sl a0_0n a0_0f .step a0_0, dI a0_1, dI a0_2, dI a0_3, dI a0_4]), (true, [dI a1_0, dI a1_1, dI a1_2, dI a1_3, dI a1_4, dI a1_5, .sc (.bool a1_6)]), (true, [.sc (.str a2_0), dI a2_1, .sl a2_2n a2_2f .val a2_2])] some = (S.zc3p_R a0_0 a0_2 a0_3 a0_4 a1_0 a1_1 a1_2 a1_3 a1_4 a1_5 a1_6 a2_2).go (ret_zc3p true) := by kernel_rfl
theorem bs_zc3p : loopsIn Tryz.f63 [] = [] := by kernel_rfl
theorem zc3p_ok : Stands Tryz.prog tyTab 63 g_zc3p := by
 refine stands3 (L := find []) (n := 0) (hints := []) (cx_ok rfl) rdy_zc3p ⟨by kernel_rfl, by kernel_rfl, by kernel_rfl⟩ bs_zc3p nilB (fun das r hG hr => ?_)
 unfold g_zc3p at hG
 split at hG
 ·rename_i a0_0n a0_0f a0_0 a0_1 a0_2 a0_3 a0_4 a1_0 a1_1 a1_2 a1_3 a1_4 a1_5 a1_6 a2_0 a2_1 a2_2n a2_2f a2_2
  injection hG with hG; subst hG
  exact ⟨none, true, win default ((raw_zc3p a0_0n a0_0f a0_0 a0_1 a0_2 a0_3 a0_4 a1_0 a1_1 a1_2 a1_3 a1_4 a1_5 a1_6 a2_0 a2_1 a2_2n a2_2f a2_2).trans (DT.go_run _ _)) hr⟩
 ·cases hG
abbrev cx_zvb5 : Cx := mkCx2 tyTab [(62, g_z5c6), (63, g_zc3p)] [] [] []
theorem rdy_zvb5 : Ready Tryz.prog tyTab [(62, g_z5c6), (63, g_zc3p)] [] [] := ⟨consG2 z5c6_ok (consG2 zc3p_ok (noneG2)), noneI2, noneF2⟩
structure S.zvb5_T where
 x0 : Int
 x1 : Int
 x2 : Int
 x3 : Int
 x4 : Int
 x5 : Int
 x6 : Bool
 x7 : Int
 deriving Inhabited
def S.zvb5_R (a0_0 : Ls) (a0_2 a0_3 a0_4 : Int) (a1_0 : ByteArray) (a1_1 : Int) (a1_2 : Lv) (a2 : Int) : DT S.zvb5_T :=
let y0 : Int := (↑a0_0.length : Int)
let y1 : Ty .step := a0_0.getD (Int.toNat 0) (dflt .step)
let y2 := y1.name
let y3 := y1.ifs
let y4 := S.zc3p_o a0_0 a0_2 a0_3 a0_4 a2 a1_1 0 1 0 0 false a1_2
(.br (xeqI y0 0)
(.leaf ⟨0, 0, 0, 0, 0, 0, false, 1⟩)
(.br (xdec (0 ≤ 0) && xdec (0 < y0))
(.br (S.z5c6_is y2 y3 a1_0 a1_1 a1_2)
(.br (xnot (S.z5c6_o y2 y3 a1_0 a1_1 a1_2).x0)
(.leaf ⟨0, 0, 0, 0, 0, 0, false, 1⟩)
(.br (S.zc3p_is a0_0 a0_2 a0_3 a0_4 a2 a1_1 0 1 0 0 false a1_2)
(.leaf ⟨y4.x0, y4.x1, y4.x2, y4.x3, y4.x4, y4.x5, y4.x6, y4.x7⟩)
.fail))
.fail)
.fail))
def S.zvb5 (a0_0 : Ls) (a0_2 a0_3 a0_4 : Int) (a1_0 : ByteArray) (a1_1 : Int) (a1_2 : Lv) (a2 : Int) : Option S.zvb5_T := (S.zvb5_R a0_0 a0_2 a0_3 a0_4 a1_0 a1_1 a1_2 a2).run
def S.zvb5_is (a0_0 : Ls) (a0_2 a0_3 a0_4 : Int) (a1_0 : ByteArray) (a1_1 : Int) (a1_2 : Lv) (a2 : Int) : Bool := (S.zvb5 a0_0 a0_2 a0_3 a0_4 a1_0 a1_1 a1_2 a2).isSome
def S.zvb5_o (a0_0 : Ls) (a0_2 a0_3 a0_4 : Int) (a1_0 : ByteArray) (a1_1 : Int) (a1_2 : Lv) (a2 : Int) : S.zvb5_T := (S.zvb5 a0_0 a0_2 a0_3 a0_4 a1_0 a1_1 a1_2 a2).getD default
def ret_zvb5 (b : Bool) (r : S.zvb5_T) : Ret := ⟨b, none, [(true,
    [(cI r.x0), (cI r.x1), (cI r.x2), (cI r.x3),
     (cI r.x4), (cI r.x5), cB r.x6]),
 (false, [(cI r.x7)])]⟩
def g_zvb5 : Con
 | [(true, [.sl a0_0n a0_0f .step a0_0, .sc (.int .i64 a0_1), .sc (.int .i64 a0_2), .sc (.int .i64 a0_3), .sc (.int .i64 a0_4)]), (true, [.sc (.str a1_0), .sc (.int .i64 a1_1), .sl a1_2n a1_2f .val a1_2]), (false, [.sc (.int .i64 a2)])] => some (ret_zvb5 (S.zvb5_is a0_0 a0_2 a0_3 a0_4 a1_0 a1_1 a1_2 a2) (S.zvb5_o a0_0 a0_2 a0_3 a0_4 a1_0 a1_1 a1_2 a2))
 | _ => none
theorem raw_zvb5 (a0_0n : OBz) (a0_0f : Bool) (a0_0 : Ls) (a0_1 a0_2 a0_3 a0_4 : Int) (a1_0 : ByteArray) (a1_1 : Int) (a1_2n : OBz) (a1_2f : Bool) (a1_2 : Lv) (a2 : Int) : evR2 cx_zvb5 (hdI cx_zvb5 (find []) [] none 0) none Tryz.f42 42 none [(true, [.sl a0_0n a0_0f .step a0_0, dI a0_1, dI a0_2, dI a0_3, dI a0_4]), (true, [.sc (.str a1_0), dI a1_1, .sl a1_2n a1_2f .val a1_2]), (false, [dI a2])] some = (S.zvb5_R a0_0 a0_2 a0_3 a0_4 a1_0 a1_1 a1_2 a2).go (ret_zvb5 true) := by kernel_rfl
theorem bs_zvb5 : loopsIn Tryz.f42 [] = [] := by kernel_rfl
theorem zvb5_ok : Stands Tryz.prog tyTab 42 g_zvb5 := by
 refine stands3 (L := find []) (n := 0) (hints := []) (cx_ok rfl) rdy_zvb5 ⟨by kernel_rfl, by kernel_rfl, by kernel_rfl⟩ bs_zvb5 nilB (fun das r hG hr => ?_)
 unfold g_zvb5 at hG
 split at hG
 ·rename_i a0_0n a0_0f a0_0 a0_1 a0_2 a0_3 a0_4 a1_0 a1_1 a1_2n a1_2f a1_2 a2
  injection hG with hG; subst hG
  exact ⟨none, true, win default ((raw_zvb5 a0_0n a0_0f a0_0 a0_1 a0_2 a0_3 a0_4 a1_0 a1_1 a1_2n a1_2f a1_2 a2).trans (DT.go_run _ _)) hr⟩
 ·cases hG
abbrev cx_zwus : Cx := mkCx2 tyTab [(62, g_z5c6), (63, g_zc3p), (64, g_zfzb), (65, g_zrsz)] [] [] []
theorem rdy_zwus : Ready Tryz.prog tyTab [(62, g_z5c6), (63, g_zc3p), (64, g_zfzb), (65, g_zrsz)] [] [] := ⟨consG2 z5c6_ok (consG2 zc3p_ok (consG2 zfzb_ok (consG2 zrsz_ok (noneG2)))), noneI2, noneF2⟩
structure S.zwus_T where
 x0 : Int
 x1 : Int
 x2 : Int
 x3 : Int
 x4 : Int
 x5 : Int
 x6 : Bool
 x7 : Int
 deriving Inhabited
def S.zwus_R (a0_0 : Ls) (a0_1 a0_2 a0_3 a0_4 a1_0 a1_1 a1_2 a1_3 a1_4 a1_5 : Int) (a1_6 : Bool) (a2_0 : ByteArray) (a2_1 : Int) (a2_2 : Lv) : DT S.zwus_T :=
let y0 : Nat := a0_0.length
let y1 : Int := (↑y0 : Int)
let y2 : Int := xwrap .i64 (a1_2 + 1)
let y3 : Ls := sub a0_0 y2.toNat y0
let y4 : Int := (↑y3.length : Int)
let y5 : Ty .step := a0_0.getD a1_2.toNat (dflt .step)
let y6 : Bool := xdec (0 ≤ 0) && xdec (0 < y4)
let y7 : Ty .step := y3.getD (Int.toNat 0) (dflt .step)
let y8 := y7.guard
let y9 := y7.notName
let y10 := y7.notIf
let y11 := y7.name
let y12 := y7.ifs
let y13 := S.zc3p_o a0_0 a0_2 a0_3 a0_4 a1_0 a1_1 y2 1 a1_4 a1_5 a1_6 a2_2
let y14 : Bool := xdec (a1_3 < y5.max)
let y15 := y5.name
let y16 := y5.ifs
let y17 := S.z5c6_is y15 y16 a2_0 a2_1 a2_2
let y18 : Bool := (S.z5c6_o y15 y16 a2_0 a2_1 a2_2).x0
let y19 : Int := xwrap .i64 (a1_3 + 1)
let y20 := S.zc3p_is a0_0 a0_2 a0_3 a0_4 a1_0 a1_1 a1_2 y19 a1_4 a1_5 a1_6 a2_2
let y21 := S.zc3p_o a0_0 a0_2 a0_3 a0_4 a1_0 a1_1 a1_2 y19 a1_4 a1_5 a1_6 a2_2
let y22 := y21.x0
let y23 := y21.x1
let y24 := y21.x2
let y25 := y21.x3
let y26 := y21.x4
let y27 := y21.x5
let y28 := y21.x6
let y29 := y21.x7
(.br (xdec (a1_2 < 0))
(.leaf ⟨a1_0, a1_1, a1_2, a1_3, a1_4, a1_5, a1_6, 1⟩)
(.br (xdec (a1_2 ≥ y1))
(.leaf ⟨a1_0, a1_1, a1_2, a1_3, a1_4, a1_5, a1_6, 1⟩)
(.br (xdec (a2_1 < a1_1))
(.leaf ⟨a1_0, a1_1, a1_2, a1_3, a1_4, a1_5, a1_6, 0⟩)
(.br (S.zfzb_is a0_1 a1_1 a2_1)
(.br ((S.zfzb_o a0_1 a1_1 a2_1).x0)
(.leaf ⟨a1_0, a1_1, a1_2, a1_3, a1_4, a1_5, a1_6, 1⟩)
(.br (xdec (0 ≤ a1_2) && xdec (a1_2 < y1))
(.br (xdec (0 ≤ y2) && xdec (y2 ≤ Int.ofNat y0) && true && true)
(.br (xdec (y4 > 0))
(.br (xdec (a1_3 ≥ y5.min))
(.br (y6)
(.br (S.zrsz_is y8 y9 y10 a2_0 a2_1 a2_2)
(.br ((S.zrsz_o y8 y9 y10 a2_0 a2_1 a2_2).x0)
(.leaf ⟨a1_0, a1_1, a1_2, a1_3, a1_4, a1_5, a1_6, 1⟩)
(.br (y6)
(.br (S.z5c6_is y11 y12 a2_0 a2_1 a2_2)
(.br ((S.z5c6_o y11 y12 a2_0 a2_1 a2_2).x0)
(.br (S.zc3p_is a0_0 a0_2 a0_3 a0_4 a1_0 a1_1 y2 1 a1_4 a1_5 a1_6 a2_2)
(.leaf ⟨y13.x0, y13.x1, y13.x2, y13.x3, y13.x4, y13.x5, y13.x6, y13.x7⟩)
.fail)
(.br (y14)
(.br (y17)
(.br (y18)
(.br (y20)
(.leaf ⟨y22, y23, y24, y25, y26, y27, y28, y29⟩)
.fail)
(.leaf ⟨a1_0, a1_1, a1_2, a1_3, a1_4, a1_5, a1_6, 0⟩))
.fail)
(.leaf ⟨a1_0, a1_1, a1_2, a1_3, a1_4, a1_5, a1_6, 0⟩)))
.fail)
.fail))
.fail)
.fail)
(.br (y14)
(.br (y17)
(.br (y18)
(.br (y20)
(.leaf ⟨y22, y23, y24, y25, y26, y27, y28, y29⟩)
.fail)
(.leaf ⟨a1_0, a1_1, a1_2, a1_3, a1_4, a1_5, a1_6, 0⟩))
.fail)
(.leaf ⟨a1_0, a1_1, a1_2, a1_3, a1_4, a1_5, a1_6, 0⟩)))
(.br (y14)
(.br (y17)
(.br (y18)
(.br (y20)
(.leaf ⟨y22, y23, y24, y25, y26, y27, y28, y29⟩)
.fail)
(.leaf ⟨a1_0, a1_1, a1_2, a1_3, a1_4, a1_5, a1_6, 0⟩))
.fail)
(.leaf ⟨a1_0, a1_1, a1_2, a1_3, a1_4, a1_5, a1_6, 0⟩)))
.fail)
.fail))
.fail))))
def S.zwus (a0_0 : Ls) (a0_1 a0_2 a0_3 a0_4 a1_0 a1_1 a1_2 a1_3 a1_4 a1_5 : Int) (a1_6 : Bool) (a2_0 : ByteArray) (a2_1 : Int) (a2_2 : Lv) : Option S.zwus_T := (S.zwus_R a0_0 a0_1 a0_2 a0_3 a0_4 a1_0 a1_1 a1_2 a1_3 a1_4 a1_5 a1_6 a2_0 a2_1 a2_2).run
def S.zwus_is (a0_0 : Ls) (a0_1 a0_2 a0_3 a0_4 a1_0 a1_1 a1_2 a1_3 a1_4 a1_5 : Int) (a1_6 : Bool) (a2_0 : ByteArray) (a2_1 : Int) (a2_2 : Lv) : Bool := (S.zwus a0_0 a0_1 a0_2 a0_3 a0_4 a1_0 a1_1 a1_2 a1_3 a1_4 a1_5 a1_6 a2_0 a2_1 a2_2).isSome
def S.zwus_o (a0_0 : Ls) (a0_1 a0_2 a0_3 a0_4 a1_0 a1_1 a1_2 a1_3 a1_4 a1_5 : Int) (a1_6 : Bool) (a2_0 : ByteArray) (a2_1 : Int) (a2_2 : Lv) : S.zwus_T := (S.zwus a0_0 a0_1 a0_2 a0_3 a0_4 a1_0 a1_1 a1_2 a1_3 a1_4 a1_5 a1_6 a2_0 a2_1 a2_2).getD default
def ret_zwus (b : Bool) (r : S.zwus_T) : Ret := ⟨b, none, [(true,
    [(cI r.x0), (cI r.x1), (cI r.x2), (cI r.x3),
     (cI r.x4), (cI r.x5), cB r.x6]),
 (false, [(cI r.x7)])]⟩
def g_zwus : Con
 | [(true, [.sl a0_0n a0_0f .step a0_0, .sc (.int .i64 a0_1), .sc (.int .i64 a0_2), .sc (.int .i64 a0_3), .sc (.int .i64 a0_4)]), (true, [.sc (.int .i64 a1_0), .sc (.int .i64 a1_1), .sc (.int .i64 a1_2), .sc (.int .i64 a1_3), .sc (.int .i64 a1_4), .sc (.int .i64 a1_5), .sc (.bool a1_6)]), (true, [.sc (.str a2_0), .sc (.int .i64 a2_1), .sl a2_2n a2_2f .val a2_2])] => some (ret_zwus (S.zwus_is a0_0 a0_1 a0_2 a0_3 a0_4 a1_0 a1_1 a1_2 a1_3 a1_4 a1_5 a1_6 a2_0 a2_1 a2_2) (S.zwus_o a0_0 a0_1 a0_2 a0_3 a0_4 a1_0 a1_1 a1_2 a1_3 a1_4 a1_5 a1_6 a2_0 a2_1 a2_2))
 | _ => none
theorem raw_zwus (a0_0n : OBz) (a0_0f : Bool) (a0_0 : Ls) (a0_1 a0_2 a0_3 a0_4 a1_0 a1_1 a1_2 a1_3 a1_4 a1_5 : Int) (a1_6 : Bool) (a2_0 : ByteArray) (a2_1 : Int) (a2_2n : OBz) (a2_2f : Bool) (a2_2 : Lv) : evR2 cx_zwus (hdI cx_zwus (find []) [] none 0) none Tryz.f43 43 none [(true, [.sl a0_0n a0_0f .step a0_0, dI a0_1, dI a0_2, dI a0_3, dI a0_4]), (true, [dI a1_0, dI a1_1, dI a1_2, dI a1_3, dI a1_4, dI a1_5, .sc (.bool a1_6)]), (true, [.sc (.str a2_0), dI a2_1, .sl a2_2n a2_2f .val a2_2])] some = (S.zwus_R a0_0 a0_1 a0_2 a0_3 a0_4 a1_0 a1_1 a1_2 a1_3 a1_4 a1_5 a1_6 a2_0 a2_1 a2_2).go (ret_zwus true) := by kernel_rfl
theorem bs_zwus : loopsIn Tryz.f43 [] = [] := by kernel_rfl
theorem zwus_ok : Stands Tryz.prog tyTab 43 g_zwus := by
 refine stands3 (L := find []) (n := 0) (hints := []) (cx_ok rfl) rdy_zwus ⟨by kernel_rfl, by kernel_rfl, by kernel_rfl⟩ bs_zwus nilB (fun das r hG hr => ?_)
 unfold g_zwus at hG
 split at hG
 ·rename_i a0_0n a0_0f a0_0 a0_1 a0_2 a0_3 a0_4 a1_0 a1_1 a1_2 a1_3 a1_4 a1_5 a1_6 a2_0 a2_1 a2_2n a2_2f a2_2
  injection hG with hG; subst hG
  exact ⟨none, true, win default ((raw_zwus a0_0n a0_0f a0_0 a0_1 a0_2 a0_3 a0_4 a1_0 a1_1 a1_2 a1_3 a1_4 a1_5 a1_6 a2_0 a2_1 a2_2n a2_2f a2_2).trans (DT.go_run _ _)) hr⟩
 ·cases hG
abbrev cx_zzvv : Cx := mkCx2 tyTab [(66, g_zahd)] [] [] []
theorem rdy_zzvv : Ready Tryz.prog tyTab [(66, g_zahd)] [] [] := ⟨consG2 zahd_ok (noneG2), noneI2, noneF2⟩
structure S.zzvv_T where
 x0 : Bool
 deriving Inhabited
def S.zzvv_R (a0_0 : Ls) (a1_2 a1_3 a1_4 : Int) : DT S.zzvv_T :=
let y0 : Int := (↑a0_0.length : Int)
(.br (xdec (a1_2 < 0))
(.leaf ⟨false⟩)
(.br (xdec (a1_2 ≥ y0))
(.leaf ⟨false⟩)
(.br (xdec (a1_4 < 0))
(.leaf ⟨false⟩)
(.br (xdec (a1_3 > 0))
(.br (xdec (0 ≤ a1_2) && xdec (a1_2 < y0))
(.br (xdec (a1_3 ≤ (a0_0.getD a1_2.toNat (dflt .step)).max))
(.br (S.zahd_is a0_0 a1_2 a1_3)
(.leaf ⟨xeqI (S.zahd_o a0_0 a1_2 a1_3).x0 0⟩)
.fail)
(.leaf ⟨false⟩))
.fail)
(.leaf ⟨false⟩)))))
def S.zzvv (a0_0 : Ls) (a1_2 a1_3 a1_4 : Int) : Option S.zzvv_T := (S.zzvv_R a0_0 a1_2 a1_3 a1_4).run
def S.zzvv_is (a0_0 : Ls) (a1_2 a1_3 a1_4 : Int) : Bool := (S.zzvv a0_0 a1_2 a1_3 a1_4).isSome
def S.zzvv_o (a0_0 : Ls) (a1_2 a1_3 a1_4 : Int) : S.zzvv_T := (S.zzvv a0_0 a1_2 a1_3 a1_4).getD default
def ret_zzvv (b : Bool) (r : S.zzvv_T) : Ret := ⟨b, none, [(false, [cB r.x0])]⟩
def g_zzvv : Con
 | [(true, [.sl a0_0n a0_0f .step a0_0, .sc (.int .i64 a0_1), .sc (.int .i64 a0_2), .sc (.int .i64 a0_3), .sc (.int .i64 a0_4)]), (true, [.sc (.int .i64 a1_0), .sc (.int .i64 a1_1), .sc (.int .i64 a1_2), .sc (.int .i64 a1_3), .sc (.int .i64 a1_4), .sc (.int .i64 a1_5), .sc (.bool a1_6)])] => some (ret_zzvv (S.zzvv_is a0_0 a1_2 a1_3 a1_4) (S.zzvv_o a0_0 a1_2 a1_3 a1_4))
 | _ => none
theorem raw_zzvv (a0_0n : OBz) (a0_0f : Bool) (a0_0 : Ls) (a0_1 a0_2 a0_3 a0_4 a1_0 a1_1 a1_2 a1_3 a1_4 a1_5 : Int) (a1_6 : Bool) : evR2 cx_zzvv (hdI cx_zzvv (find []) [] none 0) none Tryz.f52 52 none [(true, [.sl a0_0n a0_0f .step a0_0, dI a0_1, dI a0_2, dI a0_3, dI a0_4]), (true, [dI a1_0, dI a1_1, dI a1_2, dI a1_3, dI a1_4, dI a1_5, .sc (.bool a1_6)])] some = (S.zzvv_R a0_0 a1_2 a1_3 a1_4).go (ret_zzvv true) := by kernel_rfl
theorem bs_zzvv : loopsIn Tryz.f52 [] = [] := by kernel_rfl
theorem zzvv_ok : Stands Tryz.prog tyTab 52 g_zzvv := by
 refine stands3 (L := find []) (n := 0) (hints := []) (cx_ok rfl) rdy_zzvv ⟨by kernel_rfl, by kernel_rfl, by kernel_rfl⟩ bs_zzvv nilB (fun das r hG hr => ?_)
 unfold g_zzvv at hG
 split at hG
 ·rename_i a0_0n a0_0f a0_0 a0_1 a0_2 a0_3 a0_4 a1_0 a1_1 a1_2 a1_3 a1_4 a1_5 a1_6
  injection hG with hG; subst hG
  exact ⟨none, true, win default ((raw_zzvv a0_0n a0_0f a0_0 a0_1 a0_2 a0_3 a0_4 a1_0 a1_1 a1_2 a1_3 a1_4 a1_5 a1_6).trans (DT.go_run _ _)) hr⟩
 ·cases hG
abbrev cx_ztra : Cx := mkCx2 tyTab [] [] [(36, 2, { keep := [0, 3], acc := [] })] []
theorem rdy_ztra : Ready Tryz.prog tyTab [] [] [] := ⟨noneG2, noneI2, noneF2⟩
structure S.ztra_2_V where
 t3_ : Int
def S.ztra_2_R (qA : ByteArray) (v : S.ztra_2_V) : DT (Option Nat × S.ztra_2_V) :=
let y0 : Bool := xdec (v.t3_ < (↑qA.size : Int))
let y1 : Int := (↑(byteAt qA v.t3_.toNat) : Int)
let y2 : Bool := xeqI v.t3_ 0
let y3 : Bool := xneI y1 95
let y4 : Bool := xdec (y1 < 48)
let y5 : Bool := xdec (y1 > 57)
let y6 : Int := xwrap .i64 (v.t3_ + 1)
(.br (y0)
(.br (xdec (0 ≤ v.t3_) && y0)
(.br (xdec (y1 ≥ 97))
(.br (xnot (xdec (y1 ≤ 122)))
(.br (y2)
(.leaf (some 0, v))
(.br (y3)
(.br (y4)
(.leaf (some 0, v))
(.br (y5)
(.leaf (some 0, v))
(.leaf (none, ⟨y6⟩))))
(.leaf (none, ⟨y6⟩))))
(.leaf (none, ⟨y6⟩)))
(.br (y2)
(.leaf (some 0, v))
(.br (y3)
(.br (y4)
(.leaf (some 0, v))
(.br (y5)
(.leaf (some 0, v))
(.leaf (none, ⟨y6⟩))))
(.leaf (none, ⟨y6⟩)))))
.fail)
(.leaf (some 1, v)))
def S.ztra_2_r (qA : ByteArray) (v : S.ztra_2_V) : Option (Option Nat × S.ztra_2_V) := (S.ztra_2_R qA v).run
def S.ztra_2_j (qA : ByteArray) (v : S.ztra_2_V) (j : Nat) : Bool := Lp_j (S.ztra_2_r qA) v j
def S.ztra_2_v (qA : ByteArray) (v : S.ztra_2_V) : S.ztra_2_V := Lp_v (S.ztra_2_r qA) v
def mk_ztra_2 (qA : ByteArray) (v : S.ztra_2_V) : St := ⟨(V.v false [C.d (.sc (.str qA))] :: (V.any :: (V.any :: ((cV v.t3_) :: (vs 43 []))))), [none, none], 0⟩
def ex_ztra_2 (qA : ByteArray) (j : Nat) (v : S.ztra_2_V) : Ex × St := match j with
 | 0 => (Ex.ret, ⟨(V.v false [C.d (.sc (.str qA))] :: (V.any :: (V.v false [cB false] :: (vs 44 [])))), (ns 36 []), 0⟩)
 | 1 => (Ex.exit 0, ⟨(V.v false [C.d (.sc (.str qA))] :: (vs 46 [])), (ns 6 []), 0⟩)
 | _ => (.ret, ⟨[], [], 0⟩)
def T1_ztra_2 : V → V → Tree
 | V.v false [C.d (.sc (.str qA))], V.v false [C.d (.sc (.int .i64 t3_))] => exT (fun j => ex_ztra_2 qA j (S.ztra_2_v qA ⟨t3_⟩)) (S.ztra_2_j qA ⟨t3_⟩) [0, 1]
 | _, _ => .bad
def T_ztra_2 (st : St) : Tree := bif okSt 47 2 0 [] st then T1_ztra_2 (st.env.getD 0 .any) (st.env.getD 3 .any) else .bad
def b_ztra_2 : Code := loopBy Tryz.f36 2
theorem rnd_ztra_2 (qA : ByteArray) (v : S.ztra_2_V) : round2 cx_ztra (hdI cx_ztra (find []) [] none 0) 36 b_ztra_2 [] 2 [0, 2] (mk_ztra_2 qA v) = (S.ztra_2_R qA v).go (roundOut (mk_ztra_2 qA) (ex_ztra_2 qA)) := by kernel_rfl
theorem bs_ztra_2 : loopsOf b_ztra_2 ++ loopsInl [] = [] := by kernel_rfl
theorem ci_ztra_2 (qA : ByteArray) : ∀ v j v2, Lp (S.ztra_2_r qA) v = some (j, v2) → Circles Tryz.prog cx_ztra b_ztra_2 (mk_ztra_2 qA v) (ex_ztra_2 qA j v2).1 (ex_ztra_2 qA j v2).2 :=
 loop_ok2 (L := find []) (n := 0) (hints := [(36, 2, { keep := [0, 3], acc := [] })]) (cx_ok rfl) rdy_ztra bs_ztra_2 nilB (fun v => (rnd_ztra_2 qA v).trans (DT.go_run _ _)) (by intro j v; unfold ex_ztra_2; split <;> rfl)
theorem mke_ztra_2 (qA : ByteArray) (v : S.ztra_2_V) : mk_ztra_2 qA v = ⟨envOf 47 [(0, V.v false [C.d (.sc (.str qA))]), (3, (cV v.t3_))], heapOf 2 [], 0⟩ := by kernel_rfl
theorem lo1_ztra_2 (e0 e3 : V)  e st2 (h : (T1_ztra_2 e0 e3).eval = some (e, st2)) : Circles Tryz.prog cx_ztra b_ztra_2 ⟨envOf 47 [(0, e0), (3, e3)], heapOf 2 [], 0⟩ e st2 := by
 unfold T1_ztra_2 at h
 split at h
 ·have := loop_tree (mk := mk_ztra_2 _) (ci_ztra_2 _) _ _ e st2 h
  rw [mke_ztra_2] at this
  exact this
 ·cases h
theorem lok_ztra_2 : LoopOk Tryz.prog cx_ztra b_ztra_2 T_ztra_2 := by
 intro st e st2 h
 unfold T_ztra_2 at h
 cases hk : okSt 47 2 0 [] st with
 | false => rw [hk] at h; cases h
 | true =>
  rw [hk] at h
  exact circles_keep (ks := [0, 3]) hk (lo1_ztra_2 _ _ e st2 h)
structure S.ztra_T where
 x0 : Bool
 deriving Inhabited
def S.ztra_R (a0 : ByteArray) : DT S.ztra_T :=
let y0 : S.ztra_2_V := { t3_ := 0 : S.ztra_2_V }
let y1 : Int := (↑a0.size : Int)
(.br (S.ztra_2_j a0 y0 0)
(.leaf ⟨false⟩)
(.br (S.ztra_2_j a0 y0 1)
(.br (xdec (y1 ≥ 1))
(.leaf ⟨xdec (y1 ≤ 12)⟩)
(.leaf ⟨false⟩))
.fail))
def S.ztra (a0 : ByteArray) : Option S.ztra_T := (S.ztra_R a0).run
def S.ztra_is (a0 : ByteArray) : Bool := (S.ztra a0).isSome
def S.ztra_o (a0 : ByteArray) : S.ztra_T := (S.ztra a0).getD default
def ret_ztra (b : Bool) (r : S.ztra_T) : Ret := ⟨b, none, [(false, [cB r.x0])]⟩
def g_ztra : Con
 | [(false, [.sc (.str a0)])] => some (ret_ztra (S.ztra_is a0) (S.ztra_o a0))
 | _ => none
theorem raw_ztra (a0 : ByteArray) : evR2 cx_ztra (hdI cx_ztra (find [(2, T_ztra_2)]) [] none 0) none Tryz.f36 36 none [(false, [.sc (.str a0)])] some = (S.ztra_R a0).go (ret_ztra true) := by kernel_rfl
theorem bs_ztra : loopsIn Tryz.f36 [] = [b_ztra_2] := by kernel_rfl
theorem ztra_ok : Stands Tryz.prog tyTab 36 g_ztra := by
 refine stands3 (L := find [(2, T_ztra_2)]) (n := 0) (hints := [(36, 2, { keep := [0, 3], acc := [] })]) (cx_ok rfl) rdy_ztra ⟨by kernel_rfl, by kernel_rfl, by kernel_rfl⟩ bs_ztra (consB (fun T h => by have e : T_ztra_2 = T := Option.some.inj (show some T_ztra_2 = some T from h); exact e ▸ lok_ztra_2) nilB) (fun das r hG hr => ?_)
 unfold g_ztra at hG
 split at hG
 ·rename_i a0
  injection hG with hG; subst hG
  exact ⟨none, true, win default ((raw_ztra a0).trans (DT.go_run _ _)) hr⟩
 ·cases hG
abbrev cx_zfbt : Cx := mkCx2 tyTab [] [] [] []
theorem rdy_zfbt : Ready Tryz.prog tyTab [] [] [] := ⟨noneG2, noneI2, noneF2⟩
structure S.zfbt_T where
 x0 : Bool
 deriving Inhabited
def S.zfbt_R (a0_0 a0_1 : Int) (a0_2 : ByteArray) : DT S.zfbt_T :=
let y0 : Bool := xeqI a0_0 0
let y1 : Bool := xeqI a0_0 1
let y2 : Bool := xeqI a0_1 0
let y3 : Bool := xeqI a0_1 1
let y4 : Bool := xeqI a0_0 2
let y5 : Bool := xdec ((↑a0_2.size : Int) ≤ 40)
let y6 : Bool := xeqI a0_0 3
let y7 : Bool := xdec (a0_1 ≥ 0)
let y8 : Bool := xdec (a0_1 ≤ 1125899906842624)
(.br (xneI a0_0 2)
(.br (xnot (xdec (a0_2 = { data := { toList := [] : Array UInt8 } : ByteArray })))
(.leaf ⟨false⟩)
(.br (y0)
(.leaf ⟨true⟩)
(.br (y1)
(.br (y2)
(.leaf ⟨true⟩)
(.leaf ⟨y3⟩))
(.br (y4)
(.br (y2)
(.leaf ⟨y5⟩)
(.leaf ⟨false⟩))
(.br (y6)
(.br (y7)
(.leaf ⟨y8⟩)
(.leaf ⟨false⟩))
(.leaf ⟨false⟩))))))
(.br (y0)
(.leaf ⟨true⟩)
(.br (y1)
(.br (y2)
(.leaf ⟨true⟩)
(.leaf ⟨y3⟩))
(.br (y4)
(.br (y2)
(.leaf ⟨y5⟩)
(.leaf ⟨false⟩))
(.br (y6)
(.br (y7)
(.leaf ⟨y8⟩)
(.leaf ⟨false⟩))
(.leaf ⟨false⟩))))))
def S.zfbt (a0_0 a0_1 : Int) (a0_2 : ByteArray) : Option S.zfbt_T := (S.zfbt_R a0_0 a0_1 a0_2).run
def S.zfbt_is (a0_0 a0_1 : Int) (a0_2 : ByteArray) : Bool := (S.zfbt a0_0 a0_1 a0_2).isSome
def S.zfbt_o (a0_0 a0_1 : Int) (a0_2 : ByteArray) : S.zfbt_T := (S.zfbt a0_0 a0_1 a0_2).getD default
def ret_zfbt (b : Bool) (r : S.zfbt_T) : Ret := ⟨b, none, [(false, [cB r.x0])]⟩
def g_zfbt : Con
 | [(true, [.sc (.int .i64 a0_0), .sc (.int .i64 a0_1), .sc (.str a0_2)])] => some (ret_zfbt (S.zfbt_is a0_0 a0_1 a0_2) (S.zfbt_o a0_0 a0_1 a0_2))
 | _ => none
theorem raw_zfbt (a0_0 a0_1 : Int) (a0_2 : ByteArray) : evR2 cx_zfbt (hdI cx_zfbt (find []) [] none 0) none Tryz.f57 57 none [(true, [dI a0_0, dI a0_1, .sc (.str a0_2)])] some = (S.zfbt_R a0_0 a0_1 a0_2).go (ret_zfbt true) := by kernel_rfl
theorem bs_zfbt : loopsIn Tryz.f57 [] = [] := by kernel_rfl
theorem zfbt_ok : Stands Tryz.prog tyTab 57 g_zfbt := by
 refine stands3 (L := find []) (n := 0) (hints := []) (cx_ok rfl) rdy_zfbt ⟨by kernel_rfl, by kernel_rfl, by kernel_rfl⟩ bs_zfbt nilB (fun das r hG hr => ?_)
 unfold g_zfbt at hG
 split at hG
 ·rename_i a0_0 a0_1 a0_2
  injection hG with hG; subst hG
  exact ⟨none, true, win default ((raw_zfbt a0_0 a0_1 a0_2).trans (DT.go_run _ _)) hr⟩
 ·cases hG
abbrev cx_zcnl : Cx := mkCx2 tyTab [(57, g_zfbt)] [] [(37, 2, { keep := [0, 3], acc := [] })] []
theorem rdy_zcnl : Ready Tryz.prog tyTab [(57, g_zfbt)] [] [] := ⟨consG2 zfbt_ok (noneG2), noneI2, noneF2⟩
structure S.zcnl_2_V where
 t3_ : Int
def S.zcnl_2_R (qA : Lo) (v : S.zcnl_2_V) : DT (Option Nat × S.zcnl_2_V) :=
let y0 : Bool := xdec (v.t3_ < (↑qA.length : Int))
let y1 : Ty .op := qA.getD v.t3_.toNat (dflt .op)
let y2 := y1.v
let y3 := y2.kind
let y4 := y2.n
let y5 := y2.s
let y6 := y1.code
let y7 := y1.arg
let y8 : Bool := xnot (S.zfbt_o y3 y4 y5).x0
let y9 : Bool := xneI y6 0
let y10 : Bool := bif xeqI y3 0 && (xeqI y4 0 && xdec (y5 = ByteArray.empty)) then false else true
let y11 : Int := xwrap .i64 (v.t3_ + 1)
(.br (y0)
(.br (xdec (0 ≤ v.t3_) && y0)
(.br (S.zfbt_is y3 y4 y5)
(.br (xdec (y6 < 0))
(.leaf (some 0, v))
(.br (xdec (y6 ≥ 10))
(.leaf (some 0, v))
(.br (xdec (y7 < 0))
(.leaf (some 0, v))
(.br (xdec (y7 ≥ 6))
(.leaf (some 0, v))
(.br (xneI y6 1)
(.br (xneI y7 0)
(.leaf (some 0, v))
(.br (y8)
(.leaf (some 0, v))
(.br (y9)
(.br (y10)
(.leaf (some 0, v))
(.leaf (none, ⟨y11⟩)))
(.leaf (none, ⟨y11⟩)))))
(.br (y8)
(.leaf (some 0, v))
(.br (y9)
(.br (y10)
(.leaf (some 0, v))
(.leaf (none, ⟨y11⟩)))
(.leaf (none, ⟨y11⟩)))))))))
.fail)
.fail)
(.leaf (some 1, v)))
def S.zcnl_2_r (qA : Lo) (v : S.zcnl_2_V) : Option (Option Nat × S.zcnl_2_V) := (S.zcnl_2_R qA v).run
def S.zcnl_2_j (qA : Lo) (v : S.zcnl_2_V) (j : Nat) : Bool := Lp_j (S.zcnl_2_r qA) v j
def S.zcnl_2_v (qA : Lo) (v : S.zcnl_2_V) : S.zcnl_2_V := Lp_v (S.zcnl_2_r qA) v
def mk_zcnl_2 (qB : OBz) (qC : Bool) (qA : Lo) (v : S.zcnl_2_V) : St := ⟨(V.v false [C.d (.sl qB qC .op qA)] :: (V.any :: (V.any :: ((cV v.t3_) :: (vs 61 []))))), [none, none], 0⟩
def ex_zcnl_2 (qB : OBz) (qC : Bool) (qA : Lo) (j : Nat) (v : S.zcnl_2_V) : Ex × St := match j with
 | 0 => (Ex.ret, ⟨(V.v false [C.d (.sl qB qC .op qA)] :: (V.any :: (V.v false [cB false] :: (vs 62 [])))), (ns 10 (some
  (Blk.box 95
   [(cI (qA.getD v.t3_.toNat (dflt .op)).code), (cI (qA.getD v.t3_.toNat (dflt .op)).arg),
    (cI (qA.getD v.t3_.toNat (dflt .op)).v.kind), (cI (qA.getD v.t3_.toNat (dflt .op)).v.n),
    C.d (.sc (.str (qA.getD v.t3_.toNat (dflt .op)).v.s))]) :: (ns 49 []))), 0⟩)
 | 1 => (Ex.exit 0, ⟨(V.v false [C.d (.sl qB qC .op qA)] :: (vs 64 [])), (ns 6 []), 0⟩)
 | _ => (.ret, ⟨[], [], 0⟩)
def T1_zcnl_2 : V → V → Tree
 | V.v false [C.d (.sl qB qC .op qA)], V.v false [C.d (.sc (.int .i64 t3_))] => exT (fun j => ex_zcnl_2 qB qC qA j (S.zcnl_2_v qA ⟨t3_⟩)) (S.zcnl_2_j qA ⟨t3_⟩) [0, 1]
 | _, _ => .bad
def T_zcnl_2 (st : St) : Tree := bif okSt 65 2 0 [] st then T1_zcnl_2 (st.env.getD 0 .any) (st.env.getD 3 .any) else .bad
def b_zcnl_2 : Code := loopBy Tryz.f37 2
theorem rnd_zcnl_2 (qB : OBz) (qC : Bool) (qA : Lo) (v : S.zcnl_2_V) : round2 cx_zcnl (hdI cx_zcnl (find []) [] none 0) 37 b_zcnl_2 [] 2 [0, 2] (mk_zcnl_2 qB qC qA v) = (S.zcnl_2_R qA v).go (roundOut (mk_zcnl_2 qB qC qA) (ex_zcnl_2 qB qC qA)) := by kernel_rfl
theorem bs_zcnl_2 : loopsOf b_zcnl_2 ++ loopsInl [] = [] := by kernel_rfl
theorem ci_zcnl_2 (qB : OBz) (qC : Bool) (qA : Lo) : ∀ v j v2, Lp (S.zcnl_2_r qA) v = some (j, v2) → Circles Tryz.prog cx_zcnl b_zcnl_2 (mk_zcnl_2 qB qC qA v) (ex_zcnl_2 qB qC qA j v2).1 (ex_zcnl_2 qB qC qA j v2).2 :=
 loop_ok2 (L := find []) (n := 0) (hints := [(37, 2, { keep := [0, 3], acc := [] })]) (cx_ok rfl) rdy_zcnl bs_zcnl_2 nilB (fun v => (rnd_zcnl_2 qB qC qA v).trans (DT.go_run _ _)) (by intro j v; unfold ex_zcnl_2; split <;> rfl)
theorem mke_zcnl_2 (qB : OBz) (qC : Bool) (qA : Lo) (v : S.zcnl_2_V) : mk_zcnl_2 qB qC qA v = ⟨envOf 65 [(0, V.v false [C.d (.sl qB qC .op qA)]), (3, (cV v.t3_))], heapOf 2 [], 0⟩ := by kernel_rfl
theorem lo1_zcnl_2 (e0 e3 : V)  e st2 (h : (T1_zcnl_2 e0 e3).eval = some (e, st2)) : Circles Tryz.prog cx_zcnl b_zcnl_2 ⟨envOf 65 [(0, e0), (3, e3)], heapOf 2 [], 0⟩ e st2 := by
 unfold T1_zcnl_2 at h
 split at h
 ·have := loop_tree (mk := mk_zcnl_2 _ _ _) (ci_zcnl_2 _ _ _) _ _ e st2 h
  rw [mke_zcnl_2] at this
  exact this
 ·cases h
theorem lok_zcnl_2 : LoopOk Tryz.prog cx_zcnl b_zcnl_2 T_zcnl_2 := by
 intro st e st2 h
 unfold T_zcnl_2 at h
 cases hk : okSt 65 2 0 [] st with
 | false => rw [hk] at h; cases h
 | true =>
  rw [hk] at h
  exact circles_keep (ks := [0, 3]) hk (lo1_zcnl_2 _ _ e st2 h)
structure S.zcnl_T where
 x0 : Bool
 deriving Inhabited
def S.zcnl_R (a0 : Lo) : DT S.zcnl_T :=
let y0 : S.zcnl_2_V := { t3_ := 0 : S.zcnl_2_V }
(.br (S.zcnl_2_j a0 y0 0)
(.leaf ⟨false⟩)
(.br (S.zcnl_2_j a0 y0 1)
(.leaf ⟨xdec ((↑a0.length : Int) ≤ 12)⟩)
.fail))
def S.zcnl (a0 : Lo) : Option S.zcnl_T := (S.zcnl_R a0).run
def S.zcnl_is (a0 : Lo) : Bool := (S.zcnl a0).isSome
def S.zcnl_o (a0 : Lo) : S.zcnl_T := (S.zcnl a0).getD default
def ret_zcnl (b : Bool) (r : S.zcnl_T) : Ret := ⟨b, none, [(false, [cB r.x0])]⟩
def g_zcnl : Con
 | [(false, [.sl a0n a0f .op a0])] => some (ret_zcnl (S.zcnl_is a0) (S.zcnl_o a0))
 | _ => none
theorem raw_zcnl (a0n : OBz) (a0f : Bool) (a0 : Lo) : evR2 cx_zcnl (hdI cx_zcnl (find [(2, T_zcnl_2)]) [] none 0) none Tryz.f37 37 none [(false, [.sl a0n a0f .op a0])] some = (S.zcnl_R a0).go (ret_zcnl true) := by kernel_rfl
theorem bs_zcnl : loopsIn Tryz.f37 [] = [b_zcnl_2] := by kernel_rfl
theorem zcnl_ok : Stands Tryz.prog tyTab 37 g_zcnl := by
 refine stands3 (L := find [(2, T_zcnl_2)]) (n := 0) (hints := [(37, 2, { keep := [0, 3], acc := [] })]) (cx_ok rfl) rdy_zcnl ⟨by kernel_rfl, by kernel_rfl, by kernel_rfl⟩ bs_zcnl (consB (fun T h => by have e : T_zcnl_2 = T := Option.some.inj (show some T_zcnl_2 = some T from h); exact e ▸ lok_zcnl_2) nilB) (fun das r hG hr => ?_)
 unfold g_zcnl at hG
 split at hG
 ·rename_i a0n a0f a0
  injection hG with hG; subst hG
  exact ⟨none, true, win default ((raw_zcnl a0n a0f a0).trans (DT.go_run _ _)) hr⟩
 ·cases hG
abbrev cx_zasc : Cx := mkCx2 tyTab [(36, g_ztra), (37, g_zcnl)] [] [] []
theorem rdy_zasc : Ready Tryz.prog tyTab [(36, g_ztra), (37, g_zcnl)] [] [] := ⟨consG2 ztra_ok (consG2 zcnl_ok (noneG2)), noneI2, noneF2⟩
structure S.zasc_T where
 x0 : Bool
 deriving Inhabited
def S.zasc_R (a0_0 : ByteArray) (a0_1 : Lo) (a0_2 a0_3 : Int) (a0_4 : Bool) (a0_5 : ByteArray) (a0_6 : Lo) (a1 a2 : Bool) : DT S.zasc_T :=
let y0 : Bool := xdec (a0_5 = { data := { toList := [] : Array UInt8 } : ByteArray })
let y1 : Bool := xeqI (↑a0_6.length : Int) 0
(.br (S.ztra_is a0_0)
(.br (S.zcnl_is a0_1)
(.br (xnot (S.ztra_o a0_0).x0)
(.leaf ⟨false⟩)
(.br (xnot (S.zcnl_o a0_1).x0)
(.leaf ⟨false⟩)
(.br (xdec (a0_2 < 1))
(.leaf ⟨false⟩)
(.br (xdec (a0_3 < a0_2))
(.leaf ⟨false⟩)
(.br (xdec (a0_3 > 4))
(.leaf ⟨false⟩)
(.br (a2)
(.br (xneI a0_2 a0_3)
(.leaf ⟨false⟩)
(.br (xnot a0_4)
(.br (y0)
(.leaf ⟨y1⟩)
(.leaf ⟨false⟩))
(.br (S.ztra_is a0_5)
(.br (S.zcnl_is a0_6)
(.br (xnot a1)
(.br ((S.ztra_o a0_5).x0)
(.leaf ⟨(S.zcnl_o a0_6).x0⟩)
(.leaf ⟨false⟩))
(.leaf ⟨false⟩))
.fail)
.fail)))
(.br (xnot a0_4)
(.br (y0)
(.leaf ⟨y1⟩)
(.leaf ⟨false⟩))
(.br (S.ztra_is a0_5)
(.br (S.zcnl_is a0_6)
(.br (xnot a1)
(.br ((S.ztra_o a0_5).x0)
(.leaf ⟨(S.zcnl_o a0_6).x0⟩)
(.leaf ⟨false⟩))
(.leaf ⟨false⟩))
.fail)
.fail))))))))
.fail)
.fail)
def S.zasc (a0_0 : ByteArray) (a0_1 : Lo) (a0_2 a0_3 : Int) (a0_4 : Bool) (a0_5 : ByteArray) (a0_6 : Lo) (a1 a2 : Bool) : Option S.zasc_T := (S.zasc_R a0_0 a0_1 a0_2 a0_3 a0_4 a0_5 a0_6 a1 a2).run
def S.zasc_is (a0_0 : ByteArray) (a0_1 : Lo) (a0_2 a0_3 : Int) (a0_4 : Bool) (a0_5 : ByteArray) (a0_6 : Lo) (a1 a2 : Bool) : Bool := (S.zasc a0_0 a0_1 a0_2 a0_3 a0_4 a0_5 a0_6 a1 a2).isSome
def S.zasc_o (a0_0 : ByteArray) (a0_1 : Lo) (a0_2 a0_3 : Int) (a0_4 : Bool) (a0_5 : ByteArray) (a0_6 : Lo) (a1 a2 : Bool) : S.zasc_T := (S.zasc a0_0 a0_1 a0_2 a0_3 a0_4 a0_5 a0_6 a1 a2).getD default
def ret_zasc (b : Bool) (r : S.zasc_T) : Ret := ⟨b, none, [(false, [cB r.x0])]⟩
def g_zasc : Con
 | [(true, [.sc (.str a0_0), .sl a0_1n a0_1f .op a0_1, .sc (.int .i64 a0_2), .sc (.int .i64 a0_3), .sc (.bool a0_4), .sc (.str a0_5), .sl a0_6n a0_6f .op a0_6]), (false, [.sc (.bool a1)]), (false, [.sc (.bool a2)])] => some (ret_zasc (S.zasc_is a0_0 a0_1 a0_2 a0_3 a0_4 a0_5 a0_6 a1 a2) (S.zasc_o a0_0 a0_1 a0_2 a0_3 a0_4 a0_5 a0_6 a1 a2))
 | _ => none
theorem raw_zasc (a0_0 : ByteArray) (a0_1n : OBz) (a0_1f : Bool) (a0_1 : Lo) (a0_2 a0_3 : Int) (a0_4 : Bool) (a0_5 : ByteArray) (a0_6n : OBz) (a0_6f : Bool) (a0_6 : Lo) (a1 a2 : Bool) : evR2 cx_zasc (hdI cx_zasc (find []) [] none 0) none Tryz.f19 19 none [(true, [.sc (.str a0_0), .sl a0_1n a0_1f .op a0_1, dI a0_2, dI a0_3, .sc (.bool a0_4), .sc (.str a0_5), .sl a0_6n a0_6f .op a0_6]), (false, [.sc (.bool a1)]), (false, [.sc (.bool a2)])] some = (S.zasc_R a0_0 a0_1 a0_2 a0_3 a0_4 a0_5 a0_6 a1 a2).go (ret_zasc true) := by kernel_rfl
theorem bs_zasc : loopsIn Tryz.f19 [] = [] := by kernel_rfl
theorem zasc_ok : Stands Tryz.prog tyTab 19 g_zasc := by
 refine stands3 (L := find []) (n := 0) (hints := []) (cx_ok rfl) rdy_zasc ⟨by kernel_rfl, by kernel_rfl, by kernel_rfl⟩ bs_zasc nilB (fun das r hG hr => ?_)
 unfold g_zasc at hG
 split at hG
 ·rename_i a0_0 a0_1n a0_1f a0_1 a0_2 a0_3 a0_4 a0_5 a0_6n a0_6f a0_6 a1 a2
  injection hG with hG; subst hG
  exact ⟨none, true, win default ((raw_zasc a0_0 a0_1n a0_1f a0_1 a0_2 a0_3 a0_4 a0_5 a0_6n a0_6f a0_6 a1 a2).trans (DT.go_run _ _)) hr⟩
 ·cases hG
abbrev cx_zjar : Cx := mkCx2 tyTab [(19, g_zasc)] [] [(7, 5, { keep := [1, 3, 4], acc := [] })] []
theorem rdy_zjar : Ready Tryz.prog tyTab [(19, g_zasc)] [] [] := ⟨consG2 zasc_ok (noneG2), noneI2, noneF2⟩
structure S.zjar_5_V where
 t4_ : Int
def S.zjar_5_R (t3_ : Int) (qD : Ls) (v : S.zjar_5_V) : DT (Option Nat × S.zjar_5_V) :=
let y0 : Ty .step := qD.getD v.t4_.toNat (dflt .step)
let y1 := y0.name
let y2 := y0.ifs
let y3 := y0.min
let y4 := y0.max
let y5 := y0.guard
let y6 := y0.notName
let y7 := y0.notIf
let y8 : Bool := xeqI v.t4_ 0
let y9 : Bool := xeqI v.t4_ (xwrap .i64 (t3_ - 1))
(.br (xdec (v.t4_ < t3_))
(.br (xdec (0 ≤ v.t4_) && xdec (v.t4_ < (↑qD.length : Int)))
(.br (S.zasc_is y1 y2 y3 y4 y5 y6 y7 y8 y9)
(.br (xnot (S.zasc_o y1 y2 y3 y4 y5 y6 y7 y8 y9).x0)
(.leaf (some 0, v))
(.leaf (none, ⟨xwrap .i64 (v.t4_ + 1)⟩)))
.fail)
.fail)
(.leaf (some 1, v)))
def S.zjar_5_r (t3_ : Int) (qD : Ls) (v : S.zjar_5_V) : Option (Option Nat × S.zjar_5_V) := (S.zjar_5_R t3_ qD v).run
def S.zjar_5_j (t3_ : Int) (qD : Ls) (v : S.zjar_5_V) (j : Nat) : Bool := Lp_j (S.zjar_5_r t3_ qD) v j
def S.zjar_5_v (t3_ : Int) (qD : Ls) (v : S.zjar_5_V) : S.zjar_5_V := Lp_v (S.zjar_5_r t3_ qD) v
def mk_zjar_5 (t3_ : Int) (qE : OBz) (qF : Bool) (qD : Ls) (qG qH qI qJ : Int) (v : S.zjar_5_V) : St := ⟨(V.any :: (V.v false [C.ptr 0 0] :: (V.any :: ((cV t3_) :: ((cV v.t4_) :: (vs 80 [])))))), (some (Blk.box 24 [C.d (.sl qE qF .step qD), (cI qG), (cI qH), (cI qI), (cI qJ)]) :: (ns 63 [])), 0⟩
def ex_zjar_5 (t3_ : Int) (qE : OBz) (qF : Bool) (qD : Ls) (qG qH qI qJ : Int) (j : Nat) (v : S.zjar_5_V) : Ex × St := match j with
 | 0 => (Ex.ret, ⟨(V.any :: (V.any :: (V.v false [cB false] :: (vs 82 [])))), (some
  (Blk.box 24
   [C.d (.sl qE qF .step qD), (cI qG), (cI qH), (cI qI),
    (cI qJ)]) :: (ns 82 [])), 0⟩)
 | 1 => (Ex.exit 0, ⟨(vs 85 []), (some
  (Blk.box 24
   [C.d (.sl qE qF .step qD), (cI qG), (cI qH), (cI qI),
    (cI qJ)]) :: (ns 66 [])), 0⟩)
 | _ => (.ret, ⟨[], [], 0⟩)
def T1_zjar_5 : V → V → V → Option Blk → Tree
 | V.v false [C.ptr 0 0], V.v false [C.d (.sc (.int .i64 t3_))], V.v false [C.d (.sc (.int .i64 t4_))], some (Blk.box 24 [C.d (.sl qE qF .step qD), C.d (.sc (.int .i64 qG)), C.d (.sc (.int .i64 qH)), C.d (.sc (.int .i64 qI)), C.d (.sc (.int .i64 qJ))]) => exT (fun j => ex_zjar_5 t3_ qE qF qD qG qH qI qJ j (S.zjar_5_v t3_ qD ⟨t4_⟩)) (S.zjar_5_j t3_ qD ⟨t4_⟩) [0, 1]
 | _, _, _, _ => .bad
def T_zjar_5 (st : St) : Tree := bif okSt 85 64 0 [0] st then T1_zjar_5 (st.env.getD 1 .any) (st.env.getD 3 .any) (st.env.getD 4 .any) (lk st.heap 0) else .bad
def b_zjar_5 : Code := loopBy Tryz.f7 5
theorem rnd_zjar_5 (t3_ : Int) (qE : OBz) (qF : Bool) (qD : Ls) (qG qH qI qJ : Int) (v : S.zjar_5_V) : round2 cx_zjar (hdI cx_zjar (find []) [] none 0) 7 b_zjar_5 [] 64 [2] (mk_zjar_5 t3_ qE qF qD qG qH qI qJ v) = (S.zjar_5_R t3_ qD v).go (roundOut (mk_zjar_5 t3_ qE qF qD qG qH qI qJ) (ex_zjar_5 t3_ qE qF qD qG qH qI qJ)) := by kernel_rfl
theorem bs_zjar_5 : loopsOf b_zjar_5 ++ loopsInl [] = [] := by kernel_rfl
theorem ci_zjar_5 (t3_ : Int) (qE : OBz) (qF : Bool) (qD : Ls) (qG qH qI qJ : Int) : ∀ v j v2, Lp (S.zjar_5_r t3_ qD) v = some (j, v2) → Circles Tryz.prog cx_zjar b_zjar_5 (mk_zjar_5 t3_ qE qF qD qG qH qI qJ v) (ex_zjar_5 t3_ qE qF qD qG qH qI qJ j v2).1 (ex_zjar_5 t3_ qE qF qD qG qH qI qJ j v2).2 :=
 loop_ok2 (L := find []) (n := 0) (hints := [(7, 5, { keep := [1, 3, 4], acc := [] })]) (cx_ok rfl) rdy_zjar bs_zjar_5 nilB (fun v => (rnd_zjar_5 t3_ qE qF qD qG qH qI qJ v).trans (DT.go_run _ _)) (by intro j v; unfold ex_zjar_5; split <;> rfl)
theorem mke_zjar_5 (t3_ : Int) (qE : OBz) (qF : Bool) (qD : Ls) (qG qH qI qJ : Int) (v : S.zjar_5_V) : mk_zjar_5 t3_ qE qF qD qG qH qI qJ v = ⟨envOf 85 [(1, V.v false [C.ptr 0 0]), (3, (cV t3_)), (4, (cV v.t4_))], heapOf 64 [(0, some
 (Blk.box 24
  [C.d (.sl qE qF .step qD), (cI qG), (cI qH), (cI qI),
   (cI qJ)]))], 0⟩ := by kernel_rfl
theorem lo1_zjar_5 (e1 e3 e4 : V) (h0 : Option Blk) e st2 (h : (T1_zjar_5 e1 e3 e4 h0).eval = some (e, st2)) : Circles Tryz.prog cx_zjar b_zjar_5 ⟨envOf 85 [(1, e1), (3, e3), (4, e4)], heapOf 64 [(0, h0)], 0⟩ e st2 := by
 unfold T1_zjar_5 at h
 split at h
 ·have := loop_tree (mk := mk_zjar_5 _ _ _ _ _ _ _ _) (ci_zjar_5 _ _ _ _ _ _ _ _) _ _ e st2 h
  rw [mke_zjar_5] at this
  exact this
 ·cases h
theorem lok_zjar_5 : LoopOk Tryz.prog cx_zjar b_zjar_5 T_zjar_5 := by
 intro st e st2 h
 unfold T_zjar_5 at h
 cases hk : okSt 85 64 0 [0] st with
 | false => rw [hk] at h; cases h
 | true =>
  rw [hk] at h
  exact circles_keep (ks := [1, 3, 4]) hk (lo1_zjar_5 _ _ _ _ e st2 h)
structure S.zjar_T where
 x0 : Bool
 deriving Inhabited
def S.zjar_R (a0_0 : Ls) (a0_1 a0_2 a0_3 a0_4 : Int) : DT S.zjar_T :=
let y0 : Int := (↑a0_0.length : Int)
let y1 : S.zjar_5_V := { t4_ := 0 : S.zjar_5_V }
let y2 := S.zjar_5_j y0 a0_0 y1 0
let y3 := S.zjar_5_j y0 a0_0 y1 1
(.br (xdec (y0 < 1))
(.leaf ⟨false⟩)
(.br (xdec (y0 > 4))
(.leaf ⟨false⟩)
(.br (xdec (a0_1 < 0))
(.leaf ⟨false⟩)
(.br (xdec (a0_1 > 1125899906842624))
(.leaf ⟨false⟩)
(.br (xdec (a0_2 < 0))
(.leaf ⟨false⟩)
(.br (xdec (a0_2 ≥ 4))
(.leaf ⟨false⟩)
(.br (xdec (a0_3 < 0))
(.leaf ⟨false⟩)
(.br (xdec (a0_3 ≥ y0))
(.leaf ⟨false⟩)
(.br (xdec (a0_4 < 0))
(.leaf ⟨false⟩)
(.br (xdec (a0_4 ≥ 6))
(.leaf ⟨false⟩)
(.br (xeqI a0_2 0)
(.br (xneI a0_4 0)
(.leaf ⟨false⟩)
(.br (y2)
(.leaf ⟨false⟩)
(.br (y3)
(.leaf ⟨true⟩)
.fail)))
(.br (y2)
(.leaf ⟨false⟩)
(.br (y3)
(.leaf ⟨true⟩)
.fail)))))))))))))
def S.zjar (a0_0 : Ls) (a0_1 a0_2 a0_3 a0_4 : Int) : Option S.zjar_T := (S.zjar_R a0_0 a0_1 a0_2 a0_3 a0_4).run
def S.zjar_is (a0_0 : Ls) (a0_1 a0_2 a0_3 a0_4 : Int) : Bool := (S.zjar a0_0 a0_1 a0_2 a0_3 a0_4).isSome
def S.zjar_o (a0_0 : Ls) (a0_1 a0_2 a0_3 a0_4 : Int) : S.zjar_T := (S.zjar a0_0 a0_1 a0_2 a0_3 a0_4).getD default
def ret_zjar (b : Bool) (r : S.zjar_T) : Ret := ⟨b, none, [(false, [cB r.x0])]⟩
def g_zjar : Con
 | [(true, [.sl a0_0n a0_0f .step a0_0, .sc (.int .i64 a0_1), .sc (.int .i64 a0_2), .sc (.int .i64 a0_3), .sc (.int .i64 a0_4)])] => some (ret_zjar (S.zjar_is a0_0 a0_1 a0_2 a0_3 a0_4) (S.zjar_o a0_0 a0_1 a0_2 a0_3 a0_4))
 | _ => none
theorem raw_zjar (a0_0n : OBz) (a0_0f : Bool) (a0_0 : Ls) (a0_1 a0_2 a0_3 a0_4 : Int) : evR2 cx_zjar (hdI cx_zjar (find [(5, T_zjar_5)]) [] none 0) none Tryz.f7 7 none [(true, [.sl a0_0n a0_0f .step a0_0, dI a0_1, dI a0_2, dI a0_3, dI a0_4])] some = (S.zjar_R a0_0 a0_1 a0_2 a0_3 a0_4).go (ret_zjar true) := by kernel_rfl
theorem bs_zjar : loopsIn Tryz.f7 [] = [b_zjar_5] := by kernel_rfl
theorem zjar_ok : Stands Tryz.prog tyTab 7 g_zjar := by
 refine stands3 (L := find [(5, T_zjar_5)]) (n := 0) (hints := [(7, 5, { keep := [1, 3, 4], acc := [] })]) (cx_ok rfl) rdy_zjar ⟨by kernel_rfl, by kernel_rfl, by kernel_rfl⟩ bs_zjar (consB (fun T h => by have e : T_zjar_5 = T := Option.some.inj (show some T_zjar_5 = some T from h); exact e ▸ lok_zjar_5) nilB) (fun das r hG hr => ?_)
 unfold g_zjar at hG
 split at hG
 ·rename_i a0_0n a0_0f a0_0 a0_1 a0_2 a0_3 a0_4
  injection hG with hG; subst hG
  exact ⟨none, true, win default ((raw_zjar a0_0n a0_0f a0_0 a0_1 a0_2 a0_3 a0_4).trans (DT.go_run _ _)) hr⟩
 ·cases hG
end
end Go.Eng
