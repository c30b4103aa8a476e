/- Contracts, laid by program. -/
import Derived.Test.YtoohnjneocohnaaGreatZE3
import Derived.Test.YtoohnjneocohnaaGreatZTab
set_option linter.unusedVariables false
namespace Go.Eng
noncomputable section
open Go Go.Eng Go.Proofs Go.Eng.Tab
abbrev cx_zb3l : Cx := mkCx2 tyTab [] [] [] []
theorem rdy_zb3l : Ready Tryz.prog tyTab [] [] [] := ⟨noneG2, noneI2, noneF2⟩
structure S.zb3l_T where
 x0 : Int
 deriving Inhabited
def S.zb3l_R (a0_0 : Int) (a0_2 : Lm) : DT S.zb3l_T :=
(.leaf ⟨xwrap .i64 (a0_0 + (↑a0_2.length : Int))⟩)
def S.zb3l (a0_0 : Int) (a0_2 : Lm) : Option S.zb3l_T := (S.zb3l_R a0_0 a0_2).run
def S.zb3l_is (a0_0 : Int) (a0_2 : Lm) : Bool := (S.zb3l a0_0 a0_2).isSome
def S.zb3l_o (a0_0 : Int) (a0_2 : Lm) : S.zb3l_T := (S.zb3l a0_0 a0_2).getD default
def ret_zb3l (b : Bool) (r : S.zb3l_T) : Ret := ⟨b, none, [(false, [(cI r.x0)])]⟩
def g_zb3l : Con
 | [(true, [.sc (.int .i64 a0_0), .sc (.int .i64 a0_1), .sl a0_2n a0_2f .mat a0_2])] => some (ret_zb3l (S.zb3l_is a0_0 a0_2) (S.zb3l_o a0_0 a0_2))
 | _ => none
theorem raw_zb3l (a0_0 a0_1 : Int) (a0_2n : OBz) (a0_2f : Bool) (a0_2 : Lm) : evR2 cx_zb3l (hdI cx_zb3l (find []) [] none 0) none Tryz.f49 49 none [(true, [dI a0_0, dI a0_1, .sl a0_2n a0_2f .mat a0_2])] some = (S.zb3l_R a0_0 a0_2).go (ret_zb3l true) := by kernel_rfl
theorem bs_zb3l : loopsIn Tryz.f49 [] = [] := by kernel_rfl
theorem zb3l_ok : Stands Tryz.prog tyTab 49 g_zb3l := by
 refine stands3 (L := find []) (n := 0) (hints := []) (cx_ok rfl) rdy_zb3l ⟨by kernel_rfl, by kernel_rfl, by kernel_rfl⟩ bs_zb3l nilB (fun das r hG hr => ?_)
 unfold g_zb3l at hG
 split at hG
 ·rename_i a0_0 a0_1 a0_2n a0_2f a0_2
  injection hG with hG; subst hG
  exact ⟨none, true, win default ((raw_zb3l a0_0 a0_1 a0_2n a0_2f a0_2).trans (DT.go_run _ _)) hr⟩
 ·cases hG
abbrev cx_znj4 : Cx := mkCx2 tyTab [(49, g_zb3l)] [] [] []
theorem rdy_znj4 : Ready Tryz.prog tyTab [(49, g_zb3l)] [] [] := ⟨consG2 zb3l_ok (noneG2), noneI2, noneF2⟩
structure S.znj4_T where
 x0 : Bool
 deriving Inhabited
def S.znj4_R (a0_0 a0_1 : Int) (a0_2 : Lm) : DT S.znj4_T :=
let y0 : Int := (S.zb3l_o a0_0 a0_2).x0
(.br (xdec (a0_0 ≥ 0))
(.br (xdec (a0_0 ≤ 1099511627776))
(.br (xdec ((↑a0_2.length : Int) ≤ 6))
(.br (xdec (y0 ≤ 1099511627776))
(.br (xdec (a0_1 ≥ a0_0))
(.leaf ⟨xdec (a0_1 ≤ y0)⟩)
(.leaf ⟨false⟩))
(.leaf ⟨false⟩))
(.leaf ⟨false⟩))
(.leaf ⟨false⟩))
(.leaf ⟨false⟩))
def S.znj4 (a0_0 a0_1 : Int) (a0_2 : Lm) : Option S.znj4_T := (S.znj4_R a0_0 a0_1 a0_2).run
def S.znj4_is (a0_0 a0_1 : Int) (a0_2 : Lm) : Bool := (S.znj4 a0_0 a0_1 a0_2).isSome
def S.znj4_o (a0_0 a0_1 : Int) (a0_2 : Lm) : S.znj4_T := (S.znj4 a0_0 a0_1 a0_2).getD default
def ret_znj4 (b : Bool) (r : S.znj4_T) : Ret := ⟨b, none, [(false, [cB r.x0])]⟩
def g_znj4 : Con
 | [(true, [.sc (.int .i64 a0_0), .sc (.int .i64 a0_1), .sl a0_2n a0_2f .mat a0_2])] => some (ret_znj4 (S.znj4_is a0_0 a0_1 a0_2) (S.znj4_o a0_0 a0_1 a0_2))
 | _ => none
theorem raw_znj4 (a0_0 a0_1 : Int) (a0_2n : OBz) (a0_2f : Bool) (a0_2 : Lm) : evR2 cx_znj4 (hdI cx_znj4 (find []) [] none 0) none Tryz.f33 33 none [(true, [dI a0_0, dI a0_1, .sl a0_2n a0_2f .mat a0_2])] some = (S.znj4_R a0_0 a0_1 a0_2).go (ret_znj4 true) := by kernel_rfl
theorem bs_znj4 : loopsIn Tryz.f33 [] = [] := by kernel_rfl
theorem znj4_ok : Stands Tryz.prog tyTab 33 g_znj4 := by
 refine stands3 (L := find []) (n := 0) (hints := []) (cx_ok rfl) rdy_znj4 ⟨by kernel_rfl, by kernel_rfl, by kernel_rfl⟩ bs_znj4 nilB (fun das r hG hr => ?_)
 unfold g_znj4 at hG
 split at hG
 ·rename_i a0_0 a0_1 a0_2n a0_2f a0_2
  injection hG with hG; subst hG
  exact ⟨none, true, win default ((raw_znj4 a0_0 a0_1 a0_2n a0_2f a0_2).trans (DT.go_run _ _)) hr⟩
 ·cases hG
abbrev cx_zwrc : Cx := mkCx2 tyTab [(33, g_znj4)] [] [] []
theorem rdy_zwrc : Ready Tryz.prog tyTab [(33, g_znj4)] [] [] := ⟨consG2 znj4_ok (noneG2), noneI2, noneF2⟩
structure S.zwrc_T where
 x0 : Int
 deriving Inhabited
def S.zwrc_R (a0_0 a0_1 : Int) (a0_2 : Lm) (a1 : Int) : DT S.zwrc_T :=
let y0 : Bool := xdec (a1 < a0_0)
(.br (S.znj4_is a0_0 a0_1 a0_2)
(.br (xnot (S.znj4_o a0_0 a0_1 a0_2).x0)
(.leaf ⟨1⟩)
(.br (y0)
(.br (y0)
(.leaf ⟨9⟩)
(.leaf ⟨0⟩))
(.br (xdec (a1 > a0_1))
(.leaf ⟨9⟩)
(.leaf ⟨0⟩))))
.fail)
def S.zwrc (a0_0 a0_1 : Int) (a0_2 : Lm) (a1 : Int) : Option S.zwrc_T := (S.zwrc_R a0_0 a0_1 a0_2 a1).run
def S.zwrc_is (a0_0 a0_1 : Int) (a0_2 : Lm) (a1 : Int) : Bool := (S.zwrc a0_0 a0_1 a0_2 a1).isSome
def S.zwrc_o (a0_0 a0_1 : Int) (a0_2 : Lm) (a1 : Int) : S.zwrc_T := (S.zwrc a0_0 a0_1 a0_2 a1).getD default
def ret_zwrc (b : Bool) (r : S.zwrc_T) : Ret := ⟨b, none, [(false, [(cI r.x0)])]⟩
def g_zwrc : Con
 | [(true, [.sc (.int .i64 a0_0), .sc (.int .i64 a0_1), .sl a0_2n a0_2f .mat a0_2]), (false, [.sc (.int .i64 a1)])] => some (ret_zwrc (S.zwrc_is a0_0 a0_1 a0_2 a1) (S.zwrc_o a0_0 a0_1 a0_2 a1))
 | _ => none
theorem raw_zwrc (a0_0 a0_1 : Int) (a0_2n : OBz) (a0_2f : Bool) (a0_2 : Lm) (a1 : Int) : evR2 cx_zwrc (hdI cx_zwrc (find []) [] none 0) none Tryz.f50 50 none [(true, [dI a0_0, dI a0_1, .sl a0_2n a0_2f .mat a0_2]), (false, [dI a1])] some = (S.zwrc_R a0_0 a0_1 a0_2 a1).go (ret_zwrc true) := by kernel_rfl
theorem bs_zwrc : loopsIn Tryz.f50 [] = [] := by kernel_rfl
theorem zwrc_ok : Stands Tryz.prog tyTab 50 g_zwrc := by
 refine stands3 (L := find []) (n := 0) (hints := []) (cx_ok rfl) rdy_zwrc ⟨by kernel_rfl, by kernel_rfl, by kernel_rfl⟩ bs_zwrc nilB (fun das r hG hr => ?_)
 unfold g_zwrc at hG
 split at hG
 ·rename_i a0_0 a0_1 a0_2n a0_2f a0_2 a1
  injection hG with hG; subst hG
  exact ⟨none, true, win default ((raw_zwrc a0_0 a0_1 a0_2n a0_2f a0_2 a1).trans (DT.go_run _ _)) hr⟩
 ·cases hG
abbrev cx_zqly : Cx := mkCx2 tyTab [] [] [] []
theorem rdy_zqly : Ready Tryz.prog tyTab [] [] [] := ⟨noneG2, noneI2, noneF2⟩
structure S.zqly_T where
 x0 : Lm
 x1 : Int
 x2 : Int
 x3 : Nat
 deriving Inhabited
def S.zqly_R (a0_0 a0_1 : Int) (a0_2 : Lm) (a1 : Int) : DT S.zqly_T :=
let y0 : Nat := a0_2.length
let y1 : Int := Int.ofNat y0
let y2 : Int := (↑y0 : Int)
let y3 : Bool := xdec (0 ≤ y2)
let y4 : Lm := sub a0_2 a1.toNat y1.toNat
let y5 := y4.length
let y6 : Int := (↑y5 : Int)
let y7 := y6.toNat
let y8 : Lm := List.replicate y7 (dflt .mat)
(.br (xdec (0 ≤ a1) && xdec (a1 ≤ y1) && (y3 && xdec (y2 ≤ y1)) && (y3 && xdec (y2 ≤ y2) && true))
(.br (xdec (0 ≤ y6) && xdec (y6 ≤ 1048576) && xeqI y6 y6)
(.br (xdec (0 + y7 ≤ y8.length))
(.leaf ⟨List.take 0 y8 ++ List.take y7 y4 ++ List.drop (0 + min y5 y7) y8, a0_0, a0_1, y7⟩)
.fail)
.fail)
.fail)
def S.zqly (a0_0 a0_1 : Int) (a0_2 : Lm) (a1 : Int) : Option S.zqly_T := (S.zqly_R a0_0 a0_1 a0_2 a1).run
def S.zqly_is (a0_0 a0_1 : Int) (a0_2 : Lm) (a1 : Int) : Bool := (S.zqly a0_0 a0_1 a0_2 a1).isSome
def S.zqly_o (a0_0 a0_1 : Int) (a0_2 : Lm) (a1 : Int) : S.zqly_T := (S.zqly a0_0 a0_1 a0_2 a1).getD default
def ret_zqly (b : Bool) (r : S.zqly_T) : Ret := ⟨b, some (45, (⟨.mat, r.x0⟩ : (t : ET) × List (Ty t))), [(true, [(cI r.x1), (cI r.x2), C.own 15 .mat true 0 r.x3])]⟩
def g_zqly : Con
 | [(true, [.sc (.int .i64 a0_0), .sc (.int .i64 a0_1), .sl a0_2n a0_2f .mat a0_2]), (false, [.sc (.int .i64 a1)])] => some (ret_zqly (S.zqly_is a0_0 a0_1 a0_2 a1) (S.zqly_o a0_0 a0_1 a0_2 a1))
 | _ => none
theorem raw_zqly (a0_0 a0_1 : Int) (a0_2n : OBz) (a0_2f : Bool) (a0_2 : Lm) (a1 : Int) : evR2 cx_zqly (hdI cx_zqly (find []) [] none 0) none Tryz.f48 48 (some 45) [(true, [dI a0_0, dI a0_1, .sl a0_2n a0_2f .mat a0_2]), (false, [dI a1])] some = (S.zqly_R a0_0 a0_1 a0_2 a1).go (ret_zqly true) := by kernel_rfl
theorem bs_zqly : loopsIn Tryz.f48 [] = [] := by kernel_rfl
theorem zqly_ok : Stands Tryz.prog tyTab 48 g_zqly := by
 refine stands3 (L := find []) (n := 0) (hints := []) (cx_ok rfl) rdy_zqly ⟨by kernel_rfl, by kernel_rfl, by kernel_rfl⟩ bs_zqly nilB (fun das r hG hr => ?_)
 unfold g_zqly at hG
 split at hG
 ·rename_i a0_0 a0_1 a0_2n a0_2f a0_2 a1
  injection hG with hG; subst hG
  exact ⟨(some 45), true, win default ((raw_zqly a0_0 a0_1 a0_2n a0_2f a0_2 a1).trans (DT.go_run _ _)) hr⟩
 ·cases hG
abbrev cx_zadk : Cx := mkCx2 tyTab [(48, g_zqly), (50, g_zwrc)] [] [] []
theorem rdy_zadk : Ready Tryz.prog tyTab [(48, g_zqly), (50, g_zwrc)] [] [] := ⟨consG2 zqly_ok (consG2 zwrc_ok (noneG2)), noneI2, noneF2⟩
structure S.zadk_T where
 x0 : Int
 x1 : Int
 x2 : Lm
 x3 : Int
 deriving Inhabited
def S.zadk_R (a0_0 a0_1 : Int) (a0_2 : Lm) (a1 : Int) : DT S.zadk_T :=
let y0 : Int := (S.zwrc_o a0_0 a0_1 a0_2 a1).x0
let y1 : Int := xwrap .i64 (a1 - a0_0)
let y2 := S.zqly_o a0_0 a0_1 a0_2 y1
let y3 : Nat := 0 + y2.x3
let y4 := y2.x0
(.br (S.zwrc_is a0_0 a0_1 a0_2 a1)
(.br (xneI y0 0)
(.leaf ⟨0, 0, [], y0⟩)
(.br (S.zqly_is a0_0 a0_1 a0_2 y1)
(.br (xdec (y3 ≤ y4.length) && true && true && true)
(.leaf ⟨a1, y2.x2, sub y4 0 y3, 0⟩)
.fail)
.fail))
.fail)
def S.zadk (a0_0 a0_1 : Int) (a0_2 : Lm) (a1 : Int) : Option S.zadk_T := (S.zadk_R a0_0 a0_1 a0_2 a1).run
def S.zadk_is (a0_0 a0_1 : Int) (a0_2 : Lm) (a1 : Int) : Bool := (S.zadk a0_0 a0_1 a0_2 a1).isSome
def S.zadk_o (a0_0 a0_1 : Int) (a0_2 : Lm) (a1 : Int) : S.zadk_T := (S.zadk a0_0 a0_1 a0_2 a1).getD default
def ret_zadk (b : Bool) (r : S.zadk_T) : Ret := ⟨b, none, [(true, [(cI r.x0), (cI r.x1), cL .mat r.x2]), (false, [(cI r.x3)])]⟩
def g_zadk : Con
 | [(true, [.sc (.int .i64 a0_0), .sc (.int .i64 a0_1), .sl a0_2n a0_2f .mat a0_2]), (false, [.sc (.int .i64 a1)])] => some (ret_zadk (S.zadk_is a0_0 a0_1 a0_2 a1) (S.zadk_o a0_0 a0_1 a0_2 a1))
 | _ => none
theorem raw_zadk (a0_0 a0_1 : Int) (a0_2n : OBz) (a0_2f : Bool) (a0_2 : Lm) (a1 : Int) : evR2 cx_zadk (hdI cx_zadk (find []) [] none 0) none Tryz.f31 31 none [(true, [dI a0_0, dI a0_1, .sl a0_2n a0_2f .mat a0_2]), (false, [dI a1])] some = (S.zadk_R a0_0 a0_1 a0_2 a1).go (ret_zadk true) := by kernel_rfl
theorem bs_zadk : loopsIn Tryz.f31 [] = [] := by kernel_rfl
theorem zadk_ok : Stands Tryz.prog tyTab 31 g_zadk := by
 refine stands3 (L := find []) (n := 0) (hints := []) (cx_ok rfl) rdy_zadk ⟨by kernel_rfl, by kernel_rfl, by kernel_rfl⟩ bs_zadk nilB (fun das r hG hr => ?_)
 unfold g_zadk at hG
 split at hG
 ·rename_i a0_0 a0_1 a0_2n a0_2f a0_2 a1
  injection hG with hG; subst hG
  exact ⟨none, true, win default ((raw_zadk a0_0 a0_1 a0_2n a0_2f a0_2 a1).trans (DT.go_run _ _)) hr⟩
 ·cases hG
abbrev cx_ztni : Cx := mkCx2 tyTab [(33, g_znj4), (48, g_zqly), (49, g_zb3l)] [] [(30, 2, { keep := [], acc := [], frz := true })] []
theorem rdy_ztni : Ready Tryz.prog tyTab [(33, g_znj4), (48, g_zqly), (49, g_zb3l)] [] [] := ⟨consG2 znj4_ok (consG2 zqly_ok (consG2 zb3l_ok (noneG2))), noneI2, noneF2⟩
structure S.ztni_T where
 x0 : Int
 x1 : Int
 x2 : Lm
 x3 : Int
 x4 : Int
 x5 : Int
 x6 : Int
 x7 : Bool
 x8 : Bool
 deriving Inhabited
def S.ztni_R (a0_0 a0_1 : Int) (a0_2 : Lm) : DT S.ztni_T :=
let y0 := S.zqly_o a0_0 a0_1 a0_2 0
let y1 : Nat := 0 + y0.x3
let y2 := y0.x0
let y3 := y2.length
let y4 : Bool := bif bif decide (y1 ≤ y3) then true else false then true else false
let y5 := y0.x1
let y6 := y0.x2
let y7 : Lm := sub y2 0 y1
let y8 : Int := xwrap .i64 (y6 + 1)
let y9 : Int := xwrap .i64 (xwrap .i64 (y8 - y5) - 1)
let y10 : Ty .mat := y7.getD y9.toNat (dflt .mat)
(.br (S.zqly_is a0_0 a0_1 a0_2 0)
(.br (bif y4 then y4 else false)
(.br (S.znj4_is y5 y6 y7)
(.br (xnot (S.znj4_o y5 y6 y7).x0)
(.leaf ⟨y5, y6, y7, 0, 0, 0, 0, false, false⟩)
(.br (xeqI y6 (S.zb3l_o y5 y7).x0)
(.leaf ⟨y5, y6, y7, 0, 0, 0, 0, false, false⟩)
(.br (xdec (0 ≤ y9) && xdec (y9 < (↑y7.length : Int)))
(.leaf ⟨y5, y8, y7, y8, y10.start, y10.fin, y10.agg, y10.bad, true⟩)
.fail)))
.fail)
.fail)
.fail)
def S.ztni (a0_0 a0_1 : Int) (a0_2 : Lm) : Option S.ztni_T := (S.ztni_R a0_0 a0_1 a0_2).run
def S.ztni_is (a0_0 a0_1 : Int) (a0_2 : Lm) : Bool := (S.ztni a0_0 a0_1 a0_2).isSome
def S.ztni_o (a0_0 a0_1 : Int) (a0_2 : Lm) : S.ztni_T := (S.ztni a0_0 a0_1 a0_2).getD default
def ret_ztni (b : Bool) (r : S.ztni_T) : Ret := ⟨b, none, [(true, [(cI r.x0), (cI r.x1), cL .mat r.x2]), (false, [(cI r.x3)]),
 (true, [(cI r.x4), (cI r.x5), (cI r.x6), cB r.x7]),
 (false, [cB r.x8])]⟩
def g_ztni : Con
 | [(true, [.sc (.int .i64 a0_0), .sc (.int .i64 a0_1), .sl a0_2n a0_2f .mat a0_2])] => some (ret_ztni (S.ztni_is a0_0 a0_1 a0_2) (S.ztni_o a0_0 a0_1 a0_2))
 | _ => none
theorem raw_ztni (a0_0 a0_1 : Int) (a0_2n : OBz) (a0_2f : Bool) (a0_2 : Lm) : evR2 cx_ztni (hdI cx_ztni (find []) [] none 0) none Tryz.f30 30 none [(true, [dI a0_0, dI a0_1, .sl a0_2n a0_2f .mat a0_2])] some = (S.ztni_R a0_0 a0_1 a0_2).go (ret_ztni true) := by kernel_rfl
theorem bs_ztni : loopsIn Tryz.f30 [] = [] := by kernel_rfl
theorem ztni_ok : Stands Tryz.prog tyTab 30 g_ztni := by
 refine stands3 (L := find []) (n := 0) (hints := [(30, 2, { keep := [], acc := [], frz := true })]) (cx_ok rfl) rdy_ztni ⟨by kernel_rfl, by kernel_rfl, by kernel_rfl⟩ bs_ztni nilB (fun das r hG hr => ?_)
 unfold g_ztni at hG
 split at hG
 ·rename_i a0_0 a0_1 a0_2n a0_2f a0_2
  injection hG with hG; subst hG
  exact ⟨none, true, win default ((raw_ztni a0_0 a0_1 a0_2n a0_2f a0_2).trans (DT.go_run _ _)) hr⟩
 ·cases hG
abbrev cx_z22l : Cx := mkCx2 tyTab [(33, g_znj4), (48, g_zqly), (49, g_zb3l)] [] [(47, 2, { keep := [], acc := [], frz := true })] []
theorem rdy_z22l : Ready Tryz.prog tyTab [(33, g_znj4), (48, g_zqly), (49, g_zb3l)] [] [] := ⟨consG2 znj4_ok (consG2 zqly_ok (consG2 zb3l_ok (noneG2))), noneI2, noneF2⟩
structure S.z22l_T where
 x0 : Int
 x1 : Int
 x2 : Lm
 x3 : Bool
 deriving Inhabited
def S.z22l_R (a0_0 a0_1 : Int) (a0_2 : Lm) (a1_0 a1_1 a1_2 : Int) (a1_3 : Bool) : DT S.z22l_T :=
let y0 := S.zqly_o a0_0 a0_1 a0_2 0
let y1 : Nat := 0 + y0.x3
let y2 := y0.x0
let y3 := y2.length
let y4 : Bool := bif bif decide (y1 ≤ y3) then true else false then true else false
let y5 := y0.x1
let y6 := y0.x2
let y7 : Lm := sub y2 0 y1
let y8 := y7.length
let y9 : Mat := { start := a1_0, fin := a1_1, agg := a1_2, bad := a1_3 : Mat }
let y10 : Nat := y8 + 1
let y11 : Nat := 0 + y10
let y12 : Lm := y7 ++ [y9]
(.br (S.zqly_is a0_0 a0_1 a0_2 0)
(.br (bif y4 then y4 else false)
(.br (S.znj4_is y5 y6 y7)
(.br (xnot (S.znj4_o y5 y6 y7).x0)
(.leaf ⟨y5, y6, y7, false⟩)
(.br (xeqI (↑y8 : Int) 6)
(.leaf ⟨y5, y6, y7, false⟩)
(.br (xeqI (S.zb3l_o y5 y7).x0 1099511627776)
(.leaf ⟨y5, y6, y7, false⟩)
(.br (xdec (0 + 1 ≤ ((List.replicate 1 (dflt .mat)).set 0 y9).length) && true && (y7.isEmpty || xdec (0 < 1)) && xdec (y10 ≤ 1048576))
(.br (xdec (y11 ≤ y12.length) && true && true && true)
(.leaf ⟨y5, y6, sub y12 0 y11, true⟩)
.fail)
.fail))))
.fail)
.fail)
.fail)
def S.z22l (a0_0 a0_1 : Int) (a0_2 : Lm) (a1_0 a1_1 a1_2 : Int) (a1_3 : Bool) : Option S.z22l_T := (S.z22l_R a0_0 a0_1 a0_2 a1_0 a1_1 a1_2 a1_3).run
def S.z22l_is (a0_0 a0_1 : Int) (a0_2 : Lm) (a1_0 a1_1 a1_2 : Int) (a1_3 : Bool) : Bool := (S.z22l a0_0 a0_1 a0_2 a1_0 a1_1 a1_2 a1_3).isSome
def S.z22l_o (a0_0 a0_1 : Int) (a0_2 : Lm) (a1_0 a1_1 a1_2 : Int) (a1_3 : Bool) : S.z22l_T := (S.z22l a0_0 a0_1 a0_2 a1_0 a1_1 a1_2 a1_3).getD default
def ret_z22l (b : Bool) (r : S.z22l_T) : Ret := ⟨b, none, [(true, [(cI r.x0), (cI r.x1), cL .mat r.x2]), (false, [cB r.x3])]⟩
def g_z22l : Con
 | [(true, [.sc (.int .i64 a0_0), .sc (.int .i64 a0_1), .sl a0_2n a0_2f .mat a0_2]), (true, [.sc (.int .i64 a1_0), .sc (.int .i64 a1_1), .sc (.int .i64 a1_2), .sc (.bool a1_3)])] => some (ret_z22l (S.z22l_is a0_0 a0_1 a0_2 a1_0 a1_1 a1_2 a1_3) (S.z22l_o a0_0 a0_1 a0_2 a1_0 a1_1 a1_2 a1_3))
 | _ => none
theorem raw_z22l (a0_0 a0_1 : Int) (a0_2n : OBz) (a0_2f : Bool) (a0_2 : Lm) (a1_0 a1_1 a1_2 : Int) (a1_3 : Bool) : evR2 cx_z22l (hdI cx_z22l (find []) [] none 0) none Tryz.f47 47 none [(true, [dI a0_0, dI a0_1, .sl a0_2n a0_2f .mat a0_2]), (true, [dI a1_0, dI a1_1, dI a1_2, .sc (.bool a1_3)])] some = (S.z22l_R a0_0 a0_1 a0_2 a1_0 a1_1 a1_2 a1_3).go (ret_z22l true) := by kernel_rfl
theorem bs_z22l : loopsIn Tryz.f47 [] = [] := by kernel_rfl
theorem z22l_ok : Stands Tryz.prog tyTab 47 g_z22l := by
 refine stands3 (L := find []) (n := 0) (hints := [(47, 2, { keep := [], acc := [], frz := true })]) (cx_ok rfl) rdy_z22l ⟨by kernel_rfl, by kernel_rfl, by kernel_rfl⟩ bs_z22l nilB (fun das r hG hr => ?_)
 unfold g_z22l at hG
 split at hG
 ·rename_i a0_0 a0_1 a0_2n a0_2f a0_2 a1_0 a1_1 a1_2 a1_3
  injection hG with hG; subst hG
  exact ⟨none, true, win default ((raw_z22l a0_0 a0_1 a0_2n a0_2f a0_2 a1_0 a1_1 a1_2 a1_3).trans (DT.go_run _ _)) hr⟩
 ·cases hG
abbrev cx_zqsm : Cx := mkCx2 tyTab [] [] [(56, 4, { keep := [0, 1, 12, 13], acc := [] })] []
theorem rdy_zqsm : Ready Tryz.prog tyTab [] [] [] := ⟨noneG2, noneI2, noneF2⟩
structure S.zqsm_4_V where
 t13_ : Int
def S.zqsm_4_R (qA qB : Lm) (qC : Int) (v : S.zqsm_4_V) : DT (Option Nat × S.zqsm_4_V) :=
let y0 : Bool := xdec (0 ≤ v.t13_)
let y1 : Ty .mat := qA.getD v.t13_.toNat (dflt .mat)
let y2 : Ty .mat := qB.getD v.t13_.toNat (dflt .mat)
(.br (xdec (v.t13_ < qC))
(.br (y0 && xdec (v.t13_ < (↑qA.length : Int)))
(.br (y0 && xdec (v.t13_ < (↑qB.length : Int)))
(.br (bif xeqI y1.start y2.start && (xeqI y1.fin y2.fin && (xeqI y1.agg y2.agg && xeqB y1.bad y2.bad)) then false else true)
(.leaf (some 0, v))
(.leaf (none, ⟨xwrap .i64 (v.t13_ + 1)⟩)))
.fail)
.fail)
(.leaf (some 1, v)))
def S.zqsm_4_r (qA qB : Lm) (qC : Int) (v : S.zqsm_4_V) : Option (Option Nat × S.zqsm_4_V) := (S.zqsm_4_R qA qB qC v).run
def S.zqsm_4_j (qA qB : Lm) (qC : Int) (v : S.zqsm_4_V) (j : Nat) : Bool := Lp_j (S.zqsm_4_r qA qB qC) v j
def S.zqsm_4_v (qA qB : Lm) (qC : Int) (v : S.zqsm_4_V) : S.zqsm_4_V := Lp_v (S.zqsm_4_r qA qB qC) v
def mk_zqsm_4 (qD : OBz) (qE : Bool) (qA : Lm) (qF : OBz) (qG : Bool) (qB : Lm) (qC : Int) (v : S.zqsm_4_V) : St := ⟨(V.v false [C.d (.sl qD qE .mat qA)] :: (V.v false [C.d (.sl qF qG .mat qB)] :: (vs 10 ((cV qC) :: ((cV v.t13_) :: (vs 12 [])))))), (ns 9 []), 0⟩
def ex_zqsm_4 (qD : OBz) (qE : Bool) (qA : Lm) (qF : OBz) (qG : Bool) (qB : Lm) (qC : Int) (j : Nat) (v : S.zqsm_4_V) : Ex × St := match j with
 | 0 => (Ex.ret, ⟨(vs 4 (V.v false [cB false] :: (vs 21 []))), (ns 22 []), 0⟩)
 | 1 => (Ex.exit 0, ⟨(vs 26 []), (ns 10 []), 0⟩)
 | _ => (.ret, ⟨[], [], 0⟩)
def T1_zqsm_4 : V → V → V → V → Tree
 | V.v false [C.d (.sl qD qE .mat qA)], V.v false [C.d (.sl qF qG .mat qB)], V.v false [C.d (.sc (.int .i64 qC))], V.v false [C.d (.sc (.int .i64 t13_))] => exT (fun j => ex_zqsm_4 qD qE qA qF qG qB qC j (S.zqsm_4_v qA qB qC ⟨t13_⟩)) (S.zqsm_4_j qA qB qC ⟨t13_⟩) [0, 1]
 | _, _, _, _ => .bad
def T_zqsm_4 (st : St) : Tree := bif okSt 26 9 0 [] st then T1_zqsm_4 (st.env.getD 0 .any) (st.env.getD 1 .any) (st.env.getD 12 .any) (st.env.getD 13 .any) else .bad
def b_zqsm_4 : Code := loopBy Tryz.f56 4
theorem rnd_zqsm_4 (qD : OBz) (qE : Bool) (qA : Lm) (qF : OBz) (qG : Bool) (qB : Lm) (qC : Int) (v : S.zqsm_4_V) : round2 cx_zqsm (hdI cx_zqsm (find []) [] none 0) 56 b_zqsm_4 [] 9 [4] (mk_zqsm_4 qD qE qA qF qG qB qC v) = (S.zqsm_4_R qA qB qC v).go (roundOut (mk_zqsm_4 qD qE qA qF qG qB qC) (ex_zqsm_4 qD qE qA qF qG qB qC)) := by kernel_rfl
theorem bs_zqsm_4 : loopsOf b_zqsm_4 ++ loopsInl [] = [] := by kernel_rfl
theorem ci_zqsm_4 (qD : OBz) (qE : Bool) (qA : Lm) (qF : OBz) (qG : Bool) (qB : Lm) (qC : Int) : ∀ v j v2, Lp (S.zqsm_4_r qA qB qC) v = some (j, v2) → Circles Tryz.prog cx_zqsm b_zqsm_4 (mk_zqsm_4 qD qE qA qF qG qB qC v) (ex_zqsm_4 qD qE qA qF qG qB qC j v2).1 (ex_zqsm_4 qD qE qA qF qG qB qC j v2).2 :=
 loop_ok2 (L := find []) (n := 0) (hints := [(56, 4, { keep := [0, 1, 12, 13], acc := [] })]) (cx_ok rfl) rdy_zqsm bs_zqsm_4 nilB (fun v => (rnd_zqsm_4 qD qE qA qF qG qB qC v).trans (DT.go_run _ _)) (by intro j v; unfold ex_zqsm_4; split <;> rfl)
theorem mke_zqsm_4 (qD : OBz) (qE : Bool) (qA : Lm) (qF : OBz) (qG : Bool) (qB : Lm) (qC : Int) (v : S.zqsm_4_V) : mk_zqsm_4 qD qE qA qF qG qB qC v = ⟨envOf 26 [(0, V.v false [C.d (.sl qD qE .mat qA)]), (1, V.v false [C.d (.sl qF qG .mat qB)]), (12, (cV qC)), (13, (cV v.t13_))], heapOf 9 [], 0⟩ := by kernel_rfl
theorem lo1_zqsm_4 (e0 e1 e12 e13 : V)  e st2 (h : (T1_zqsm_4 e0 e1 e12 e13).eval = some (e, st2)) : Circles Tryz.prog cx_zqsm b_zqsm_4 ⟨envOf 26 [(0, e0), (1, e1), (12, e12), (13, e13)], heapOf 9 [], 0⟩ e st2 := by
 unfold T1_zqsm_4 at h
 split at h
 ·have := loop_tree (mk := mk_zqsm_4 _ _ _ _ _ _ _) (ci_zqsm_4 _ _ _ _ _ _ _) _ _ e st2 h
  rw [mke_zqsm_4] at this
  exact this
 ·cases h
theorem lok_zqsm_4 : LoopOk Tryz.prog cx_zqsm b_zqsm_4 T_zqsm_4 := by
 intro st e st2 h
 unfold T_zqsm_4 at h
 cases hk : okSt 26 9 0 [] st with
 | false => rw [hk] at h; cases h
 | true =>
  rw [hk] at h
  exact circles_keep (ks := [0, 1, 12, 13]) hk (lo1_zqsm_4 _ _ _ _ e st2 h)
structure S.zqsm_T where
 x0 : Bool
 deriving Inhabited
def S.zqsm_R (a0 a1 : Lm) : DT S.zqsm_T :=
let y0 : Int := (↑a0.length : Int)
let y1 : S.zqsm_4_V := { t13_ := 0 : S.zqsm_4_V }
(.br (xneI y0 (↑a1.length : Int))
(.leaf ⟨false⟩)
(.br (S.zqsm_4_j a0 a1 y0 y1 0)
(.leaf ⟨false⟩)
(.br (S.zqsm_4_j a0 a1 y0 y1 1)
(.leaf ⟨true⟩)
.fail)))
def S.zqsm (a0 a1 : Lm) : Option S.zqsm_T := (S.zqsm_R a0 a1).run
def S.zqsm_is (a0 a1 : Lm) : Bool := (S.zqsm a0 a1).isSome
def S.zqsm_o (a0 a1 : Lm) : S.zqsm_T := (S.zqsm a0 a1).getD default
def ret_zqsm (b : Bool) (r : S.zqsm_T) : Ret := ⟨b, none, [(false, [cB r.x0])]⟩
def g_zqsm : Con
 | [(false, [.sl a0n a0f .mat a0]), (false, [.sl a1n a1f .mat a1])] => some (ret_zqsm (S.zqsm_is a0 a1) (S.zqsm_o a0 a1))
 | _ => none
theorem raw_zqsm (a0n : OBz) (a0f : Bool) (a0 : Lm) (a1n : OBz) (a1f : Bool) (a1 : Lm) : evR2 cx_zqsm (hdI cx_zqsm (find [(4, T_zqsm_4)]) [] none 0) none Tryz.f56 56 none [(false, [.sl a0n a0f .mat a0]), (false, [.sl a1n a1f .mat a1])] some = (S.zqsm_R a0 a1).go (ret_zqsm true) := by kernel_rfl
theorem bs_zqsm : loopsIn Tryz.f56 [] = [b_zqsm_4] := by kernel_rfl
theorem zqsm_ok : Stands Tryz.prog tyTab 56 g_zqsm := by
 refine stands3 (L := find [(4, T_zqsm_4)]) (n := 0) (hints := [(56, 4, { keep := [0, 1, 12, 13], acc := [] })]) (cx_ok rfl) rdy_zqsm ⟨by kernel_rfl, by kernel_rfl, by kernel_rfl⟩ bs_zqsm (consB (fun T h => by have e : T_zqsm_4 = T := Option.some.inj (show some T_zqsm_4 = some T from h); exact e ▸ lok_zqsm_4) nilB) (fun das r hG hr => ?_)
 unfold g_zqsm at hG
 split at hG
 ·rename_i a0n a0f a0 a1n a1f a1
  injection hG with hG; subst hG
  exact ⟨none, true, win default ((raw_zqsm a0n a0f a0 a1n a1f a1).trans (DT.go_run _ _)) hr⟩
 ·cases hG
abbrev cx_zzaz : Cx := mkCx2 tyTab [(56, g_zqsm)] [] [] []
theorem rdy_zzaz : Ready Tryz.prog tyTab [(56, g_zqsm)] [] [] := ⟨consG2 zqsm_ok (noneG2), noneI2, noneF2⟩
structure S.zzaz_T where
 x0 : Bool
 deriving Inhabited
def S.zzaz_R (a0_0 a0_1 : Int) (a0_2 : Lm) (a1_0 a1_1 : Int) (a1_2 : Lm) : DT S.zzaz_T :=
(.br (xeqI a0_0 a1_0)
(.br (xeqI a0_1 a1_1)
(.br (S.zqsm_is a0_2 a1_2)
(.leaf ⟨(S.zqsm_o a0_2 a1_2).x0⟩)
.fail)
(.leaf ⟨false⟩))
(.leaf ⟨false⟩))
def S.zzaz (a0_0 a0_1 : Int) (a0_2 : Lm) (a1_0 a1_1 : Int) (a1_2 : Lm) : Option S.zzaz_T := (S.zzaz_R a0_0 a0_1 a0_2 a1_0 a1_1 a1_2).run
def S.zzaz_is (a0_0 a0_1 : Int) (a0_2 : Lm) (a1_0 a1_1 : Int) (a1_2 : Lm) : Bool := (S.zzaz a0_0 a0_1 a0_2 a1_0 a1_1 a1_2).isSome
def S.zzaz_o (a0_0 a0_1 : Int) (a0_2 : Lm) (a1_0 a1_1 : Int) (a1_2 : Lm) : S.zzaz_T := (S.zzaz a0_0 a0_1 a0_2 a1_0 a1_1 a1_2).getD default
def ret_zzaz (b : Bool) (r : S.zzaz_T) : Ret := ⟨b, none, [(false, [cB r.x0])]⟩
def g_zzaz : Con
 | [(true, [.sc (.int .i64 a0_0), .sc (.int .i64 a0_1), .sl a0_2n a0_2f .mat a0_2]), (true, [.sc (.int .i64 a1_0), .sc (.int .i64 a1_1), .sl a1_2n a1_2f .mat a1_2])] => some (ret_zzaz (S.zzaz_is a0_0 a0_1 a0_2 a1_0 a1_1 a1_2) (S.zzaz_o a0_0 a0_1 a0_2 a1_0 a1_1 a1_2))
 | _ => none
theorem raw_zzaz (a0_0 a0_1 : Int) (a0_2n : OBz) (a0_2f : Bool) (a0_2 : Lm) (a1_0 a1_1 : Int) (a1_2n : OBz) (a1_2f : Bool) (a1_2 : Lm) : evR2 cx_zzaz (hdI cx_zzaz (find []) [] none 0) none Tryz.f35 35 none [(true, [dI a0_0, dI a0_1, .sl a0_2n a0_2f .mat a0_2]), (true, [dI a1_0, dI a1_1, .sl a1_2n a1_2f .mat a1_2])] some = (S.zzaz_R a0_0 a0_1 a0_2 a1_0 a1_1 a1_2).go (ret_zzaz true) := by kernel_rfl
theorem bs_zzaz : loopsIn Tryz.f35 [] = [] := by kernel_rfl
theorem zzaz_ok : Stands Tryz.prog tyTab 35 g_zzaz := by
 refine stands3 (L := find []) (n := 0) (hints := []) (cx_ok rfl) rdy_zzaz ⟨by kernel_rfl, by kernel_rfl, by kernel_rfl⟩ bs_zzaz nilB (fun das r hG hr => ?_)
 unfold g_zzaz at hG
 split at hG
 ·rename_i a0_0 a0_1 a0_2n a0_2f a0_2 a1_0 a1_1 a1_2n a1_2f a1_2
  injection hG with hG; subst hG
  exact ⟨none, true, win default ((raw_zzaz a0_0 a0_1 a0_2n a0_2f a0_2 a1_0 a1_1 a1_2n a1_2f a1_2).trans (DT.go_run _ _)) hr⟩
 ·cases hG
end
end Go.Eng
