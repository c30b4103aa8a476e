/- Contracts, laid by program. -/
import Derived.Test.YtbjeikmkngcjlaaZG9
set_option linter.unusedVariables false
set_option linter.unusedSimpArgs false
namespace Go.Eng
noncomputable section
open Go Go.Eng Go.Proofs Go.Eng.Tab
abbrev cx_law15_SubHolds : Cx := mkCx2 tyTab [(36, g_law06_Few), (63, g_law15_awake), (64, g_law15_Few), (65, g_sub_May), (66, g_sub_Feed), (68, g_sub_Give), (69, g_sub_Go), (70, g_sub_Hold), (71, g_ref15_Same)] [] [] []
theorem rdy_law15_SubHolds : Ready Try.prog tyTab [(36, g_law06_Few), (63, g_law15_awake), (64, g_law15_Few), (65, g_sub_May), (66, g_sub_Feed), (68, g_sub_Give), (69, g_sub_Go), (70, g_sub_Hold), (71, g_ref15_Same)] [] [] := ⟨consG2 law06_Few_ok (consG2 law15_awake_ok (consG2 law15_Few_ok (consG2 sub_May_ok (consG2 sub_Feed_ok (consG2 sub_Give_ok (consG2 sub_Go_ok (consG2 sub_Hold_ok (consG2 ref15_Same_ok (noneG2))))))))), noneI2, noneF2⟩
structure S.law15_SubHolds_T where
  x0 : Bool
  deriving Inhabited
def S.law15_SubHolds_R (a0_0 : Int) (a0_1 : Int) (a0_2 : List (Ty .step)) (a0_3 : Int) (a0_4 : Int) (a0_5 : Int) (a0_6 : Int) (a0_7 : List (Ty .run)) (a0_8 : Int) (a0_9 : Int) (a0_10 : Int) (a0_11 : List (Ty .mat)) (a0_12 : Bool) (a0_13 : Int) (a0_14 : Bool) (a1_0 : ByteArray) (a1_1 : Int) (a1_2 : List (Ty .val)) (a2 : Int) (a3 : Int) : DT S.law15_SubHolds_T :=
let y0 : S.sub_Hold_T := S.sub_Hold_o a0_0 a0_1 a0_2 a0_3 a0_4 a0_5 a0_6 a0_7 a0_8 a0_9 a0_10 a0_11 a0_13 a0_14
let y1 : Int := y0.x0
let y2 : Int := y0.x1
let y3 : List (Ty .step) := y0.x2
let y4 : Int := y0.x3
let y5 : Int := y0.x4
let y6 : Int := y0.x5
let y7 : Int := y0.x6
let y8 : List (Ty .run) := y0.x7
let y9 : Int := y0.x8
let y10 : Int := y0.x9
let y11 : Int := y0.x10
let y12 : List (Ty .mat) := y0.x11
let y13 : Bool := y0.x12
let y14 : Int := y0.x13
let y15 : Bool := y0.x14
let y16 : S.sub_Feed_T := S.sub_Feed_o a0_0 a0_1 a0_2 a0_3 a0_4 a0_5 a0_6 a0_7 a0_8 a0_9 a0_10 a0_11 a0_12 a0_13 a0_14 a1_0 a1_1 a1_2 a2
let y17 : Int := y16.x0
let y18 : Int := y16.x1
let y19 : List (Ty .step) := y16.x2
let y20 : Int := y16.x3
let y21 : Int := y16.x4
let y22 : Int := y16.x5
let y23 : Int := y16.x6
let y24 : List (Ty .run) := y16.x7
let y25 : Int := y16.x8
let y26 : Int := y16.x9
let y27 : Int := y16.x10
let y28 : List (Ty .mat) := y16.x11
let y29 : Int := y16.x13
let y30 : Bool := y16.x14
let y31 : S.sub_Feed_T := S.sub_Feed_o y1 y2 y3 y4 y5 y6 y7 y8 y9 y10 y11 y12 y13 y14 y15 a1_0 a1_1 a1_2 a2
let y32 : Int := y31.x0
let y33 : Int := y31.x1
let y34 : List (Ty .step) := y31.x2
let y35 : Int := y31.x3
let y36 : Int := y31.x4
let y37 : Int := y31.x5
let y38 : Int := y31.x6
let y39 : List (Ty .run) := y31.x7
let y40 : Int := y31.x8
let y41 : Int := y31.x9
let y42 : Int := y31.x10
let y43 : List (Ty .mat) := y31.x11
let y44 : Bool := y31.x12
let y45 : Int := y31.x13
let y46 : Bool := y31.x14
let y47 : S.sub_Hold_T := S.sub_Hold_o y17 y18 y19 y20 y21 y22 y23 y24 y25 y26 y27 y28 y29 y30
let y48 : Int := y47.x0
let y49 : Int := y47.x1
let y50 : List (Ty .step) := y47.x2
let y51 : Int := y47.x3
let y52 : Int := y47.x4
let y53 : Int := y47.x5
let y54 : Int := y47.x6
let y55 : List (Ty .run) := y47.x7
let y56 : Int := y47.x8
let y57 : Int := y47.x9
let y58 : Int := y47.x10
let y59 : List (Ty .mat) := y47.x11
let y60 : Bool := y47.x12
let y61 : Int := y47.x13
let y62 : Bool := y47.x14
let y63 : S.sub_Go_T := S.sub_Go_o y1 y2 y3 y4 y5 y6 y7 y8 y9 y10 y11 y12 y14 a3
(.br (S.law15_awake_is)
(.br (S.law15_Few_is a0_2 a0_7 a0_11)
(.br (S.law06_Few_is a1_0 a1_2)
(.br (xnot S.law15_awake_o.x0)
(.leaf ⟨S.law15_awake_o.x0⟩)
(.br (xnot (S.law15_Few_o a0_2 a0_7 a0_11).x0)
(.leaf ⟨S.law15_awake_o.x0⟩)
(.br (xnot (S.law06_Few_o a1_0 a1_2).x0)
(.leaf ⟨S.law15_awake_o.x0⟩)
(.br (S.sub_May_is a0_0 a0_1 a0_2 a0_7 a0_8 a0_9 a0_10 a0_11 a0_13 a0_14)
(.br (xnot (S.sub_May_o a0_0 a0_1 a0_2 a0_7 a0_8 a0_9 a0_10 a0_11 a0_13 a0_14).x0)
(.leaf ⟨S.law15_awake_o.x0⟩)
(.br (S.sub_Hold_is a0_0 a0_1 a0_2 a0_3 a0_4 a0_5 a0_6 a0_7 a0_8 a0_9 a0_10 a0_11 a0_13 a0_14)
(.br (S.sub_Give_is y1 y2 y3 y4 y5 y6 y7 y8 y9 y10 y11 y12 y13 y14 y15)
(.br (S.sub_Feed_is y1 y2 y3 y4 y5 y6 y7 y8 y9 y10 y11 y12 y13 y14 y15 a1_0 a1_1 a1_2 a2)
(.br (S.sub_Feed_is a0_0 a0_1 a0_2 a0_3 a0_4 a0_5 a0_6 a0_7 a0_8 a0_9 a0_10 a0_11 a0_12 a0_13 a0_14 a1_0 a1_1 a1_2 a2)
(.br (S.sub_Hold_is y17 y18 y19 y20 y21 y22 y23 y24 y25 y26 y27 y28 y29 y30)
(.br (S.sub_Give_is y32 y33 y34 y35 y36 y37 y38 y39 y40 y41 y42 y43 y44 y45 y46)
(.br (S.sub_Go_is y1 y2 y3 y4 y5 y6 y7 y8 y9 y10 y11 y12 y14 a3)
(.br (S.ref15_Same_is y32 y33 y34 y35 y36 y37 y38 y39 y40 y41 y42 y43 y44 y45 y46 y48 y49 y50 y51 y52 y53 y54 y55 y56 y57 y58 y59 y60 y61 y62)
(.br (xnot (S.sub_Give_o y1 y2 y3 y4 y5 y6 y7 y8 y9 y10 y11 y12 y13 y14 y15).x22)
(.br (xnot (S.sub_Give_o y32 y33 y34 y35 y36 y37 y38 y39 y40 y41 y42 y43 y44 y45 y46).x22)
(.br ((S.ref15_Same_o y32 y33 y34 y35 y36 y37 y38 y39 y40 y41 y42 y43 y44 y45 y46 y48 y49 y50 y51 y52 y53 y54 y55 y56 y57 y58 y59 y60 y61 y62).x0)
(.br (xneI y63.x15 0)
(.leaf ⟨true⟩)
(.br (xnot y63.x12)
(.leaf ⟨xeqI y63.x10 a3⟩)
(.leaf ⟨false⟩)))
(.leaf ⟨false⟩))
(.leaf ⟨false⟩))
(.leaf ⟨false⟩))
.fail)
.fail)
.fail)
.fail)
.fail)
.fail)
.fail)
.fail))
.fail))))
.fail)
.fail)
.fail)
def S.law15_SubHolds (a0_0 : Int) (a0_1 : Int) (a0_2 : List (Ty .step)) (a0_3 : Int) (a0_4 : Int) (a0_5 : Int) (a0_6 : Int) (a0_7 : List (Ty .run)) (a0_8 : Int) (a0_9 : Int) (a0_10 : Int) (a0_11 : List (Ty .mat)) (a0_12 : Bool) (a0_13 : Int) (a0_14 : Bool) (a1_0 : ByteArray) (a1_1 : Int) (a1_2 : List (Ty .val)) (a2 : Int) (a3 : Int) : Option S.law15_SubHolds_T := (S.law15_SubHolds_R a0_0 a0_1 a0_2 a0_3 a0_4 a0_5 a0_6 a0_7 a0_8 a0_9 a0_10 a0_11 a0_12 a0_13 a0_14 a1_0 a1_1 a1_2 a2 a3).run
def S.law15_SubHolds_is (a0_0 : Int) (a0_1 : Int) (a0_2 : List (Ty .step)) (a0_3 : Int) (a0_4 : Int) (a0_5 : Int) (a0_6 : Int) (a0_7 : List (Ty .run)) (a0_8 : Int) (a0_9 : Int) (a0_10 : Int) (a0_11 : List (Ty .mat)) (a0_12 : Bool) (a0_13 : Int) (a0_14 : Bool) (a1_0 : ByteArray) (a1_1 : Int) (a1_2 : List (Ty .val)) (a2 : Int) (a3 : Int) : Bool := (S.law15_SubHolds a0_0 a0_1 a0_2 a0_3 a0_4 a0_5 a0_6 a0_7 a0_8 a0_9 a0_10 a0_11 a0_12 a0_13 a0_14 a1_0 a1_1 a1_2 a2 a3).isSome
def S.law15_SubHolds_o (a0_0 : Int) (a0_1 : Int) (a0_2 : List (Ty .step)) (a0_3 : Int) (a0_4 : Int) (a0_5 : Int) (a0_6 : Int) (a0_7 : List (Ty .run)) (a0_8 : Int) (a0_9 : Int) (a0_10 : Int) (a0_11 : List (Ty .mat)) (a0_12 : Bool) (a0_13 : Int) (a0_14 : Bool) (a1_0 : ByteArray) (a1_1 : Int) (a1_2 : List (Ty .val)) (a2 : Int) (a3 : Int) : S.law15_SubHolds_T := (S.law15_SubHolds a0_0 a0_1 a0_2 a0_3 a0_4 a0_5 a0_6 a0_7 a0_8 a0_9 a0_10 a0_11 a0_12 a0_13 a0_14 a1_0 a1_1 a1_2 a2 a3).getD default
def ret_law15_SubHolds (b : Bool) (r : S.law15_SubHolds_T) : Ret := ⟨b, none, [(false, [C.d (.sc (.bool r.x0))])]⟩
def g_law15_SubHolds : Con
  | [(true, [.sc (.int .i64 a0_0), .sc (.int .i64 a0_1), .sl a0_2n a0_2f .step a0_2, .sc (.int .i64 a0_3), .sc (.int .i64 a0_4), .sc (.int .i64 a0_5), .sc (.int .i64 a0_6), .sl a0_7n a0_7f .run a0_7, .sc (.int .i64 a0_8), .sc (.int .i64 a0_9), .sc (.int .i64 a0_10), .sl a0_11n a0_11f .mat a0_11, .sc (.bool a0_12), .sc (.int .i64 a0_13), .sc (.bool a0_14)]), (true, [.sc (.str a1_0), .sc (.int .i64 a1_1), .sl a1_2n a1_2f .val a1_2]), (false, [.sc (.int .i64 a2)]), (false, [.sc (.int .i64 a3)])] => some (ret_law15_SubHolds (S.law15_SubHolds_is a0_0 a0_1 a0_2 a0_3 a0_4 a0_5 a0_6 a0_7 a0_8 a0_9 a0_10 a0_11 a0_12 a0_13 a0_14 a1_0 a1_1 a1_2 a2 a3) (S.law15_SubHolds_o a0_0 a0_1 a0_2 a0_3 a0_4 a0_5 a0_6 a0_7 a0_8 a0_9 a0_10 a0_11 a0_12 a0_13 a0_14 a1_0 a1_1 a1_2 a2 a3))
  | _ => none
theorem raw_law15_SubHolds (a0_0 : Int) (a0_1 : Int) (a0_2n : Option Bool) (a0_2f : Bool) (a0_2 : List (Ty .step)) (a0_3 : Int) (a0_4 : Int) (a0_5 : Int) (a0_6 : Int) (a0_7n : Option Bool) (a0_7f : Bool) (a0_7 : List (Ty .run)) (a0_8 : Int) (a0_9 : Int) (a0_10 : Int) (a0_11n : Option Bool) (a0_11f : Bool) (a0_11 : List (Ty .mat)) (a0_12 : Bool) (a0_13 : Int) (a0_14 : Bool) (a1_0 : ByteArray) (a1_1 : Int) (a1_2n : Option Bool) (a1_2f : Bool) (a1_2 : List (Ty .val)) (a2 : Int) (a3 : Int) : evR2 cx_law15_SubHolds (hdI cx_law15_SubHolds (find []) [] none 0) none Try.f23 23 none [(true, [.sc (.int .i64 a0_0), .sc (.int .i64 a0_1), .sl a0_2n a0_2f .step a0_2, .sc (.int .i64 a0_3), .sc (.int .i64 a0_4), .sc (.int .i64 a0_5), .sc (.int .i64 a0_6), .sl a0_7n a0_7f .run a0_7, .sc (.int .i64 a0_8), .sc (.int .i64 a0_9), .sc (.int .i64 a0_10), .sl a0_11n a0_11f .mat a0_11, .sc (.bool a0_12), .sc (.int .i64 a0_13), .sc (.bool a0_14)]), (true, [.sc (.str a1_0), .sc (.int .i64 a1_1), .sl a1_2n a1_2f .val a1_2]), (false, [.sc (.int .i64 a2)]), (false, [.sc (.int .i64 a3)])] some = (S.law15_SubHolds_R a0_0 a0_1 a0_2 a0_3 a0_4 a0_5 a0_6 a0_7 a0_8 a0_9 a0_10 a0_11 a0_12 a0_13 a0_14 a1_0 a1_1 a1_2 a2 a3).go (ret_law15_SubHolds true) := by kernel_rfl
theorem bs_law15_SubHolds : loopsIn Try.f23 [] = [] := by kernel_rfl
theorem law15_SubHolds_ok : Stands Try.prog tyTab 23 g_law15_SubHolds := by
  refine stands3 (L := find []) (n := 0) (hints := []) (cx_ok rfl) rdy_law15_SubHolds ⟨by kernel_rfl, by kernel_rfl, by kernel_rfl⟩ bs_law15_SubHolds nilB (fun das r hG hr => ?_)
  unfold g_law15_SubHolds at hG
  split at hG
  · rename_i a0_0 a0_1 a0_2n a0_2f a0_2 a0_3 a0_4 a0_5 a0_6 a0_7n a0_7f a0_7 a0_8 a0_9 a0_10 a0_11n a0_11f a0_11 a0_12 a0_13 a0_14 a1_0 a1_1 a1_2n a1_2f a1_2 a2 a3
    injection hG with hG; subst hG
    exact ⟨none, true, win default ((raw_law15_SubHolds a0_0 a0_1 a0_2n a0_2f a0_2 a0_3 a0_4 a0_5 a0_6 a0_7n a0_7f a0_7 a0_8 a0_9 a0_10 a0_11n a0_11f a0_11 a0_12 a0_13 a0_14 a1_0 a1_1 a1_2n a1_2f a1_2 a2 a3).trans (DT.go_run _ _)) hr⟩
  · cases hG
end
end Go.Eng
